/-
  A part of a proof: D1 S4 S5 R1.
-/
import Derived.Test.YtkfjenbfbendhaaGreatDoorPk07
set_option linter.unusedSimpArgs false
set_option linter.unusedVariables false
section
namespace Go.V
def ltS:Str→Str→Bool
 |[],[]=>false
 |_::_,[]=>false
 |[],_::_=>true
 |a::x,b::y=>decide (a<b)||(a==b&&ltS x y)
def cmpI (a b:Int):Int:=if a<b then -1 else if b<a then 1 else 0
def cmpS (a b:Str):Int:=if ltS a b then -1 else if ltS b a then 1 else 0
def dN {α:Type}(c:α→α→Int):List α→List α→Int
 |[],[]=>0
 |[],_::_=>-1
 |_::_,[]=>1
 |a::x,b::y=>if c a b=0 then dN c x y else c a b
def orI (a b:Int):Int:=if a=0 then b else a
def zeroDoc:Doc:=.mk 0 0 [] [] []
def C6 (first:Bool)(c:UInt8):Bool:=
 (decide (97≤c.toNat)&&decide (c.toNat≤122))||(!first&&(decide (c.toNat=95)||(decide (48≤c.toNat)&&decide (c.toNat≤57))))
def kx:Bool→Str→Bool
 |_,[]=>true
 |first,c::r=>C6 first c&&kx false r
def dA (s:Str):Bool:=!s.isEmpty&&decide (s.length≤16)&&kx true s
mutual
def je:Doc→Nat
 |.mk _ _ _ _ ds=>gO ds+1
def gO:List Doc→Nat
 |[]=>0
 |d::r=>max (je d) (gO r)
end
mutual
def dG:Doc→Nat
 |.mk _ _ _ _ ds=>cf ds+1
def cf:List Doc→Nat
 |[]=>0
 |d::r=>dG d+cf r
end
def cw:List Str→Nat
 |[]=>0
 |s::r=>s.length+1+cw r
mutual
def wD:Doc→Nat
 |.mk _ _ s ks ds=>s.length+cw ks+wDs ds+1
def wDs:List Doc→Nat
 |[]=>0
 |d::r=>wD d+wDs r
end
def fH (d:Doc):Bool:=
 if d.kind=1∨d.kind=2 then decide (d.num=0)&&decide (d.str=[])&&decide (d.keys.length=d.kids.length)
 else if d.kind=3 then decide (d.num=0)&&decide (d.str=[])&&decide (d.keys.length=0)
 else if d.keys.length+d.kids.length>0 then false
 else if d.kind=4 then decide (d.str=[])
 else if d.kind=5 then decide (d.str=[])&&(decide (d.num=0)||decide (d.num=1))
 else if d.kind=6 then decide (d.num=0)&&decide (d.str.length≤256)
 else false
def fi (rec:Bool):Option Str→List Str→Bool
 |_,[]=>true
 |p,s::r=>(match p with|none=>true|some q=>ltS q s)&&(!rec||dA s)&&decide (s.length≤256)&&fi rec (some s) r
def uD (d:Doc):Bool:=fi (decide (d.kind=1)) none d.keys
mutual
def rightD:Doc→Bool
 |.mk k n s ks ds=>fH (.mk k n s ks ds)&&fi (decide (k=1)) none ks&&lD ds
def lD:List Doc→Bool
 |[]=>true
 |d::r=>rightD d&&lD r
end
def dS (d:Doc):Bool:=decide (je d≤12)&&decide (dG d≤512)&&rightD d
mutual
def eqD:Doc→Doc→Bool
 |.mk k n s ks ds,.mk k' n' s' ks' ds'=>decide (k=k')&&decide (n=n')&&decide (s=s')&&decide (ks=ks')&&yY ds ds'
def yY:List Doc→List Doc→Bool
 |[],[]=>true
 |d::r,d'::r'=>eqD d d'&&yY r r'
 |_,_=>false
end
def zeroTy:Ty:=.mk 0 0 0 [] [] []
mutual
def dc:Ty→Nat
 |.mk _ _ _ _ fs ts=>dT fs+dU ts+1
def dT:List Fld→Nat
 |[]=>0
 |.mk _ _ t::r=>dc t+dT r
def dU:List Ty→Nat
 |[]=>0
 |t::r=>dc t+dU r
end
mutual
def dK:Ty→Nat
 |.mk _ _ _ _ fs ts=>max (dW fs) (dy ts)+1
def dW:List Fld→Nat
 |[]=>0
 |.mk _ _ t::r=>max (dK t) (dW r)
def dy:List Ty→Nat
 |[]=>0
 |t::r=>max (dK t) (dy r)
end
mutual
def wT:Ty→Nat
 |.mk _ _ _ ns fs ts=>cw ns+wFs fs+wTs ts+1
def wFs:List Fld→Nat
 |[]=>0
 |.mk n _ t::r=>n.length+1+wT t+wFs r
def wTs:List Ty→Nat
 |[]=>0
 |t::r=>wT t+wTs r
end
def eG (t:Ty):Bool:=decide (4≤t.kind)&&decide (t.kind≤7)
def xL (k:Int):Bool:=decide (k=2)||decide (k=3)
def nA (t:Ty):Bool:=
 (decide (t.kind=1)||t.fields.isEmpty)&&(decide (t.kind=7)||t.names.isEmpty)&&(xL t.kind||t.of.isEmpty) &&
 ((xL t.kind||decide (t.kind=4)||decide (t.kind=6))||(decide (t.lo=0)&&decide (t.hi=0)))
def fV:Option Str→List Str→Bool
 |_,[]=>true
 |p,s::r=>decide (s.length≤256)&&(match p with|none=>true|some q=>ltS q s)&&fV (some s) r
def nQ (l:List Str):Bool:=fV none l&&decide (0<l.length)&&decide (l.length≤32)
mutual
def gS:Ty→Bool
 |.mk k lo hi ns fs ts=>nA (.mk k lo hi ns fs ts) &&
  (if k=1 then fX none fs&&decide (fs.length≤32)
   else if k=2∨k=3 then decide (ts.length=1)&&decide (0≤lo)&&decide (lo≤hi)&&mi ts
   else if k=4 then decide (lo≤hi)
   else if k=5 then true
   else if k=6 then decide (0≤lo)&&decide (lo≤hi)&&decide (hi≤256)
   else if k=7 then nQ ns
   else false)
def fX:Option Str→List Fld→Bool
 |_,[]=>true
 |p,.mk n _ t::r=>dA n&&(match p with|none=>true|some q=>ltS q n)&&gS t&&fX (some n) r
def mi:List Ty→Bool
 |[]=>true
 |t::_=>gS t
end
def bq (t:Ty):Bool:=decide (dc t≤128)&&decide (dK t≤12)&&gS t
mutual
def eqT:Ty→Ty→Bool
 |.mk k l h ns fs ts,.mk k' l' h' ns' fs' ts'=>decide (k=k')&&decide (l=l')&&decide (h=h')&&decide (ns=ns')&&Dg fs fs'&&Dh ts ts'
def Dg:List Fld→List Fld→Bool
 |[],[]=>true
 |.mk n o t::r,.mk n' o' t'::r'=>decide (n=n')&&decide (o=o')&&eqT t t'&&Dg r r'
 |_,_=>false
def Dh:List Ty→List Ty→Bool
 |[],[]=>true
 |t::r,t'::r'=>eqT t t'&&Dh r r'
 |_,_=>false
end
def d7 (t:Ty)(d:Doc):Int:=
 if (if t.kind=7 then d.kind=6 else t.kind=d.kind) then
  if t.kind=2∨t.kind=3 then (if (d.kids.length:Int)<t.lo∨t.hi<d.kids.length then 8 else 0)
  else if t.kind=4 then (if d.num<t.lo∨t.hi<d.num then 8 else 0)
  else if t.kind=6 then (if (d.str.length:Int)<t.lo∨t.hi<d.str.length then 8 else 0)
  else if t.kind=7 then (if t.names.contains d.str then 0 else 8)
  else 0
 else 7
def eL (n:Str):List Str→List Doc→Option Doc
 |k::ks,d::ds=>if k=n then some d else eL n ks ds
 |_,_=>none
def rO (n:Str):List Fld→Bool
 |[]=>false
 |.mk m _ _::r=>decide (m=n)||rO n r
mutual
def okT:Ty→Doc→Bool
 |.mk k lo hi ns fs ts,d=>decide (d7 (.mk k lo hi ns fs ts) d=0) &&
  (if k=1 then vX fs d&&d.keys.all (fun s=>rO s fs)
   else if k=2∨k=3 then sv ts d
   else true)
def vX:List Fld→Doc→Bool
 |[],_=>true
 |.mk n o t::r,d=>(match eL n d.keys d.kids with|some x=>okT t x|none=>o)&&vX r d
def sv:List Ty→Doc→Bool
 |[],_=>true
 |t::_,d=>d.kids.all (fun x=>okT t x)
end
def cD (t:Ty)(d:Doc):Bool:=bq t&&dS d&&okT t d
mutual
def oW:Lns→Nat
 |.mk _ _ _ _ _ _ l=>bQ l
def bQ:List Lns→Nat
 |[]=>0
 |s::r=>oW s+1+bQ r
end
mutual
def kf:Lns→Nat
 |.mk _ _ _ _ _ _ l=>ak l
def ak:List Lns→Nat
 |[]=>0
 |s::r=>max (kf s+1) (ak r)
end
mutual
def wN:Lns→Nat
 |.mk _ a b t d sw l=>a.length+b.length+wT t+wD d+2*sw.length+wNs l+1
def wNs:List Lns→Nat
 |[]=>0
 |s::r=>wN s+wNs r
end
def dC (k:Int):Int:=if k=2∨k=4∨k=6 then k+1 else if k=3∨k=5∨k=7 then k-1 else k
mutual
def turnN:Lns→Lns
 |.mk k a b t d sw l=>.mk (dC k) (if k=1 then b else a) (if k=1 then a else b) t d sw (if k=9∨k=10 then ba l else l)
def ba:List Lns→List Lns
 |[]=>[]
 |s::r=>ba r++[turnN s]
end
def pN (s:Lns):Lns:=.mk (dC s.kind) (if s.kind=1 then s.b else s.a) (if s.kind=1 then s.a else s.b) s.ty s.doc s.swaps s.subs
def fP (n:Int):List (Int×Int)→Int
 |[]=>n
 |(a,b)::r=>if a=n then b else if b=n then a else fP n r
def aj (n:Str):List Fld→Option Fld
 |[]=>none
 |f::r=>if f.name=n then some f else aj n r
def br (n:Str):List Fld→List Fld
 |[]=>[]
 |f::r=>if f.name=n then br n r else f::br n r
def dz (f:Fld):List Fld→List Fld
 |[]=>[f]
 |g::r=>if ltS f.name g.name then f::g::r else g::dz f r
def fieldR (t:Ty)(n:Str):Option Fld:=if t.kind=1 then aj n t.fields else none
def d8 (fs:List Fld):Ty:=.mk 1 0 0 [] fs []
def dv (t:Ty)(f:Fld):Ty:=d8 (dz f t.fields)
def bE (t:Ty)(n:Str):Ty:=d8 (br n t.fields)
def eq (t:Ty)(n:Str)(u:Ty):Ty:=dv (bE t n) (.mk n false u)
def eQ (t:Ty)(d:Doc):Int:=if bq t=false∨eG t=false then 7 else if cD t d=false then 8 else 0
def cd:List (Int×Int)→List Int
 |[]=>[]
 |(a,b)::r=>a::b::cd r
def sq:List Int→Bool
 |[]=>false
 |a::r=>r.contains a||sq r
def jq (l:List (Int×Int))(t:Ty):Int:=
 if sq (cd l) then 1 else if l.length=0∨32<l.length then 1 else if (cd l).any (fun n=>decide (n<t.lo)||decide (t.hi<n)) then 8 else 0
mutual
def fl:Lns→Ty→Except Int Ty
 |.mk k a b ty d sw subs,r=>
  if k=2 then
   if dA a=false then .error 1 else if (fieldR r a).isSome then .error 5 else
   if eQ ty d=0 then .ok (dv r (.mk a false ty)) else .error (eQ ty d)
  else if k=1∨(3≤k∧k≤10) then
   match fieldR r a with
   |none=>.error 9
   |some f=>if f.opt=true∧k≠1 then .error 7 else
    if k=1 then
     if dA b=false then .error 1 else if (fieldR r b).isSome then .error 5 else .ok (dv (bE r a) (.mk b f.opt f.ty))
    else if k=3 then
     if eqT f.ty ty=false then .error 7 else if eQ ty d=0 then .ok (bE r a) else .error (eQ ty d)
    else if k=4 then
     if f.ty.kind≠1 then .error 7 else
     match aj b f.ty.fields with
     |none=>.error 9
     |some g=>if g.opt then .error 7 else if (fieldR r b).isSome then .error 5 else .ok (dv (eq r a (bE f.ty b)) g)
    else if k=5 then
     match fieldR r b with
     |none=>.error 9
     |some g=>if g.opt=true∨f.ty.kind≠1∨a=b then .error 7 else
      if (aj b f.ty.fields).isSome then .error 5 else .ok (bE (eq r a (dv f.ty g)) b)
    else if k=6 then
     if eG f.ty then .ok (eq r a (.mk 3 1 1 [] [] [f.ty])) else .error 7
    else if k=7 then
     match f.ty with
     |.mk 3 1 1 _ _ (t::_)=>if eG t then .ok (eq r a t) else .error 7
     |_=>.error 7
    else if k=8 then
     if f.ty.kind≠4 then .error 7 else if jq sw f.ty=0 then .ok r else .error (jq sw f.ty)
    else if k=9 then
     if f.ty.kind≠1 then .error 7 else
     match bO subs f.ty 0 with
     |.ok t=>.ok (eq r a t)
     |.error e=>.error e.2
    else
     match f.ty with
     |.mk 2 lo hi ns fs (t::_)=>if t.kind≠1 then .error 7 else
      match bO subs t 0 with
      |.ok u=>.ok (eq r a (.mk 2 lo hi ns fs [u]))
      |.error e=>.error e.2
     |_=>.error 7
  else .error 1
def bO:List Lns→Ty→Nat→Except (Nat×Int) Ty
 |[],r,_=>.ok r
 |s::l,r,k=>match fl s r with
  |.ok r'=>if bq r' then bO l r' (k+1) else .error (k,2)
  |.error e=>.error (k,e)
end
def bH (t:Ty)(l:List Lns):Ty×Nat×Int:=
 if bq t=false∨t.kind≠1 then (zeroTy,0,1)
 else if 64<bQ l then (zeroTy,0,2)
 else if 8<ak l then (zeroTy,0,6)
 else match bO l t 0 with
  |.ok u=>(u,l.length,0)
  |.error e=>(zeroTy,e.1,e.2)
def dP (a b:Res):Int:=orI (cmpI a.edge b.edge) (orI (dN cmpI a.step b.step) (dN cmpS a.at_ b.at_))
def oT:Option Res→List Res→Bool
 |_,[]=>true
 |p,x::r=>dS x.doc&&(match p with|none=>true|some q=>decide (dP q x<0))&&oT (some x) r
def bC (l:List Res):Bool:=oT none l&&decide (l.length≤256)
def kU (e:Int)(st:List Int)(ks:List Str)(x:Res):Bool:=decide (dP x ⟨e,st,ks,zeroDoc⟩=0)
def fj (e:Int)(st:List Int)(ks:List Str):List Res→Option Res
 |[]=>none
 |x::r=>if kU e st ks x then some x else fj e st ks r
def dX (e:Int)(st:List Int)(ks:List Str):List Res→List Res
 |[]=>[]
 |x::r=>if kU e st ks x then dX e st ks r else x::dX e st ks r
def iH (x:Res):List Res→List Res
 |[]=>[x]
 |y::r=>if 0≤dP y x then x::y::r else y::iH x r
def jV (l:List Res)(x:Res):List Res:=iH x (dX x.edge x.step x.at_ l)
def vG:List Res→List Res→Bool
 |[],[]=>true
 |a::x,b::y=>decide (dP a b=0)&&eqD a.doc b.doc&&vG x y
 |_,_=>false
def eqS (a b:St):Bool:=eqD a.doc b.doc&&vG a.res b.res
def bu:St:=⟨zeroDoc,[]⟩
abbrev Flds:=List (Str×Doc)
def bI (n:Str):Flds→Option Doc
 |[]=>none
 |(k,d)::r=>if k=n then some d else bI n r
def ar (n:Str)(x:Doc):Flds→Flds
 |[]=>[(n,x)]
 |(k,d)::r=>if k=n then (n,x)::r else (k,d)::ar n x r
def dq (n:Str):Flds→Flds
 |[]=>[]
 |(k,d)::r=>if k=n then r else (k,d)::dq n r
def bv (n:Str)(f:Flds):Doc:=(bI n f).getD zeroDoc
def cT:Flds→List Str→List Doc→Flds
 |f,k::ks,d::ds=>cT (ar k d f) ks ds
 |f,_,_=>f
def ofD (d:Doc):Flds:=cT [] d.keys d.kids
def mu (p:Str×Doc):Flds→Flds
 |[]=>[p]
 |q::r=>if ltS p.1 q.1 then p::q::r else q::mu p r
def cQ:Flds→Flds
 |[]=>[]
 |p::r=>mu p (cQ r)
def ay (f:Flds):Doc:=.mk 1 0 [] ((cQ f).map (·.1)) ((cQ f).map (·.2))
structure Wlk where
 res:List Res
 needs:List Res
 err:Int
def iI (a b:Str)(f:Flds):Flds:=match bI a f with
 |some x=>ar b x (dq a f)
 |none=>f
def kN (e:Int)(st:List Int)(ks:List Str)(a:Str)(ty:Ty)(d:Doc)(w:Wlk)(f:Flds):Wlk×Flds:=
 match fj e st ks w.res with
 |some x=>(⟨dX e st ks w.res,jV w.needs ⟨e,st,ks,d⟩,if cD ty x.doc then w.err else 8⟩,ar a x.doc f)
 |none=>(⟨w.res,jV w.needs ⟨e,st,ks,d⟩,w.err⟩,ar a d f)
def iB (e:Int)(st:List Int)(ks:List Str)(a:Str)(w:Wlk)(f:Flds):Wlk×Flds:=
 (⟨jV w.res ⟨e,st,ks,bv a f⟩,w.needs,w.err⟩,dq a f)
open Go Go.Proofs
def row {α:Type}(c:α→List Val):List α→List Val
 |[]=>[]
 |x::r=>c x++row c r
abbrev sls {α:Type}(c:α→List Val)(l:List α):Val:=.sl (row c l) l.length none
def aZ (s:Str):List Val:=[.str s]
def cS (n:Int):List Val:=[.int .i64 n]
def cO (p:Int×Int):List Val:=[.int .i64 p.1,.int .i64 p.2]
mutual
def aJ:Doc→List Val
 |.mk k n s ks ds=>[.int .i64 k,.int .i64 n,.str s,sls aZ ks,.sl (zY ds) ds.length none]
def zY:List Doc→List Val
 |[]=>[]
 |d::r=>aJ d++zY r
end
mutual
def cTy:Ty→List Val
 |.mk k l h ns fs ts=>[.int .i64 k,.int .i64 l,.int .i64 h,sls aZ ns,.sl (zZ fs) fs.length none,.sl (D6 ts) ts.length none]
def ad:Fld→List Val
 |.mk n o t=>.str n :: .bool o::cTy t
def zZ:List Fld→List Val
 |[]=>[]
 |d::r=>ad d++zZ r
def D6:List Ty→List Val
 |[]=>[]
 |d::r=>cTy d++D6 r
end
mutual
def aL:Lns→List Val
 |.mk k a b t d s l=>.int .i64 k :: .str a :: .str b::(cTy t++(aJ d++[sls cO s,.sl (z8 l) l.length none]))
def z8:List Lns→List Val
 |[]=>[]
 |d::r=>aL d++z8 r
end
def ah (r:Res):List Val:=.int .i64 r.edge::sls cS r.step::sls aZ r.at_::aJ r.doc
def cSt (s:St):List Val:=aJ s.doc++[sls ah s.res]
theorem tK:∀l,zY l=row aJ l
 |[]=>rfl
 |d::r=>by rw[zY,row,tK r]
theorem wS:∀l,D6 l=row cTy l
 |[]=>rfl
 |d::r=>by rw[D6,row,wS r]
theorem tL:∀l,zZ l=row ad l
 |[]=>rfl
 |d::r=>by rw[zZ,row,tL r]
theorem tM:∀l,z8 l=row aL l
 |[]=>rfl
 |d::r=>by rw[z8,row,tM r]
theorem eF (d:Doc):aJ d=[.int .i64 d.kind,.int .i64 d.num,.str d.str,sls aZ d.keys,sls aJ d.kids]:=by cases d;simp[aJ,Doc.kind,Doc.num,Doc.str,Doc.keys,Doc.kids,sls,tK]
theorem fC (t:Ty):cTy t=[.int .i64 t.kind,.int .i64 t.lo,.int .i64 t.hi,sls aZ t.names,sls ad t.fields,sls cTy t.of]:=by cases t;simp[cTy,Ty.kind,Ty.lo,Ty.hi,Ty.names,Ty.fields,Ty.of,sls,wS,tL]
theorem dw (f:Fld):ad f=.str f.name :: .bool f.opt::cTy f.ty:=by cases f;rfl
theorem ey (l:Lns):aL l=.int .i64 l.kind :: .str l.a :: .str l.b::(cTy l.ty++(aJ l.doc++[sls cO l.swaps,sls aL l.subs])):=by cases l;simp[aL,Lns.kind,Lns.a,Lns.b,Lns.ty,Lns.doc,Lns.swaps,Lns.subs,sls,tM]
@[simp] theorem wQ (s:Str):(aZ s).length=1:=rfl
@[simp] theorem wL (n:Int):(cS n).length=1:=rfl
@[simp] theorem oo (p:Int×Int):(cO p).length=2:=rfl
@[simp] theorem b8 (d:Doc):(aJ d).length=5:=by rw[eF];rfl
@[simp] theorem bG (d:Ty):(cTy d).length=6:=by rw[fC];rfl
@[simp] theorem jb (d:Fld):(ad d).length=8:=by rw[dw];simp
@[simp] theorem fB (d:Lns):(aL d).length=16:=by rw[ey];simp
@[simp] theorem wO (d:Res):(ah d).length=8:=by simp[ah]
@[simp] theorem qN (d:St):(cSt d).length=6:=by simp[cSt]
section
variable {α:Type} {c:α→List Val} {e:Nat}
theorem bf (l m:List α):row c (l++m)=row c l++row c m:=by
 induction l with
 |nil=>rfl
 |cons x l ih=>simp[row,ih]
theorem fk (h:∀x,(c x).length=e)(l:List α):(row c l).length=l.length*e:=by
 induction l with
 |nil=>simp[row]
 |cons x l ih=>simp[row,ih,h,Nat.succ_mul,Nat.add_comm]
theorem rp (h:∀x,(c x).length=e):∀(l:List α)(j:Nat)(hj:j<l.length),(row c l).drop (j*e)=c l[j]++row c (l.drop (j+1))
 |[],j,hj=>absurd hj (by simp)
 |d::r,0,_=>by simp[row]
 |d::r,j+1,hj=>by have:=rp h r j (by simpa using hj);simp only[row,List.getElem_cons_succ,List.drop_succ_cons];rw[show(j+1)*e=e+j*e by rw[Nat.succ_mul,Nat.add_comm],←List.drop_drop,List.drop_left' (h d),this]
theorem CQ (h:∀x,(c x).length=e)(l:List α)(j:Nat)(hj:j≤l.length):(row c l).take (j*e)=row c (l.take j):=by
 have h1:(row c (l.take j)).length=j*e:=by rw[fk h,List.length_take,Nat.min_eq_left hj]
 have h2:row c l=row c (l.take j)++row c (l.drop j):=by rw[←bf,List.take_append_drop]
 rw[h2,List.take_left' h1]
theorem gD (h:∀x,ae (c x)=true)(l:List α):ae (row c l)=true:=by
 have ap:∀a b:List Val,ae (a++b)=(ae a&&ae b):=by
  intro a b;induction a with
  |nil=>simp[ae]
  |cons x a ih=>simp[ae,ih,Bool.and_assoc]
 induction l with
 |nil=>rfl
 |cons x l ih=>simp[row,ap,h,ih]
theorem au (a b:List Val):aE (a++b)=(aE a&&aE b):=by
 induction a with
 |nil=>simp[aE]
 |cons x a ih=>simp[aE,ih,Bool.and_assoc]
theorem dL {l:List α}(h:∀x∈l,aE (c x)=true):aE (row c l)=true:=by
 induction l with
 |nil=>rfl
 |cons x l ih=>simp only[row,au,Bool.and_eq_true];exact⟨h x (by simp),ih fun y hy=>h y (by simp[hy])⟩
theorem AG (h:∀x,(c x).length=e):∀(l:List α)(j:Nat)(_:j<l.length)(y:α),aY (row c l) (j*e) (c y)=row c (l.set j y):=by
 intro l j hj y;unfold aY;rw[h,CQ h l j (by omega),show j*e+e=(j+1)*e by rw[Nat.succ_mul]];have h1:row c l=row c (l.take (j+1))++row c (l.drop (j+1)):=by rw[←bf,List.take_append_drop]
 have h2:(row c (l.take (j+1))).length=(j+1)*e:=by rw[fk h,List.length_take,Nat.min_eq_left (by omega)]
 rw[h1,List.drop_left' h2,List.set_eq_take_append_cons_drop,if_pos hj,bf,row,List.append_assoc]
end
attribute [simp] sls
@[simp] theorem gq (l:List Str):(row aZ l).length=l.length:=by rw[fk wQ,Nat.mul_one]
@[simp] theorem DY (l:List Int):(row cS l).length=l.length:=by rw[fk wL,Nat.mul_one]
@[simp] theorem DQ (l:List (Int×Int)):(row cO l).length=l.length*2:=fk oo l
@[simp] theorem kd (l:List Doc):(row aJ l).length=l.length*5:=fk b8 l
@[simp] theorem Ep (l:List Ty):(row cTy l).length=l.length*6:=fk bG l
@[simp] theorem ke (l:List Fld):(row ad l).length=l.length*8:=fk jb l
@[simp] theorem na (l:List Lns):(row aL l).length=l.length*16:=fk fB l
@[simp] theorem eO (l:List Res):(row ah l).length=l.length*8:=fk wO l
theorem bZ (a b:List Val):ae (a++b)=(ae a&&ae b):=by
 induction a with
 |nil=>simp[ae]
 |cons x a ih=>simp[ae,ih,Bool.and_assoc]
@[simp] theorem yO (d:Doc):ae (aJ d)=true:=by rw[eF];rfl
@[simp] theorem Ab (d:Ty):ae (cTy d)=true:=by rw[fC];rfl
@[simp] theorem qi (d:Fld):ae (ad d)=true:=by rw[dw];simp[ae,iO]
@[simp] theorem yR (d:Lns):ae (aL d)=true:=by rw[ey];simp[ae,iO,bZ]
@[simp] theorem yT (d:Res):ae (ah d)=true:=by simp[ah,ae,iO]
@[simp] theorem mV (d:St):ae (cSt d)=true:=by simp[cSt,ae,iO,bZ]
@[simp] theorem yu (l:List Str):ae (row aZ l)=true:=gD (fun _=>rfl) l
@[simp] theorem Fu (l:List Int):ae (row cS l)=true:=gD (fun _=>rfl) l
@[simp] theorem Es (l:List (Int×Int)):ae (row cO l)=true:=gD (fun _=>rfl) l
@[simp] theorem nT (l:List Doc):ae (row aJ l)=true:=gD yO l
@[simp] theorem Gg (l:List Ty):ae (row cTy l)=true:=gD Ab l
@[simp] theorem Ft (l:List Fld):ae (row ad l)=true:=gD qi l
@[simp] theorem Fw (l:List Lns):ae (row aL l)=true:=gD yR l
@[simp] theorem iT (l:List Res):ae (row ah l)=true:=gD yT l
@[simp] theorem jy (l:List Str):aE (row aZ l)=true:=dL fun _ _=>rfl
@[simp] theorem xY (l:List Int):aE (row cS l)=true:=dL fun _ _=>rfl
@[simp] theorem EI (l:List (Int×Int)):aE (row cO l)=true:=dL fun _ _=>rfl
@[simp] theorem fN (d:Doc):aE (aJ d)=true:=by
 induction d using Doc.ind with
 |h d ih=>rw[eF];simpa[aE,Val.closed] using dL ih
@[simp] theorem gl (l:List Doc):aE (row aJ l)=true:=dL fun d _=>fN d
@[simp] theorem eW (d:Ty):aE (cTy d)=true:=by
 induction d using Ty.ind with
 |h d ih1 ih2=>
  rw[fC];have h1:aE (row ad d.fields)=true:=dL fun f hf=>by rw[dw];simpa[aE,Val.closed] using ih1 f hf
  have h2:=dL ih2;simp[aE,Val.closed,h1,h2]
@[simp] theorem pW (f:Fld):aE (ad f)=true:=by rw[dw];simp[aE,Val.closed]
@[simp] theorem yw (l:List Ty):aE (row cTy l)=true:=dL fun d _=>eW d
@[simp] theorem xX (l:List Fld):aE (row ad l)=true:=dL fun d _=>pW d
@[simp] theorem pX (d:Lns):aE (aL d)=true:=by
 induction d using Lns.ind with
 |h d ih=>rw[ey];simpa[aE,Val.closed,au] using dL ih
@[simp] theorem xZ (l:List Lns):aE (row aL l)=true:=dL fun d _=>pX d
@[simp] theorem pY (d:Res):aE (ah d)=true:=by simp[ah,aE,Val.closed]
@[simp] theorem eS (l:List Res):aE (row ah l)=true:=dL fun d _=>pY d
@[simp] theorem iK (d:St):aE (cSt d)=true:=by simp[cSt,aE,Val.closed,au]
def Wk (v v':Val):Prop:=∀F ρ x,Rel F ρ v x→Rel F ρ v' x
theorem Wk.refl (v:Val):Wk v v:=fun _ _ _ h=>h
theorem Wk.nils:Wk .nils (.sl [] 0 none):=fun F ρ x h=>by simp only[Rel] at h ⊢;exact .inl ⟨.inl h,by simp,by simp,by simp⟩
theorem Wk.cap (cs:List Val)(n:Nat)(k:Option Nat):Wk (.sl cs n k) (.sl cs n none):=fun F ρ x h=>by
 simp only[Rel] at h ⊢;rcases h with ⟨h1,h2,h3,_⟩|⟨b,o,c,k',h1,h2,_,h4⟩
 ·exact .inl ⟨h1,h2,h3,by simp⟩
 ·exact .inr ⟨b,o,c,k',h1,h2,by simp,h4⟩
def WkL:List Val→List Val→Prop
 |[],[]=>True
 |v::vs,u::us=>Wk v u∧WkL vs us
 |_,_=>False
theorem WkL.refl:∀l,WkL l l
 |[]=>trivial
 |v::vs=>⟨Wk.refl v,WkL.refl vs⟩
theorem WkL.rel {F:Fro}{ρ:Pl}:∀{vs us:List Val}{xs:List Value},WkL vs us→RelL F ρ vs xs→RelL F ρ us xs
 |[],[],_,_,h=>h
 |v::vs,u::us,xs,hw,h=>by simp only[RelL] at h ⊢;obtain⟨y,ys,h1,h2,h3⟩:=h;exact⟨y,ys,h1,hw.1 _ _ _ h2,WkL.rel hw.2 h3⟩
 |[],_::_,_,hw,_=>hw.elim
 |_::_,[],_,hw,_=>hw.elim
theorem Wk.ag {vs us:List Val}(h:WkL vs us):Wk (.ag vs) (.ag us):=fun F ρ x hr=>by simp only[Rel] at hr ⊢;obtain⟨xs,h1,h2⟩:=hr;exact⟨xs,h1,h.rel h2⟩
theorem Wk.tp {vs us:List Val}(h:WkL vs us):Wk (.tp vs) (.tp us):=fun F ρ x hr=>by simp only[Rel] at hr ⊢;obtain⟨xs,h1,h2⟩:=hr;exact⟨xs,h1,h.rel h2⟩
theorem PureOk.wk {P:Program}{Γ:Glo P}{f:FuncId}{vs:List Val}{r r':Val}(h:PureOk P Γ f vs r)(hw:Wk r r'):PureOk P Γ f vs r':=by intro F w xs hG hF ha;refine Calls.mono (h F w xs hG hF ha) ?_;rintro e w' ⟨F',x,h1,h2,h3,h4,h5,h6⟩;exact⟨F',x,h1,h2,h3,h4,hw _ _ _ h5,h6⟩
@[simp] theorem Gw (d:Doc)(h:0<(aJ d).length):(aJ d)[0]=.int .i64 d.kind:=by simp[eF]
@[simp] theorem Gx (d:Doc)(h:1<(aJ d).length):(aJ d)[1]=.int .i64 d.num:=by simp[eF]
@[simp] theorem Gy (d:Doc)(h:2<(aJ d).length):(aJ d)[2]=.str d.str:=by simp[eF]
@[simp] theorem Gz (d:Doc)(h:3<(aJ d).length):(aJ d)[3]=sls aZ d.keys:=by simp[eF]
@[simp] theorem HA (d:Doc)(h:4<(aJ d).length):(aJ d)[4]=sls aJ d.kids:=by simp[eF]
@[simp] theorem JD (d:Ty)(h:0<(cTy d).length):(cTy d)[0]=.int .i64 d.kind:=by simp[fC]
@[simp] theorem BY (d:Ty):(cTy d)[0]?=some (.int .i64 d.kind):=by simp[fC]
@[simp] theorem JE (d:Ty)(h:1<(cTy d).length):(cTy d)[1]=.int .i64 d.lo:=by simp[fC]
@[simp] theorem JF (d:Ty)(h:2<(cTy d).length):(cTy d)[2]=.int .i64 d.hi:=by simp[fC]
@[simp] theorem JG (d:Ty)(h:3<(cTy d).length):(cTy d)[3]=sls aZ d.names:=by simp[fC]
@[simp] theorem JH (d:Ty)(h:4<(cTy d).length):(cTy d)[4]=sls ad d.fields:=by simp[fC]
@[simp] theorem JI (d:Ty)(h:5<(cTy d).length):(cTy d)[5]=sls cTy d.of:=by simp[fC]
@[simp] theorem HD (d:Fld)(h:0<(ad d).length):(ad d)[0]=.str d.name:=by simp[dw]
@[simp] theorem HE (d:Fld)(h:1<(ad d).length):(ad d)[1]=.bool d.opt:=by simp[dw]
@[simp] theorem HV (d:Lns)(h:0<(aL d).length):(aL d)[0]=.int .i64 d.kind:=by simp[ey]
@[simp] theorem HW (d:Lns)(h:1<(aL d).length):(aL d)[1]=.str d.a:=by simp[ey]
@[simp] theorem HX (d:Lns)(h:2<(aL d).length):(aL d)[2]=.str d.b:=by simp[ey]
@[simp] theorem H9 (d:Res)(h:0<(ah d).length):(ah d)[0]=.int .i64 d.edge:=by simp[ah]
@[simp] theorem Ha (d:Res)(h:1<(ah d).length):(ah d)[1]=sls cS d.step:=by simp[ah]
@[simp] theorem Hb (d:Res)(h:2<(ah d).length):(ah d)[2]=sls aZ d.at_:=by simp[ah]
theorem ed {a b:List Val}{n:Nat}(h:a.length=n):(a++b).take n=a:=List.take_left' h
@[simp] theorem HG (d:Fld):(ad d).drop 2=cTy d.ty:=by rw[dw];rfl
@[simp] theorem DZ (d:Lns):((aL d).drop 3).take 6=cTy d.ty:=by rw[ey];exact ed (bG d.ty)
@[simp] theorem BU (d:Lns):((aL d).drop 9).take 5=aJ d.doc:=by rw[ey];simp only[List.drop_succ_cons];rw[show(6:Nat)=6 from rfl,List.drop_left' (bG d.ty)];exact ed (b8 d.doc)
@[simp] theorem qk (d:Lns):(aL d)[14]?=some (sls cO d.swaps):=by rw[ey];simp
@[simp] theorem qm (d:Lns):(aL d)[15]?=some (sls aL d.subs):=by rw[ey];simp
@[simp] theorem Hd (d:Res):((ah d).drop 3).take 5=aJ d.doc:=by simp only[ah,List.drop_succ_cons,List.drop_zero];exact List.take_of_length_le (by simp)
@[simp] theorem JA (d:St):(cSt d).take 5=aJ d.doc:=ed (b8 d.doc)
@[simp] theorem BX (d:St):(cSt d)[5]?=some (sls ah d.res):=by simp[cSt]
@[simp] theorem Gv (d:Doc):(aJ d).take 5=aJ d:=List.take_of_length_le (by simp)
@[simp] theorem JC (d:Ty):(cTy d).take 6=cTy d:=List.take_of_length_le (by simp)
@[simp] theorem HC (d:Fld):(ad d).take 8=ad d:=List.take_of_length_le (by simp)
@[simp] theorem BS (d:Fld)(r:List Val):(ad d++r).take 8=ad d:=ed (jb d)
@[simp] theorem HU (d:Lns):(aL d).take 16=aL d:=List.take_of_length_le (by simp)
@[simp] theorem H8 (d:Res):(ah d).take 8=ah d:=List.take_of_length_le (by simp)
@[simp] theorem Iy (d:St):(cSt d).take 6=cSt d:=List.take_of_length_le (by simp)
end Go.V
end
section
namespace Go.V
open Go Go.Proofs
section
variable {P:Program} {Γ:Glo P}
theorem K4 {c:Operand}{x y:Code}{b:Bool}{r:Option Val}{a:List Val}{h:Heap}{N:Nat}{Q:Post}(h1:b=true→W P Γ x a h N Q)(h2:b=false→W P Γ y a h N Q)
  (hc:ev Γ a c=r:=by (simp[*];with_reducible rfl)) (hr:r=some (.bool b):=by with_reducible rfl):W P Γ (.cond c x y) a h N Q:=by
 refine qc (hc.trans hr) ?_;cases b with
 |true=>exact h1 rfl
 |false=>exact h2 rfl
theorem Ef {ops:Array Oper}{K:List Val→Heap→Nat→Prop}{d:Option Tmp}{op:Op}{t:TypeId}{p:String}{af:Array Edge}{j:Nat}{w b:Bool}{r:Option Bool}{os:List Oper}{a:List Val}{h:Heap}{N:Nat}
  (h1:b=true→bM P Γ ops K (⟨d,op,t,p,af,some (j,w)⟩::os) a h N) (h2:b=false→bM P Γ ops K (⟨d,op,t,p,af,some (j,w)⟩::os) a h N)
  (hy:yl ops a j=r:=by (simp[*];with_reducible rfl)) (hr:r=some b:=by with_reducible rfl):bM P Γ ops K (⟨d,op,t,p,af,some (j,w)⟩::os) a h N:=by
 have:=hy.trans hr;cases b with
 |true=>exact h1 rfl
 |false=>exact h2 rfl
def inM:List (Nat×Nat)→Nat→Bool
 |[],_=>false
 |(lo,hi)::r,t=>(decide (lo≤t)&&decide (t≤hi))||inM r t
attribute [simp] inM
structure Frm (M:List (Nat×Nat))(a0 a:List Val):Prop where
 len:a.length=a0.length
 same:∀t,inM M t=false→lk a t=lk a0 t
theorem Frm.refl (M:List (Nat×Nat))(a:List Val):Frm M a a:=⟨rfl,fun _ _=>rfl⟩
theorem Frm.set {M:List (Nat×Nat)}{a0 a:List Val}{i:Nat}{v:Val}(h:Frm M a0 a)(hi:inM M i=true):Frm M a0 (a.set i v):=
 ⟨by rw[List.length_set];exact h.len,fun t ht=>by
  have:i≠t:=fun e=>by subst e;rw[hi] at ht;cases ht
  rw[CC _ _ _ _ this];exact h.same t ht⟩
theorem Frm.at {M:List (Nat×Nat)}{a0 a:List Val}(h:Frm M a0 a)(t:Nat)(v:Val)(ht:inM M t=false)(hv:lk a0 t=some v):lk a t=some v:=(h.same t ht).trans hv
theorem Frm.trans {M M':List (Nat×Nat)}{a0 a a':List Val}(h:Frm M a0 a)(h':Frm M' a a')(hs:∀t,inM M t=false→inM M' t=false):Frm M a0 a':=
 ⟨h'.len.trans h.len,fun t ht=>(h'.same t (hs t ht)).trans (h.same t ht)⟩
theorem CallOk.frame {f:FuncId}{vs:List Val}{h h1 h2:Heap}{N N':Nat}{all:Bool}{r:Val}(hk:CallOk P Γ f vs h1 N all r h2 N'){hm:Heap}
  (hsub:∀i b,get h1 i=some b→get h i=some b) (hkeys:∀i,(get h2 i).isSome→(get h1 i).isSome∨(N≤i∧i<N'))
  (hmg:∀i b,get hm i=some b→get h2 i=some b∨(get h i=some b∧get h1 i=none)):CallOk P Γ f vs h N all r hm N':=by
 refine⟨hk.1,fun F ρ w0 O w xs hG m hf ha=>?_⟩;refine(hk.2 F ρ w (cm h1 ρ) w xs hG (m.rebase hsub) hf ha).mono ?_;rintro e w' ⟨F',ρ',x,rfl,a1,a2,a3⟩;obtain⟨b1,b2⟩:=m.carry hsub a3 a1 (hm:=hm) fun i b hb=>by
  rcases hmg i b hb with h3|⟨h3,h4⟩
  ·exact .inl ⟨h3,hkeys i (by simp[h3])⟩
  ·refine .inr ⟨h3,by simp[h4],fun hr=>?_⟩;obtain⟨L,x,q1,_⟩:=m.own i b h3;rw[hf i hr.1 (.inr hr.2)] at q1;cases q1
 exact⟨F',ρ',x,rfl,b2,a2,b1⟩
theorem aP {h:Heap}:∀i b,get [] i=some b→get h i=some b:=by simp[get]
theorem aK {h r:Heap}{k:Nat}{c:Blk}(hk:get h k=some c)(hr:∀i b,get r i=some b→get h i=some b):∀i b,get ((k,c)::r) i=some b→get h i=some b:=by
 intro i b hb;simp only[get] at hb;split at hb
 ·rename_i e;subst e;cases hb;exact hk
 ·exact hr i b hb
theorem lu {h1:Heap}{N N':Nat}:∀i,(get [] i).isSome→(get h1 i).isSome∨(N≤i∧i<N'):=by simp[get]
theorem kW {h1 r:Heap}{N N' k:Nat}{c:Blk}(hk:(get h1 k).isSome∨(N≤k∧k<N'))(hr:∀i,(get r i).isSome→(get h1 i).isSome∨(N≤i∧i<N')):∀i,(get ((k,c)::r) i).isSome→(get h1 i).isSome∨(N≤i∧i<N'):=by
 intro i hi;simp only[get] at hi;split at hi
 ·rename_i e;subst e;exact hk
 ·exact hr i hi
theorem Fl {h h1 h2:Heap}:∀i b,get [] i=some b→get h2 i=some b∨(get h i=some b∧get h1 i=none):=by simp[get]
theorem EC {h h1 h2 r:Heap}{k:Nat}{c:Blk}(hk:get h2 k=some c∨(get h k=some c∧get h1 k=none))(hr:∀i b,get r i=some b→get h2 i=some b∨(get h i=some b∧get h1 i=none)) :
  ∀i b,get ((k,c)::r) i=some b→get h2 i=some b∨(get h i=some b∧get h1 i=none):=by
 intro i b hb;simp only[get] at hb;split at hb
 ·rename_i e;subst e;cases hb;exact hk
 ·exact hr i b hb
theorem BJ {ops:Array Oper}{K:List Val→Heap→Nat→Prop}{o:Oper}{os:List Oper}{a:List Val}{h h1 h2:Heap}{N N':Nat}{all:Bool}{f:FuncId}{vs:List Val}{r:Val}{q:Option (FuncId×List Val)}(hm:Heap)(hr:CallOk P Γ f vs h1 N all r h2 N')
  (hk:bM P Γ ops K os (eJ a o.dst r) hm N')
  (hsub:∀i b,get h1 i=some b→get h i=some b:=by (repeat (first|exact aP|refine aK (by simp[V.get, *]) ?_)))
  (hkeys:∀i,(get h2 i).isSome→(get h1 i).isSome∨(N≤i∧i<N'):=by (repeat (first|exact lu|refine kW (by first|(simp[V.get, *]<;>fail)|omega) ?_)))
  (hmg:∀i b,get hm i=some b→get h2 i=some b∨(get h i=some b∧get h1 i=none):=by (repeat (first|exact Fl|refine EC (by simp[V.get, *]) ?_)))
  (hg:aO ops o a=true:=by first|exact da (by with_reducible rfl)|(simp[*]<;>fail)) (hc:callee Γ a o=q:=by (simp[*];with_reducible rfl)) (hq:q=some (f,vs):=by with_reducible rfl) (hp:bS P f=true:=by kernel_rfl):bM P Γ ops K (o::os) a h N:=by
 simp only[bM];rw[if_pos hg];exact .call (hc.trans hq) hp (hr.frame hsub hkeys hmg) hk
theorem gp {ops:Array Oper}{K:List Val→Heap→Nat→Prop}{o:Oper}{os:List Oper}{a:List Val}{h:Heap}{N:Nat}{f:FuncId}{us:List Val}{r:Val}(n:Nat)(hr:PureOk P Γ f us r)
  (hk:bM P Γ ops K os (eJ a o.dst r) h N) (hv:∃vs,callee Γ a o=some (f,vs)∧vwL P h n vs=some us)
  (hg:aO ops o a=true:=by first|exact da (by with_reducible rfl)|(simp[*]<;>fail)) (hp:bS P f=true:=by kernel_rfl) (hf:r.flat=true:=by simp[Val.flat,lh]):bM P Γ ops K (o::os) a h N:=by
 simp only[bM];rw[if_pos hg];obtain⟨vs,h1,h2⟩:=hv;exact .borrow h1 hp h2 hr hf hk
theorem mX {f:FuncId}{fn:Func}{c:Code}{vs:List Val}{r:Val}{h h2:Heap}{N N':Nat}(hf:P.funcs[f]?=some fn)(hb:fn.body=some c)(hn:vs.length≤fn.ntmps)(hN:N≤N')(hl:aS N' r=true)(hh:bW N' h2=true)
  (hw:∀a:List Val,a.length=fn.ntmps→(∀(i:Nat) (v:Val),vs[i]?=some v→lk a i=some v)→W P Γ c a h N (fun e a h' _=>(e=.normal∨e=.ret)∧jC P fn a h'=some r∧∀i b,get h2 i=some b→get h' i=some b)):CallOk P Γ f vs h N true r h2 N':=by
 refine⟨hN,fun F ρ w0 O w xs hG m hfr ha=>?_⟩;refine calls_of_wp hf hb ?_;have hw':=hw (vs++List.replicate (fn.ntmps-vs.length) uv) (by simp;omega) (by
  intro i v hi;unfold lk;rw[List.getElem?_append_left (by
   rcases Nat.lt_or_ge i vs.length with h|h
   ·exact h
   ·rw[List.getElem?_eq_none h] at hi;cases hi),hi])
 refine wp_mono (hw' F ρ w0 O w _ hG m (fun i hi _=>hfr i hi (.inl rfl)) (oQ ha _) rfl) ?_;rintro e act' w' ⟨F',ρ',a',h',N'',g1,g2,g3,g4,g5,g6,g8,g9⟩;obtain⟨x,h1,h2'⟩:=lC g5 g3 g8
 let ρ2:Pl:=fun i=>if N≤i∧i<N' then ρ' i else ρ i
 have hcut:PLe (cut ρ' N') ρ2:=by
  intro i L hi;unfold cut at hi;split at hi
  ·rename_i hlt;show(if N≤i∧i<N' then ρ' i else ρ i)=some L;by_cases hc:N≤i∧i<N'
   ·rw[if_pos hc];exact hi
   ·rw[if_neg hc,←g2.out i (by omega)];exact hi
  ·cases hi
 have hext:Ext F F' ρ ρ2 w0 O N N':=by
  refine⟨g2.f,fun i L hi=>?_,g2.new,fun i hi=>if_neg hi⟩;show(if N≤i∧i<N' then ρ' i else ρ i)=some L;by_cases hc:N≤i∧i<N'
  ·rw[hfr i hc.1 (.inl rfl)] at hi;cases hi
  ·rw[if_neg hc];exact hi
 have post:bodyPost P fn (fun e w'=>∃F' ρ' x,e=.returned x∧Ext F F' ρ ρ' w0 O N N'∧Rel F' ρ' r x∧Mem P F' ρ' h2 w0 O w') .ret act' w':=
  ⟨g4,x,h1,F',ρ2,x,rfl,hext,Rel.mono (FLe.refl _) hcut _ _ (Rel.cut _ _ hl h2'),(((g5.sub g9).cut hh).monoP hcut)⟩
 rcases g6 with rfl|rfl
 ·exact post
 ·exact post
theorem PureOk.split_nil {f:FuncId}{us vs:List Val}{r:Val}(h1:PureOk P Γ f (us ++ .nils::vs) r)(h2:PureOk P Γ f (us ++ .sle::vs) r):PureOk P Γ f (us ++ .sl [] 0 none::vs) r:=by
 have key:∀{F:Fro} {ρ:Pl} {us vs:List Val} {xs:List Value},RelL F ρ (us ++ .sl [] 0 none::vs) xs→RelL F ρ (us ++ .nils::vs) xs∨RelL F ρ (us ++ .sle::vs) xs:=by
  intro F ρ us;induction us with
  |nil=>
   intro vs xs h;simp only[List.nil_append,RelL] at h ⊢;obtain⟨y,ys,rfl,h3,h4⟩:=h;simp only[Rel] at h3;rcases h3 with ⟨rfl|⟨p0,rfl⟩,_⟩|⟨b,o,c,k,rfl,_⟩
   ·exact .inl ⟨_,_,rfl,by simp[Rel],h4⟩
   ·exact .inr ⟨_,_,rfl,by simp only[Rel];exact⟨p0,0,rfl⟩,h4⟩
   ·exact .inr ⟨_,_,rfl,by simp only[Rel];exact⟨⟨b,o,none⟩,k,rfl⟩,h4⟩
  |cons u us ih=>
   intro vs xs h;simp only[List.cons_append,RelL] at h ⊢;obtain⟨y,ys,rfl,h3,h4⟩:=h;rcases ih h4 with h5|h5
   ·exact .inl ⟨y,ys,rfl,h3,h5⟩
   ·exact .inr ⟨y,ys,rfl,h3,h5⟩
 intro F w xs hG hF ha;rcases key ha with h|h
 ·exact h1 F w xs hG hF h
 ·exact h2 F w xs hG hF h
theorem ef {h:Heap}:∀{vs:List Val}{n:Nat},aE vs=true→vs.length<n→vwL P h n vs=some vs
 |[],n+1,_,_=>rfl
 |v::vs,n+1,hc,hn=>by simp only[aE,Bool.and_eq_true] at hc;have hn':vs.length<n:=(by simp at hn;omega);obtain⟨m,rfl⟩:∃m,n=m+1:=⟨n-1,by omega⟩;simp only[vwL,aG hc.1,ef hc.2 hn']
 |[],0,_,h=>by simp at h
 |_::_,0,_,h=>by simp at h
end
attribute [simp] aG
@[simp high] theorem M7 (a b:Int):(a==b)=decide (a=b):=rfl
@[simp high] theorem M8 (a b:List UInt8):(a==b)=decide (a=b):=by by_cases h:a=b<;>simp[h]
@[simp high] theorem M9 (a b:Int):(a != b)=decide (¬a=b):=by simp[bne]
end Go.V
end
