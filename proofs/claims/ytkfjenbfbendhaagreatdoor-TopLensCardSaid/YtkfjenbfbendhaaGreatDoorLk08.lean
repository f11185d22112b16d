/-
  A part of a proof: D1 S4 S5 R1.
-/
import Derived.Test.YtkfjenbfbendhaaGreatDoorLk07
set_option linter.unusedSimpArgs false
set_option linter.unusedVariables false
section
namespace Go.V
def ltS:Str→Str→Bool
 |[],[]=>false
 |_::_,[]=>false
 |[],_::_=>true
 |a::x,b::y=>decide (a<b)||(a==b&&ltS x y)
def cmpI (a b:Int):Int:=if a<b then -1 else if b<a then 1 else 0
def cmpS (a b:Str):Int:=if ltS a b then -1 else if ltS b a then 1 else 0
def cf {α:Type}(c:α→α→Int):List α→List α→Int
 |[],[]=>0
 |[],_::_=>-1
 |_::_,[]=>1
 |a::x,b::y=>if c a b=0 then cf c x y else c a b
def orI (a b:Int):Int:=if a=0 then b else a
def zeroDoc:Doc:=.mk 0 0 [] [] []
def zD (first:Bool)(c:UInt8):Bool:=
 (decide (97≤c.toNat)&&decide (c.toNat≤122))||(!first&&(decide (c.toNat=95)||(decide (48≤c.toNat)&&decide (c.toNat≤57))))
def j6:Bool→Str→Bool
 |_,[]=>true
 |first,c::r=>zD first c&&j6 false r
def d8 (s:Str):Bool:=!s.isEmpty&&decide (s.length≤16)&&j6 true s
mutual
def iR:Doc→Nat
 |.mk _ _ _ _ ds=>fT ds+1
def fT:List Doc→Nat
 |[]=>0
 |d::r=>max (iR d) (fT r)
end
mutual
def cr:Doc→Nat
 |.mk _ _ _ _ ds=>cS ds+1
def cS:List Doc→Nat
 |[]=>0
 |d::r=>cr d+cS r
end
def dD:List Str→Nat
 |[]=>0
 |s::r=>s.length+1+dD r
mutual
def wD:Doc→Nat
 |.mk _ _ s ks ds=>s.length+dD ks+wDs ds+1
def wDs:List Doc→Nat
 |[]=>0
 |d::r=>wD d+wDs r
end
def ee (d:Doc):Bool:=
 if d.kind=1∨d.kind=2 then decide (d.num=0)&&decide (d.str=[])&&decide (d.keys.length=d.kids.length)
 else if d.kind=3 then decide (d.num=0)&&decide (d.str=[])&&decide (d.keys.length=0)
 else if d.keys.length+d.kids.length>0 then false
 else if d.kind=4 then decide (d.str=[])
 else if d.kind=5 then decide (d.str=[])&&(decide (d.num=0)||decide (d.num=1))
 else if d.kind=6 then decide (d.num=0)&&decide (d.str.length≤256)
 else false
def eq (rec:Bool):Option Str→List Str→Bool
 |_,[]=>true
 |p,s::r=>(match p with|none=>true|some q=>ltS q s)&&(!rec||d8 s)&&decide (s.length≤256)&&eq rec (some s) r
def qw (d:Doc):Bool:=eq (decide (d.kind=1)) none d.keys
mutual
def rightD:Doc→Bool
 |.mk k n s ks ds=>ee (.mk k n s ks ds)&&eq (decide (k=1)) none ks&&jb ds
def jb:List Doc→Bool
 |[]=>true
 |d::r=>rightD d&&jb r
end
def dH (d:Doc):Bool:=decide (iR d≤12)&&decide (cr d≤512)&&rightD d
mutual
def eqD:Doc→Doc→Bool
 |.mk k n s ks ds,.mk k' n' s' ks' ds'=>decide (k=k')&&decide (n=n')&&decide (s=s')&&decide (ks=ks')&&ut ds ds'
def ut:List Doc→List Doc→Bool
 |[],[]=>true
 |d::r,d'::r'=>eqD d d'&&ut r r'
 |_,_=>false
end
def zeroTy:Ty:=.mk 0 0 0 [] [] []
mutual
def dG:Ty→Nat
 |.mk _ _ _ _ fs ts=>cn fs+co ts+1
def cn:List Fld→Nat
 |[]=>0
 |.mk _ _ t::r=>dG t+cn r
def co:List Ty→Nat
 |[]=>0
 |t::r=>dG t+co r
end
mutual
def cZ:Ty→Nat
 |.mk _ _ _ _ fs ts=>max (ct fs) (dT ts)+1
def ct:List Fld→Nat
 |[]=>0
 |.mk _ _ t::r=>max (cZ t) (ct r)
def dT:List Ty→Nat
 |[]=>0
 |t::r=>max (cZ t) (dT r)
end
mutual
def wT:Ty→Nat
 |.mk _ _ _ ns fs ts=>dD ns+wFs fs+wTs ts+1
def wFs:List Fld→Nat
 |[]=>0
 |.mk n _ t::r=>n.length+1+wT t+wFs r
def wTs:List Ty→Nat
 |[]=>0
 |t::r=>wT t+wTs r
end
def de (t:Ty):Bool:=decide (4≤t.kind)&&decide (t.kind≤7)
def tq (k:Int):Bool:=decide (k=2)||decide (k=3)
def lD (t:Ty):Bool:=
 (decide (t.kind=1)||t.fields.isEmpty)&&(decide (t.kind=7)||t.names.isEmpty)&&(tq t.kind||t.of.isEmpty) &&
 ((tq t.kind||decide (t.kind=4)||decide (t.kind=6))||(decide (t.lo=0)&&decide (t.hi=0)))
def ed:Option Str→List Str→Bool
 |_,[]=>true
 |p,s::r=>decide (s.length≤256)&&(match p with|none=>true|some q=>ltS q s)&&ed (some s) r
def lS (l:List Str):Bool:=ed none l&&decide (0<l.length)&&decide (l.length≤32)
mutual
def fV:Ty→Bool
 |.mk k lo hi ns fs ts=>lD (.mk k lo hi ns fs ts) &&
  (if k=1 then eh none fs&&decide (fs.length≤32)
   else if k=2∨k=3 then decide (ts.length=1)&&decide (0≤lo)&&decide (lo≤hi)&&km ts
   else if k=4 then decide (lo≤hi)
   else if k=5 then true
   else if k=6 then decide (0≤lo)&&decide (lo≤hi)&&decide (hi≤256)
   else if k=7 then lS ns
   else false)
def eh:Option Str→List Fld→Bool
 |_,[]=>true
 |p,.mk n _ t::r=>d8 n&&(match p with|none=>true|some q=>ltS q n)&&fV t&&eh (some n) r
def km:List Ty→Bool
 |[]=>true
 |t::_=>fV t
end
def bq (t:Ty):Bool:=decide (dG t≤128)&&decide (cZ t≤12)&&fV t
mutual
def eqT:Ty→Ty→Bool
 |.mk k l h ns fs ts,.mk k' l' h' ns' fs' ts'=>decide (k=k')&&decide (l=l')&&decide (h=h')&&decide (ns=ns')&&AR fs fs'&&AS ts ts'
def AR:List Fld→List Fld→Bool
 |[],[]=>true
 |.mk n o t::r,.mk n' o' t'::r'=>decide (n=n')&&decide (o=o')&&eqT t t'&&AR r r'
 |_,_=>false
def AS:List Ty→List Ty→Bool
 |[],[]=>true
 |t::r,t'::r'=>eqT t t'&&AS r r'
 |_,_=>false
end
def cy (t:Ty)(d:Doc):Int:=
 if (if t.kind=7 then d.kind=6 else t.kind=d.kind) then
  if t.kind=2∨t.kind=3 then (if (d.kids.length:Int)<t.lo∨t.hi<d.kids.length then 8 else 0)
  else if t.kind=4 then (if d.num<t.lo∨t.hi<d.num then 8 else 0)
  else if t.kind=6 then (if (d.str.length:Int)<t.lo∨t.hi<d.str.length then 8 else 0)
  else if t.kind=7 then (if t.names.contains d.str then 0 else 8)
  else 0
 else 7
def dl (n:Str):List Str→List Doc→Option Doc
 |k::ks,d::ds=>if k=n then some d else dl n ks ds
 |_,_=>none
def pC (n:Str):List Fld→Bool
 |[]=>false
 |.mk m _ _::r=>decide (m=n)||pC n r
mutual
def okT:Ty→Doc→Bool
 |.mk k lo hi ns fs ts,d=>decide (cy (.mk k lo hi ns fs ts) d=0) &&
  (if k=1 then sJ fs d&&d.keys.all (fun s=>pC s fs)
   else if k=2∨k=3 then qQ ts d
   else true)
def sJ:List Fld→Doc→Bool
 |[],_=>true
 |.mk n o t::r,d=>(match dl n d.keys d.kids with|some x=>okT t x|none=>o)&&sJ r d
def qQ:List Ty→Doc→Bool
 |[],_=>true
 |t::_,d=>d.kids.all (fun x=>okT t x)
end
def cQ (t:Ty)(d:Doc):Bool:=bq t&&dH d&&okT t d
mutual
def jK:Lns→Nat
 |.mk _ _ _ _ _ _ l=>bJ l
def bJ:List Lns→Nat
 |[]=>0
 |s::r=>jK s+1+bJ r
end
mutual
def ir:Lns→Nat
 |.mk _ _ _ _ _ _ l=>ak l
def ak:List Lns→Nat
 |[]=>0
 |s::r=>max (ir s+1) (ak r)
end
mutual
def wN:Lns→Nat
 |.mk _ a b t d sw l=>a.length+b.length+wT t+wD d+2*sw.length+wNs l+1
def wNs:List Lns→Nat
 |[]=>0
 |s::r=>wN s+wNs r
end
def dt (k:Int):Int:=if k=2∨k=4∨k=6 then k+1 else if k=3∨k=5∨k=7 then k-1 else k
mutual
def turnN:Lns→Lns
 |.mk k a b t d sw l=>.mk (dt k) (if k=1 then b else a) (if k=1 then a else b) t d sw (if k=9∨k=10 then bU l else l)
def bU:List Lns→List Lns
 |[]=>[]
 |s::r=>bU r++[turnN s]
end
def nL (s:Lns):Lns:=.mk (dt s.kind) (if s.kind=1 then s.b else s.a) (if s.kind=1 then s.a else s.b) s.ty s.doc s.swaps s.subs
def el (n:Int):List (Int×Int)→Int
 |[]=>n
 |(a,b)::r=>if a=n then b else if b=n then a else el n r
def ah (n:Str):List Fld→Option Fld
 |[]=>none
 |f::r=>if f.name=n then some f else ah n r
def bZ (n:Str):List Fld→List Fld
 |[]=>[]
 |f::r=>if f.name=n then bZ n r else f::bZ n r
def dU (f:Fld):List Fld→List Fld
 |[]=>[f]
 |g::r=>if ltS f.name g.name then f::g::r else g::dU f r
def fieldR (t:Ty)(n:Str):Option Fld:=if t.kind=1 then ah n t.fields else none
def dA (fs:List Fld):Ty:=.mk 1 0 0 [] fs []
def dQ (t:Ty)(f:Fld):Ty:=dA (dU f t.fields)
def ax (t:Ty)(n:Str):Ty:=dA (bZ n t.fields)
def eL (t:Ty)(n:Str)(u:Ty):Ty:=dQ (ax t n) (.mk n false u)
def dy (t:Ty)(d:Doc):Int:=if bq t=false∨de t=false then 7 else if cQ t d=false then 8 else 0
def cJ:List (Int×Int)→List Int
 |[]=>[]
 |(a,b)::r=>a::b::cJ r
def qN:List Int→Bool
 |[]=>false
 |a::r=>r.contains a||qN r
def iY (l:List (Int×Int))(t:Ty):Int:=
 if qN (cJ l) then 1 else if l.length=0∨32<l.length then 1 else if (cJ l).any (fun n=>decide (n<t.lo)||decide (t.hi<n)) then 8 else 0
mutual
def eu:Lns→Ty→Except Int Ty
 |.mk k a b ty d sw subs,r=>
  if k=2 then
   if d8 a=false then .error 1 else if (fieldR r a).isSome then .error 5 else
   if dy ty d=0 then .ok (dQ r (.mk a false ty)) else .error (dy ty d)
  else if k=1∨(3≤k∧k≤10) then
   match fieldR r a with
   |none=>.error 9
   |some f=>if f.opt=true∧k≠1 then .error 7 else
    if k=1 then
     if d8 b=false then .error 1 else if (fieldR r b).isSome then .error 5 else .ok (dQ (ax r a) (.mk b f.opt f.ty))
    else if k=3 then
     if eqT f.ty ty=false then .error 7 else if dy ty d=0 then .ok (ax r a) else .error (dy ty d)
    else if k=4 then
     if f.ty.kind≠1 then .error 7 else
     match ah b f.ty.fields with
     |none=>.error 9
     |some g=>if g.opt then .error 7 else if (fieldR r b).isSome then .error 5 else .ok (dQ (eL r a (ax f.ty b)) g)
    else if k=5 then
     match fieldR r b with
     |none=>.error 9
     |some g=>if g.opt=true∨f.ty.kind≠1∨a=b then .error 7 else
      if (ah b f.ty.fields).isSome then .error 5 else .ok (ax (eL r a (dQ f.ty g)) b)
    else if k=6 then
     if de f.ty then .ok (eL r a (.mk 3 1 1 [] [] [f.ty])) else .error 7
    else if k=7 then
     match f.ty with
     |.mk 3 1 1 _ _ (t::_)=>if de t then .ok (eL r a t) else .error 7
     |_=>.error 7
    else if k=8 then
     if f.ty.kind≠4 then .error 7 else if iY sw f.ty=0 then .ok r else .error (iY sw f.ty)
    else if k=9 then
     if f.ty.kind≠1 then .error 7 else
     match bQ subs f.ty 0 with
     |.ok t=>.ok (eL r a t)
     |.error e=>.error e.2
    else
     match f.ty with
     |.mk 2 lo hi ns fs (t::_)=>if t.kind≠1 then .error 7 else
      match bQ subs t 0 with
      |.ok u=>.ok (eL r a (.mk 2 lo hi ns fs [u]))
      |.error e=>.error e.2
     |_=>.error 7
  else .error 1
def bQ:List Lns→Ty→Nat→Except (Nat×Int) Ty
 |[],r,_=>.ok r
 |s::l,r,k=>match eu s r with
  |.ok r'=>if bq r' then bQ l r' (k+1) else .error (k,2)
  |.error e=>.error (k,e)
end
def bC (t:Ty)(l:List Lns):Ty×Nat×Int:=
 if bq t=false∨t.kind≠1 then (zeroTy,0,1)
 else if 64<bJ l then (zeroTy,0,2)
 else if 8<ak l then (zeroTy,0,6)
 else match bQ l t 0 with
  |.ok u=>(u,l.length,0)
  |.error e=>(zeroTy,e.1,e.2)
def dc (a b:Res):Int:=orI (cmpI a.edge b.edge) (orI (cf cmpI a.step b.step) (cf cmpS a.at_ b.at_))
def mZ:Option Res→List Res→Bool
 |_,[]=>true
 |p,x::r=>dH x.doc&&(match p with|none=>true|some q=>decide (dc q x<0))&&mZ (some x) r
def br (l:List Res):Bool:=mZ none l&&decide (l.length≤256)
def lA (e:Int)(st:List Int)(ks:List Str)(x:Res):Bool:=decide (dc x ⟨e,st,ks,zeroDoc⟩=0)
def jl (e:Int)(st:List Int)(ks:List Str):List Res→Option Res
 |[]=>none
 |x::r=>if lA e st ks x then some x else jl e st ks r
def cu (e:Int)(st:List Int)(ks:List Str):List Res→List Res
 |[]=>[]
 |x::r=>if lA e st ks x then cu e st ks r else x::cu e st ks r
def gD (x:Res):List Res→List Res
 |[]=>[x]
 |y::r=>if 0≤dc y x then x::y::r else y::gD x r
def j9 (l:List Res)(x:Res):List Res:=gD x (cu x.edge x.step x.at_ l)
def uu:List Res→List Res→Bool
 |[],[]=>true
 |a::x,b::y=>decide (dc a b=0)&&eqD a.doc b.doc&&uu x y
 |_,_=>false
def eqS (a b:St):Bool:=eqD a.doc b.doc&&uu a.res b.res
def da:St:=⟨zeroDoc,[]⟩
abbrev Flds:=List (Str×Doc)
def bD (n:Str):Flds→Option Doc
 |[]=>none
 |(k,d)::r=>if k=n then some d else bD n r
def aq (n:Str)(x:Doc):Flds→Flds
 |[]=>[(n,x)]
 |(k,d)::r=>if k=n then (n,x)::r else (k,d)::aq n x r
def dY (n:Str):Flds→Flds
 |[]=>[]
 |(k,d)::r=>if k=n then r else (k,d)::dY n r
def bf (n:Str)(f:Flds):Doc:=(bD n f).getD zeroDoc
def cC:Flds→List Str→List Doc→Flds
 |f,k::ks,d::ds=>cC (aq k d f) ks ds
 |f,_,_=>f
def ofD (d:Doc):Flds:=cC [] d.keys d.kids
def kz (p:Str×Doc):Flds→Flds
 |[]=>[p]
 |q::r=>if ltS p.1 q.1 then p::q::r else q::kz p r
def bz:Flds→Flds
 |[]=>[]
 |p::r=>kz p (bz r)
def ar (f:Flds):Doc:=.mk 1 0 [] ((bz f).map (·.1)) ((bz f).map (·.2))
structure Wlk where
 res:List Res
 needs:List Res
 err:Int
def gf (a b:Str)(f:Flds):Flds:=match bD a f with
 |some x=>aq b x (dY a f)
 |none=>f
def jM (e:Int)(st:List Int)(ks:List Str)(a:Str)(ty:Ty)(d:Doc)(w:Wlk)(f:Flds):Wlk×Flds:=
 match jl e st ks w.res with
 |some x=>(⟨cu e st ks w.res,j9 w.needs ⟨e,st,ks,d⟩,if cQ ty x.doc then w.err else 8⟩,aq a x.doc f)
 |none=>(⟨w.res,j9 w.needs ⟨e,st,ks,d⟩,w.err⟩,aq a d f)
def ga (e:Int)(st:List Int)(ks:List Str)(a:Str)(w:Wlk)(f:Flds):Wlk×Flds:=
 (⟨j9 w.res ⟨e,st,ks,bf a f⟩,w.needs,w.err⟩,dY a f)
end Go.V
end
section
namespace Go.V
open Go Go.Proofs
def row {α:Type}(c:α→List Val):List α→List Val
 |[]=>[]
 |x::r=>c x++row c r
abbrev sls {α:Type}(c:α→List Val)(l:List α):Val:=.sl (row c l) l.length none
def aW (s:Str):List Val:=[.str s]
def bv (n:Int):List Val:=[.int .i64 n]
def bx (p:Int×Int):List Val:=[.int .i64 p.1,.int .i64 p.2]
mutual
def aH:Doc→List Val
 |.mk k n s ks ds=>[.int .i64 k,.int .i64 n,.str s,sls aW ks,.sl (vj ds) ds.length none]
def vj:List Doc→List Val
 |[]=>[]
 |d::r=>aH d++vj r
end
mutual
def cTy:Ty→List Val
 |.mk k l h ns fs ts=>[.int .i64 k,.int .i64 l,.int .i64 h,sls aW ns,.sl (vk fs) fs.length none,.sl (AI ts) ts.length none]
def aZ:Fld→List Val
 |.mk n o t=>.str n :: .bool o::cTy t
def vk:List Fld→List Val
 |[]=>[]
 |d::r=>aZ d++vk r
def AI:List Ty→List Val
 |[]=>[]
 |d::r=>cTy d++AI r
end
mutual
def aK:Lns→List Val
 |.mk k a b t d s l=>.int .i64 k :: .str a :: .str b::(cTy t++(aH d++[sls bx s,.sl (vl l) l.length none]))
def vl:List Lns→List Val
 |[]=>[]
 |d::r=>aK d++vl r
end
def ac (r:Res):List Val:=.int .i64 r.edge::sls bv r.step::sls aW r.at_::aH r.doc
def cSt (s:St):List Val:=aH s.doc++[sls ac s.res]
theorem q9:∀l,vj l=row aH l
 |[]=>rfl
 |d::r=>by rw[vj,row,q9 r]
theorem sq:∀l,AI l=row cTy l
 |[]=>rfl
 |d::r=>by rw[AI,row,sq r]
theorem qa:∀l,vk l=row aZ l
 |[]=>rfl
 |d::r=>by rw[vk,row,qa r]
theorem qb:∀l,vl l=row aK l
 |[]=>rfl
 |d::r=>by rw[vl,row,qb r]
theorem db (d:Doc):aH d=[.int .i64 d.kind,.int .i64 d.num,.str d.str,sls aW d.keys,sls aH d.kids]:=by
 cases d;simp[aH,Doc.kind,Doc.num,Doc.str,Doc.keys,Doc.kids,sls,q9]
theorem fA (t:Ty):cTy t=[.int .i64 t.kind,.int .i64 t.lo,.int .i64 t.hi,sls aW t.names,sls aZ t.fields,sls cTy t.of]:=by
 cases t;simp[cTy,Ty.kind,Ty.lo,Ty.hi,Ty.names,Ty.fields,Ty.of,sls,sq,qa]
theorem dR (f:Fld):aZ f=.str f.name :: .bool f.opt::cTy f.ty:=by cases f;rfl
theorem eN (l:Lns):aK l=.int .i64 l.kind :: .str l.a :: .str l.b::(cTy l.ty++(aH l.doc++[sls bx l.swaps,sls aK l.subs])):=by
 cases l;simp[aK,Lns.kind,Lns.a,Lns.b,Lns.ty,Lns.doc,Lns.swaps,Lns.subs,sls,qb]
@[simp] theorem sn (s:Str):(aW s).length=1:=rfl
@[simp] theorem sh (n:Int):(bv n).length=1:=rfl
@[simp] theorem mt (p:Int×Int):(bx p).length=2:=rfl
@[simp] theorem bS (d:Doc):(aH d).length=5:=by rw[db];rfl
@[simp] theorem bH (d:Ty):(cTy d).length=6:=by rw[fA];rfl
@[simp] theorem iP (d:Fld):(aZ d).length=8:=by rw[dR];simp
@[simp] theorem eR (d:Lns):(aK d).length=16:=by rw[eN];simp
@[simp] theorem sj (d:Res):(ac d).length=8:=by simp[ac]
@[simp] theorem Ea (d:St):(cSt d).length=6:=by simp[cSt]
section
variable {α:Type} {c:α→List Val} {e:Nat}
theorem bd (l m:List α):row c (l++m)=row c l++row c m:=by
 induction l with
 |nil=>rfl
 |cons x l ih=>simp[row,ih]
theorem fx (h:∀x,(c x).length=e)(l:List α):(row c l).length=l.length*e:=by
 induction l with
 |nil=>simp[row]
 |cons x l ih=>simp[row,ih,h,Nat.succ_mul,Nat.add_comm]
theorem pV (h:∀x,(c x).length=e):∀(l:List α)(j:Nat)(hj:j<l.length),(row c l).drop (j*e)=c l[j]++row c (l.drop (j+1))
 |[],j,hj=>absurd hj (by simp)
 |d::r,0,_=>by simp[row]
 |d::r,j+1,hj=>by
  have:=pV h r j (by simpa using hj)
  simp only[row,List.getElem_cons_succ,List.drop_succ_cons]
  rw[show(j+1)*e=e+j*e by rw[Nat.succ_mul,Nat.add_comm],←List.drop_drop,List.drop_left' (h d),this]
theorem yo (h:∀x,(c x).length=e)(l:List α)(j:Nat)(hj:j≤l.length):(row c l).take (j*e)=row c (l.take j):=by
 have h1:(row c (l.take j)).length=j*e:=by rw[fx h,List.length_take,Nat.min_eq_left hj]
 have h2:row c l=row c (l.take j)++row c (l.drop j):=by rw[←bd,List.take_append_drop]
 rw[h2,List.take_left' h1]
theorem fi (h:∀x,ai (c x)=true)(l:List α):ai (row c l)=true:=by
 have ap:∀a b:List Val,ai (a++b)=(ai a&&ai b):=by
  intro a b
  induction a with
  |nil=>simp[ai]
  |cons x a ih=>simp[ai,ih,Bool.and_assoc]
 induction l with
 |nil=>rfl
 |cons x l ih=>simp[row,ap,h,ih]
theorem aw (a b:List Val):aE (a++b)=(aE a&&aE b):=by
 induction a with
 |nil=>simp[aE]
 |cons x a ih=>simp[aE,ih,Bool.and_assoc]
theorem dh {l:List α}(h:∀x∈l,aE (c x)=true):aE (row c l)=true:=by
 induction l with
 |nil=>rfl
 |cons x l ih=>
  simp only[row,aw,Bool.and_eq_true]
  exact⟨h x (by simp),ih fun y hy=>h y (by simp[hy])⟩
theorem w4 (h:∀x,(c x).length=e):∀(l:List α)(j:Nat)(_:j<l.length)(y:α),aX (row c l) (j*e) (c y)=row c (l.set j y):=by
 intro l j hj y
 unfold aX
 rw[h,yo h l j (by omega),show j*e+e=(j+1)*e by rw[Nat.succ_mul]]
 have h1:row c l=row c (l.take (j+1))++row c (l.drop (j+1)):=by rw[←bd,List.take_append_drop]
 have h2:(row c (l.take (j+1))).length=(j+1)*e:=by rw[fx h,List.length_take,Nat.min_eq_left (by omega)]
 rw[h1,List.drop_left' h2,List.set_eq_take_append_cons_drop,if_pos hj,bd,row,List.append_assoc]
end
attribute [simp] sls
@[simp] theorem fl (l:List Str):(row aW l).length=l.length:=by rw[fx sn,Nat.mul_one]
@[simp] theorem AC (l:List Int):(row bv l).length=l.length:=by rw[fx sh,Nat.mul_one]
@[simp] theorem zw (l:List (Int×Int)):(row bx l).length=l.length*2:=fx mt l
@[simp] theorem jN (l:List Doc):(row aH l).length=l.length*5:=fx bS l
@[simp] theorem BX (l:List Ty):(row cTy l).length=l.length*6:=fx bH l
@[simp] theorem jO (l:List Fld):(row aZ l).length=l.length*8:=fx iP l
@[simp] theorem lh (l:List Lns):(row aK l).length=l.length*16:=fx eR l
@[simp] theorem dv (l:List Res):(row ac l).length=l.length*8:=fx sj l
theorem bT (a b:List Val):ai (a++b)=(ai a&&ai b):=by
 induction a with
 |nil=>simp[ai]
 |cons x a ih=>simp[ai,ih,Bool.and_assoc]
@[simp] theorem ul (d:Doc):ai (aH d)=true:=by rw[db];rfl
@[simp] theorem wz (d:Ty):ai (cTy d)=true:=by rw[fA];rfl
@[simp] theorem o4 (d:Fld):ai (aZ d)=true:=by rw[dR];simp[ai,gq]
@[simp] theorem um (d:Lns):ai (aK d)=true:=by rw[eN];simp[ai,gq,bT]
@[simp] theorem un (d:Res):ai (ac d)=true:=by simp[ac,ai,gq]
@[simp] theorem Cq (d:St):ai (cSt d)=true:=by simp[cSt,ai,gq,bT]
@[simp] theorem vH (l:List Str):ai (row aW l)=true:=fi (fun _=>rfl) l
@[simp] theorem CW (l:List Int):ai (row bv l)=true:=fi (fun _=>rfl) l
@[simp] theorem B3 (l:List (Int×Int)):ai (row bx l)=true:=fi (fun _=>rfl) l
@[simp] theorem lV (l:List Doc):ai (row aH l)=true:=fi ul l
@[simp] theorem Cs (l:List Ty):ai (row cTy l)=true:=fi wz l
@[simp] theorem CV (l:List Fld):ai (row aZ l)=true:=fi o4 l
@[simp] theorem CX (l:List Lns):ai (row aK l)=true:=fi um l
@[simp] theorem gL (l:List Res):ai (row ac l)=true:=fi un l
@[simp] theorem ic (l:List Str):aE (row aW l)=true:=dh fun _ _=>rfl
@[simp] theorem uI (l:List Int):aE (row bv l)=true:=dh fun _ _=>rfl
@[simp] theorem Ak (l:List (Int×Int)):aE (row bx l)=true:=dh fun _ _=>rfl
@[simp] theorem eX (d:Doc):aE (aH d)=true:=by
 induction d using Doc.ind with
 |h d ih=>rw[db];simpa[aE,Val.closed] using dh ih
@[simp] theorem fh (l:List Doc):aE (row aH l)=true:=dh fun d _=>eX d
@[simp] theorem eB (d:Ty):aE (cTy d)=true:=by
 induction d using Ty.ind with
 |h d ih1 ih2=>
  rw[fA]
  have h1:aE (row aZ d.fields)=true:=dh fun f hf=>by rw[dR];simpa[aE,Val.closed] using ih1 f hf
  have h2:=dh ih2
  simp[aE,Val.closed,h1,h2]
@[simp] theorem nT (f:Fld):aE (aZ f)=true:=by rw[dR];simp[aE,Val.closed]
@[simp] theorem vI (l:List Ty):aE (row cTy l)=true:=dh fun d _=>eB d
@[simp] theorem uH (l:List Fld):aE (row aZ l)=true:=dh fun d _=>nT d
@[simp] theorem nU (d:Lns):aE (aK d)=true:=by
 induction d using Lns.ind with
 |h d ih=>rw[eN];simpa[aE,Val.closed,aw] using dh ih
@[simp] theorem uJ (l:List Lns):aE (row aK l)=true:=dh fun d _=>nU d
@[simp] theorem nV (d:Res):aE (ac d)=true:=by simp[ac,aE,Val.closed]
@[simp] theorem dz (l:List Res):aE (row ac l)=true:=dh fun d _=>nV d
@[simp] theorem Bw (d:St):aE (cSt d)=true:=by simp[cSt,aE,Val.closed,aw]
def Wk (v v':Val):Prop:=∀F ρ x,Rel F ρ v x→Rel F ρ v' x
theorem Wk.refl (v:Val):Wk v v:=fun _ _ _ h=>h
theorem Wk.nils:Wk .nils (.sl [] 0 none):=fun F ρ x h=>by
 simp only[Rel] at h ⊢
 exact .inl ⟨.inl h,by simp,by simp,by simp⟩
theorem Wk.cap (cs:List Val)(n:Nat)(k:Option Nat):Wk (.sl cs n k) (.sl cs n none):=fun F ρ x h=>by
 simp only[Rel] at h ⊢
 rcases h with ⟨h1,h2,h3,_⟩|⟨b,o,c,k',h1,h2,_,h4⟩
 ·
  exact .inl ⟨h1,h2,h3,by simp⟩
 ·
  exact .inr ⟨b,o,c,k',h1,h2,by simp,h4⟩
def WkL:List Val→List Val→Prop
 |[],[]=>True
 |v::vs,u::us=>Wk v u∧WkL vs us
 |_,_=>False
theorem WkL.refl:∀l,WkL l l
 |[]=>trivial
 |v::vs=>⟨Wk.refl v,WkL.refl vs⟩
theorem WkL.rel {F:Fro}{ρ:Pl}:∀{vs us:List Val}{xs:List Value},WkL vs us→RelL F ρ vs xs→RelL F ρ us xs
 |[],[],_,_,h=>h
 |v::vs,u::us,xs,hw,h=>by
  simp only[RelL] at h ⊢
  obtain⟨y,ys,h1,h2,h3⟩:=h
  exact⟨y,ys,h1,hw.1 _ _ _ h2,WkL.rel hw.2 h3⟩
 |[],_::_,_,hw,_=>hw.elim
 |_::_,[],_,hw,_=>hw.elim
theorem Wk.ag {vs us:List Val}(h:WkL vs us):Wk (.ag vs) (.ag us):=fun F ρ x hr=>by
 simp only[Rel] at hr ⊢
 obtain⟨xs,h1,h2⟩:=hr
 exact⟨xs,h1,h.rel h2⟩
theorem Wk.tp {vs us:List Val}(h:WkL vs us):Wk (.tp vs) (.tp us):=fun F ρ x hr=>by
 simp only[Rel] at hr ⊢
 obtain⟨xs,h1,h2⟩:=hr
 exact⟨xs,h1,h.rel h2⟩
theorem PureOk.wk {P:Program}{Γ:Glo P}{f:FuncId}{vs:List Val}{r r':Val}(h:PureOk P Γ f vs r)(hw:Wk r r'):PureOk P Γ f vs r':=by
 intro F w xs hG hF ha
 refine Calls.mono (h F w xs hG hF ha) ?_
 rintro e w' ⟨F',x,h1,h2,h3,h4,h5,h6⟩
 exact⟨F',x,h1,h2,h3,h4,hw _ _ _ h5,h6⟩
end Go.V
end
section
namespace Go.V
open Go Go.Proofs
@[simp] theorem DF (d:Doc)(h:0<(aH d).length):(aH d)[0]=.int .i64 d.kind:=by simp[db]
@[simp] theorem DG (d:Doc)(h:1<(aH d).length):(aH d)[1]=.int .i64 d.num:=by simp[db]
@[simp] theorem DH (d:Doc)(h:2<(aH d).length):(aH d)[2]=.str d.str:=by simp[db]
@[simp] theorem DI (d:Doc)(h:3<(aH d).length):(aH d)[3]=sls aW d.keys:=by simp[db]
@[simp] theorem DJ (d:Doc)(h:4<(aH d).length):(aH d)[4]=sls aH d.kids:=by simp[db]
@[simp] theorem Ec (d:Ty)(h:0<(cTy d).length):(cTy d)[0]=.int .i64 d.kind:=by simp[fA]
@[simp] theorem Ed (d:Ty)(h:1<(cTy d).length):(cTy d)[1]=.int .i64 d.lo:=by simp[fA]
@[simp] theorem Ee (d:Ty)(h:2<(cTy d).length):(cTy d)[2]=.int .i64 d.hi:=by simp[fA]
@[simp] theorem Ef (d:Ty)(h:3<(cTy d).length):(cTy d)[3]=sls aW d.names:=by simp[fA]
@[simp] theorem Eg (d:Ty)(h:4<(cTy d).length):(cTy d)[4]=sls aZ d.fields:=by simp[fA]
@[simp] theorem Eh (d:Ty)(h:5<(cTy d).length):(cTy d)[5]=sls cTy d.of:=by simp[fA]
@[simp] theorem DM (d:Fld)(h:0<(aZ d).length):(aZ d)[0]=.str d.name:=by simp[dR]
@[simp] theorem DN (d:Fld)(h:1<(aZ d).length):(aZ d)[1]=.bool d.opt:=by simp[dR]
@[simp] theorem DS (d:Lns)(h:0<(aK d).length):(aK d)[0]=.int .i64 d.kind:=by simp[eN]
@[simp] theorem DT (d:Lns)(h:1<(aK d).length):(aK d)[1]=.str d.a:=by simp[eN]
@[simp] theorem DU (d:Lns)(h:2<(aK d).length):(aK d)[2]=.str d.b:=by simp[eN]
@[simp] theorem DZ (d:Res)(h:0<(ac d).length):(ac d)[0]=.int .i64 d.edge:=by simp[ac]
@[simp] theorem D1 (d:Res)(h:1<(ac d).length):(ac d)[1]=sls bv d.step:=by simp[ac]
@[simp] theorem D2 (d:Res)(h:2<(ac d).length):(ac d)[2]=sls aW d.at_:=by simp[ac]
theorem md {a b:List Val}{n:Nat}(h:a.length=n):(a++b).take n=a:=List.take_left' h
@[simp] theorem DP (d:Fld):(aZ d).drop 2=cTy d.ty:=by rw[dR];rfl
@[simp] theorem AD (d:Lns):((aK d).drop 3).take 6=cTy d.ty:=by rw[eN];exact md (bH d.ty)
@[simp] theorem xj (d:Lns):((aK d).drop 9).take 5=aH d.doc:=by
 rw[eN]
 simp only[List.drop_succ_cons]
 rw[show(6:Nat)=6 from rfl,List.drop_left' (bH d.ty)]
 exact md (bS d.doc)
@[simp] theorem o5 (d:Lns):(aK d)[14]?=some (sls bx d.swaps):=by
 rw[eN]
 simp
@[simp] theorem o6 (d:Lns):(aK d)[15]?=some (sls aK d.subs):=by
 rw[eN]
 simp
@[simp] theorem D3 (d:Res):((ac d).drop 3).take 5=aH d.doc:=by simp only[ac,List.drop_succ_cons,List.drop_zero];exact List.take_of_length_le (by simp)
@[simp] theorem E9 (d:St):(cSt d).take 5=aH d.doc:=md (bS d.doc)
@[simp] theorem xm (d:St):(cSt d)[5]?=some (sls ac d.res):=by simp[cSt]
@[simp] theorem DE (d:Doc):(aH d).take 5=aH d:=List.take_of_length_le (by simp)
@[simp] theorem Eb (d:Ty):(cTy d).take 6=cTy d:=List.take_of_length_le (by simp)
@[simp] theorem DL (d:Fld):(aZ d).take 8=aZ d:=List.take_of_length_le (by simp)
@[simp] theorem xh (d:Fld)(r:List Val):(aZ d++r).take 8=aZ d:=md (iP d)
@[simp] theorem DR (d:Lns):(aK d).take 16=aK d:=List.take_of_length_le (by simp)
@[simp] theorem DY (d:Res):(ac d).take 8=ac d:=List.take_of_length_le (by simp)
@[simp] theorem E7 (d:St):(cSt d).take 6=cSt d:=List.take_of_length_le (by simp)
end Go.V
end
section
namespace Go.V
open Go Go.Proofs
section
variable {P:Program} {Γ:Glo P}
theorem Fo {c:Operand}{x y:Code}{b:Bool}{r:Option Val}{a:List Val}{h:Heap}{N:Nat}{Q:Post}(h1:b=true→W P Γ x a h N Q)(h2:b=false→W P Γ y a h N Q)
  (hc:ev Γ a c=r:=by (simp[*];with_reducible rfl)) (hr:r=some (.bool b):=by with_reducible rfl):W P Γ (.cond c x y) a h N Q:=by
 refine oW (hc.trans hr) ?_
 cases b with
 |true=>exact h1 rfl
 |false=>exact h2 rfl
theorem BQ {ops:Array Oper}{K:List Val→Heap→Nat→Prop}{d:Option Tmp}{op:Op}{t:TypeId}{p:String}{af:Array Edge}{j:Nat}{w b:Bool}{r:Option Bool}{os:List Oper}{a:List Val}{h:Heap}{N:Nat}
  (h1:b=true→bO P Γ ops K (⟨d,op,t,p,af,some (j,w)⟩::os) a h N) (h2:b=false→bO P Γ ops K (⟨d,op,t,p,af,some (j,w)⟩::os) a h N)
  (hy:yl ops a j=r:=by (simp[*];with_reducible rfl)) (hr:r=some b:=by with_reducible rfl):bO P Γ ops K (⟨d,op,t,p,af,some (j,w)⟩::os) a h N:=by
 have:=hy.trans hr
 cases b with
 |true=>exact h1 rfl
 |false=>exact h2 rfl
def inM:List (Nat×Nat)→Nat→Bool
 |[],_=>false
 |(lo,hi)::r,t=>(decide (lo≤t)&&decide (t≤hi))||inM r t
attribute [simp] inM
structure Frm (M:List (Nat×Nat))(a0 a:List Val):Prop where
 len:a.length=a0.length
 same:∀t,inM M t=false→lk a t=lk a0 t
theorem Frm.refl (M:List (Nat×Nat))(a:List Val):Frm M a a:=⟨rfl,fun _ _=>rfl⟩
theorem Frm.set {M:List (Nat×Nat)}{a0 a:List Val}{i:Nat}{v:Val}(h:Frm M a0 a)(hi:inM M i=true):Frm M a0 (a.set i v):=
 ⟨by rw[List.length_set];exact h.len,fun t ht=>by
  have:i≠t:=fun e=>by subst e;rw[hi] at ht;cases ht
  rw[ya _ _ _ _ this]
  exact h.same t ht⟩
theorem Frm.at {M:List (Nat×Nat)}{a0 a:List Val}(h:Frm M a0 a)(t:Nat)(v:Val)(ht:inM M t=false)(hv:lk a0 t=some v):lk a t=some v:=(h.same t ht).trans hv
theorem Frm.trans {M M':List (Nat×Nat)}{a0 a a':List Val}(h:Frm M a0 a)(h':Frm M' a a')(hs:∀t,inM M t=false→inM M' t=false):Frm M a0 a':=
 ⟨h'.len.trans h.len,fun t ht=>(h'.same t (hs t ht)).trans (h.same t ht)⟩
theorem CallOk.frame {f:FuncId}{vs:List Val}{h h1 h2:Heap}{N N':Nat}{all:Bool}{r:Val}(hk:CallOk P Γ f vs h1 N all r h2 N'){hm:Heap}
  (hsub:∀i b,get h1 i=some b→get h i=some b) (hkeys:∀i,(get h2 i).isSome→(get h1 i).isSome∨(N≤i∧i<N'))
  (hmg:∀i b,get hm i=some b→get h2 i=some b∨(get h i=some b∧get h1 i=none)):CallOk P Γ f vs h N all r hm N':=by
 refine⟨hk.1,fun F ρ w0 O w xs hG m hf ha=>?_⟩
 refine(hk.2 F ρ w (cL h1 ρ) w xs hG (m.rebase hsub) hf ha).mono ?_
 rintro e w' ⟨F',ρ',x,rfl,a1,a2,a3⟩
 obtain⟨b1,b2⟩:=m.carry hsub a3 a1 (hm:=hm) fun i b hb=>by
  rcases hmg i b hb with h3|⟨h3,h4⟩
  ·
   exact .inl ⟨h3,hkeys i (by simp[h3])⟩
  ·
   refine .inr ⟨h3,by simp[h4],fun hr=>?_⟩
   obtain⟨L,x,q1,_⟩:=m.own i b h3
   rw[hf i hr.1 (.inr hr.2)] at q1
   cases q1
 exact⟨F',ρ',x,rfl,b2,a2,b1⟩
theorem aU {h:Heap}:∀i b,get [] i=some b→get h i=some b:=by simp[get]
theorem aP {h r:Heap}{k:Nat}{c:Blk}(hk:get h k=some c)(hr:∀i b,get r i=some b→get h i=some b):∀i b,get ((k,c)::r) i=some b→get h i=some b:=by
 intro i b hb
 simp only[get] at hb
 split at hb
 ·
  rename_i e;subst e;cases hb;exact hk
 ·
  exact hr i b hb
theorem kF {h1:Heap}{N N':Nat}:∀i,(get [] i).isSome→(get h1 i).isSome∨(N≤i∧i<N'):=by simp[get]
theorem jH {h1 r:Heap}{N N' k:Nat}{c:Blk}(hk:(get h1 k).isSome∨(N≤k∧k<N'))(hr:∀i,(get r i).isSome→(get h1 i).isSome∨(N≤i∧i<N')):∀i,(get ((k,c)::r) i).isSome→(get h1 i).isSome∨(N≤i∧i<N'):=by
 intro i hi
 simp only[get] at hi
 split at hi
 ·
  rename_i e;subst e;exact hk
 ·
  exact hr i hi
theorem CP {h h1 h2:Heap}:∀i b,get [] i=some b→get h2 i=some b∨(get h i=some b∧get h1 i=none):=by simp[get]
theorem Af {h h1 h2 r:Heap}{k:Nat}{c:Blk}(hk:get h2 k=some c∨(get h k=some c∧get h1 k=none))(hr:∀i b,get r i=some b→get h2 i=some b∨(get h i=some b∧get h1 i=none)) :
  ∀i b,get ((k,c)::r) i=some b→get h2 i=some b∨(get h i=some b∧get h1 i=none):=by
 intro i b hb
 simp only[get] at hb
 split at hb
 ·
  rename_i e;subst e;cases hb;exact hk
 ·
  exact hr i b hb
theorem x5 {ops:Array Oper}{K:List Val→Heap→Nat→Prop}{o:Oper}{os:List Oper}{a:List Val}{h h1 h2:Heap}{N N':Nat}{all:Bool}{f:FuncId}{vs:List Val}{r:Val}{q:Option (FuncId×List Val)}(hm:Heap)(hr:CallOk P Γ f vs h1 N all r h2 N')
  (hk:bO P Γ ops K os (dJ a o.dst r) hm N')
  (hsub:∀i b,get h1 i=some b→get h i=some b:=by (repeat (first|exact aU|refine aP (by simp[V.get, *]) ?_)))
  (hkeys:∀i,(get h2 i).isSome→(get h1 i).isSome∨(N≤i∧i<N'):=by (repeat (first|exact kF|refine jH (by first|(simp[V.get, *]<;>fail)|omega) ?_)))
  (hmg:∀i b,get hm i=some b→get h2 i=some b∨(get h i=some b∧get h1 i=none):=by (repeat (first|exact CP|refine Af (by simp[V.get, *]) ?_)))
  (hg:aO ops o a=true:=by first|exact dE (by with_reducible rfl)|(simp[*]<;>fail)) (hc:callee Γ a o=q:=by (simp[*];with_reducible rfl)) (hq:q=some (f,vs):=by with_reducible rfl) (hp:bL P f=true:=by kernel_rfl):bO P Γ ops K (o::os) a h N:=by
 simp only[bO]
 rw[if_pos hg]
 exact .call (hc.trans hq) hp (hr.frame hsub hkeys hmg) hk
theorem fk {ops:Array Oper}{K:List Val→Heap→Nat→Prop}{o:Oper}{os:List Oper}{a:List Val}{h:Heap}{N:Nat}{f:FuncId}{us:List Val}{r:Val}(n:Nat)(hr:PureOk P Γ f us r)
  (hk:bO P Γ ops K os (dJ a o.dst r) h N) (hv:∃vs,callee Γ a o=some (f,vs)∧vwL P h n vs=some us)
  (hg:aO ops o a=true:=by first|exact dE (by with_reducible rfl)|(simp[*]<;>fail)) (hp:bL P f=true:=by kernel_rfl) (hf:r.flat=true:=by simp[Val.flat,kA]):bO P Γ ops K (o::os) a h N:=by
 simp only[bO]
 rw[if_pos hg]
 obtain⟨vs,h1,h2⟩:=hv
 exact .borrow h1 hp h2 hr hf hk
theorem lj {f:FuncId}{fn:Func}{c:Code}{vs:List Val}{r:Val}{h h2:Heap}{N N':Nat}(hf:P.funcs[f]?=some fn)(hb:fn.body=some c)(hn:vs.length≤fn.ntmps)(hN:N≤N')(hl:aR N' r=true)(hh:bc N' h2=true)
  (hw:∀a:List Val,a.length=fn.ntmps→(∀(i:Nat) (v:Val),vs[i]?=some v→lk a i=some v)→W P Γ c a h N (fun e a h' _=>(e=.normal∨e=.ret)∧gr P fn a h'=some r∧∀i b,get h2 i=some b→get h' i=some b)):CallOk P Γ f vs h N true r h2 N':=by
 refine⟨hN,fun F ρ w0 O w xs hG m hfr ha=>?_⟩
 refine calls_of_wp hf hb ?_
 have hw':=hw (vs++List.replicate (fn.ntmps-vs.length) uv) (by simp;omega) (by
  intro i v hi
  unfold lk
  rw[List.getElem?_append_left (by
   rcases Nat.lt_or_ge i vs.length with h|h
   ·
    exact h
   ·
    rw[List.getElem?_eq_none h] at hi;cases hi),hi])
 refine wp_mono (hw' F ρ w0 O w _ hG m (fun i hi _=>hfr i hi (.inl rfl)) (mW ha _) rfl) ?_
 rintro e act' w' ⟨F',ρ',a',h',N'',g1,g2,g3,g4,g5,g6,g8,g9⟩
 obtain⟨x,h1,h2'⟩:=ja g5 g3 g8
 let ρ2:Pl:=fun i=>if N≤i∧i<N' then ρ' i else ρ i
 have hcut:PLe (cut ρ' N') ρ2:=by
  intro i L hi
  unfold cut at hi
  split at hi
  ·
   rename_i hlt
   show(if N≤i∧i<N' then ρ' i else ρ i)=some L
   by_cases hc:N≤i∧i<N'
   ·
    rw[if_pos hc];exact hi
   ·
    rw[if_neg hc,←g2.out i (by omega)];exact hi
  ·
   cases hi
 have hext:Ext F F' ρ ρ2 w0 O N N':=by
  refine⟨g2.f,fun i L hi=>?_,g2.new,fun i hi=>if_neg hi⟩
  show(if N≤i∧i<N' then ρ' i else ρ i)=some L
  by_cases hc:N≤i∧i<N'
  ·
   rw[hfr i hc.1 (.inl rfl)] at hi;cases hi
  ·
   rw[if_neg hc];exact hi
 have post:bodyPost P fn (fun e w'=>∃F' ρ' x,e=.returned x∧Ext F F' ρ ρ' w0 O N N'∧Rel F' ρ' r x∧Mem P F' ρ' h2 w0 O w') .ret act' w':=
  ⟨g4,x,h1,F',ρ2,x,rfl,hext,Rel.mono (FLe.refl _) hcut _ _ (Rel.cut _ _ hl h2'),(((g5.sub g9).cut hh).monoP hcut)⟩
 rcases g6 with rfl|rfl
 ·
  exact post
 ·
  exact post
theorem PureOk.split_nil {f:FuncId}{us vs:List Val}{r:Val}(h1:PureOk P Γ f (us ++ .nils::vs) r)(h2:PureOk P Γ f (us ++ .sle::vs) r):PureOk P Γ f (us ++ .sl [] 0 none::vs) r:=by
 have key:∀{F:Fro} {ρ:Pl} {us vs:List Val} {xs:List Value},RelL F ρ (us ++ .sl [] 0 none::vs) xs→RelL F ρ (us ++ .nils::vs) xs∨RelL F ρ (us ++ .sle::vs) xs:=by
  intro F ρ us
  induction us with
  |nil=>
   intro vs xs h
   simp only[List.nil_append,RelL] at h ⊢
   obtain⟨y,ys,rfl,h3,h4⟩:=h
   simp only[Rel] at h3
   rcases h3 with ⟨rfl|⟨p0,rfl⟩,_⟩|⟨b,o,c,k,rfl,_⟩
   ·
    exact .inl ⟨_,_,rfl,by simp[Rel],h4⟩
   ·
    exact .inr ⟨_,_,rfl,by simp only[Rel];exact⟨p0,0,rfl⟩,h4⟩
   ·
    exact .inr ⟨_,_,rfl,by simp only[Rel];exact⟨⟨b,o,none⟩,k,rfl⟩,h4⟩
  |cons u us ih=>
   intro vs xs h
   simp only[List.cons_append,RelL] at h ⊢
   obtain⟨y,ys,rfl,h3,h4⟩:=h
   rcases ih h4 with h5|h5
   ·
    exact .inl ⟨y,ys,rfl,h3,h5⟩
   ·
    exact .inr ⟨y,ys,rfl,h3,h5⟩
 intro F w xs hG hF ha
 rcases key ha with h|h
 ·
  exact h1 F w xs hG hF h
 ·
  exact h2 F w xs hG hF h
theorem eF {h:Heap}:∀{vs:List Val}{n:Nat},aE vs=true→vs.length<n→vwL P h n vs=some vs
 |[],n+1,_,_=>rfl
 |v::vs,n+1,hc,hn=>by
  simp only[aE,Bool.and_eq_true] at hc
  have hn':vs.length<n:=by simp at hn;omega
  obtain⟨m,rfl⟩:∃m,n=m+1:=⟨n-1,by omega⟩
  simp only[vwL,aG hc.1,eF hc.2 hn']
 |[],0,_,h=>by simp at h
 |_::_,0,_,h=>by simp at h
end
attribute [simp] aG
@[simp high] theorem HQ (a b:Int):(a==b)=decide (a=b):=rfl
@[simp high] theorem HR (a b:List UInt8):(a==b)=decide (a=b):=by
 by_cases h:a=b<;>simp[h]
@[simp high] theorem HS (a b:Int):(a != b)=decide (¬a=b):=by simp[bne]
end Go.V
end
