/-
  A part of a proof: D4 F1 F2 R8 F3 U3.
-/
import Derived.Test.YtkfjenbfbendhaaGreatDoorLk11
import Derived.Test.YtkfjenbfbendhaaGreatDoorLk12
import Derived.Test.YtkfjenbfbendhaaGreatDoorLk13
import Derived.Laws.Externs
import Derived.Lib.Bytealg
import Derived.Lib.Overlaps
import Derived.Lib.ItoaNum
import Derived.Lib.MakeNoZero
set_option linter.unusedSimpArgs false
set_option linter.unusedVariables false
section
namespace Go.V
def wRs:List Res→Nat
 |[]=>0
 |x::r=>x.step.length+x.at_.length+wD x.doc+wRs r
theorem iF:∀l:List Res,l.length≤wRs l
 |[]=>Nat.zero_le _
 |x::l=>by have:=iF l;have:=z8 x.doc;simp only[wRs,List.length_cons];omega
theorem fQ {l:List Res}{x:Res}(h:x∈l):x.step.length+x.at_.length+wD x.doc≤wRs l:=by
 induction l with
 |nil=>cases h
 |cons y l ih=>
  simp only[wRs]
  rcases List.mem_cons.1 h with rfl|h
  ·
   omega
  ·
   have:=ih h;omega
def wF:Flds→Nat
 |[]=>0
 |(n,x)::r=>n.length+1+wD x+wF r
def lim:Nat:=10000000000
def d9 (w:Wlk)(f:Flds):Bool:=decide (wRs w.res+wRs w.needs+wF f<lim)
def okK (d:Doc):Bool:=decide (d.keys.length≤d.kids.length)
def gE (run:Str→Doc→Wlk→Option (Wlk×Doc)):List Str→List Doc→Wlk→Option (Wlk×List Doc)
 |[],ds,w=>some (w,ds)
 |_::_,[],_=>none
 |k::ks,d::ds,w=>
  match run k d w with
  |some (w',d')=>(match gE run ks ds w' with
   |some (w'',l)=>some (w'',d'::l)
   |none=>none)
  |none=>none
mutual
def cT (e:Int)(back:Bool):Lns→List Int→List Str→Wlk→Flds→Option (Wlk×Flds)
 |.mk k0 a0 b0 ty d sw subs,st,ks,w,f=>
  let k:=if back then dt k0 else k0
  let a:=if back&&decide (k0=1) then b0 else a0
  let b:=if back&&decide (k0=1) then a0 else b0
  let x:=bf a f
  if k=1 then some (w,gf a b f)
  else if k=2 then some (jM e st ks a ty d w f)
  else if k=3 then some (ga e st ks a w f)
  else if k=4 then
   if okK x then
    match bD b (ofD x) with
    |some y=>some (w,aq a (ar (dY b (ofD x))) (aq b y f))
    |none=>some (w,aq a (ar (ofD x)) f)
   else none
  else if k=5 then
   if okK x then
    match bD b f with
    |some y=>some (w,aq a (ar (aq b y (ofD x))) (dY b f))
    |none=>some (w,aq a (ar (ofD x)) f)
   else none
  else if k=6 then some (w,aq a (.mk 3 0 [] [] [x]) f)
  else if k=7 then
   match x.kids with
   |y::_=>some (w,aq a y f)
   |[]=>none
  else if k=8 then some (w,aq a (.mk 4 (el x.num sw) [] [] []) f)
  else if k=9 then
   if okK x then
    match ej e back subs 0 st ks w (ofD x) with
    |some (w',f')=>some (w',aq a (ar f') f)
    |none=>none
   else none
  else
   match gE (fun s y w=>if okK y then (match ej e back subs 0 st (ks++[s]) w (ofD y) with
    |some (w',f')=>some (w',ar f')
    |none=>none) else none) x.keys x.kids w with
   |some (w',l)=>some (w',aq a (.mk x.kind x.num x.str x.keys l) f)
   |none=>none
def ej (e:Int)(back:Bool):List Lns→Nat→List Int→List Str→Wlk→Flds→Option (Wlk×Flds)
 |[],_,_,_,w,f=>if d9 w f then some (w,f) else none
 |s::l,k,st,ks,w,f=>
  if back then
   match ej e back l (k+1) st ks w f with
   |some (w',f')=>(match cT e back s (st++[(k:Int)]) ks w' f' with
    |some (w'',f'')=>if d9 w'' f'' then some (w'',f'') else none
    |none=>none)
   |none=>none
  else if d9 w f then
   match cT e back s (st++[(k:Int)]) ks w f with
   |some (w',f')=>ej e back l (k+1) st ks w' f'
   |none=>none
  else none
end
def mN (t:Ty)(l:List Lns)(e:Int)(back:Bool)(s:St):Option (St×List Res×Int):=
 let err:=(bC t (if back then bU l else l)).2.2
 if err≠0 then some (da,[],err)
 else if br s.res=false then some (da,[],1)
 else if cQ t s.doc=false then some (da,[],7)
 else if okK s.doc then match ej e back l 0 [] [] ⟨s.res,[],0⟩ (ofD s.doc) with
  |some (w,f)=>if w.err≠0 then some (da,[],w.err) else if br w.res=false then some (da,[],1) else if dH (ar f)=false then some (da,[],2) else some (⟨ar f,w.res⟩,w.needs,0)
  |none=>none
 else none
def goB (t:Ty)(l:List Lns)(e:Int)(back:Bool)(s:St):Option (St×Int):=(mN t l e back s).map fun x=>(x.1,x.2.2)
end Go.V
end
section
set_option maxHeartbeats 4000000
namespace Go.V
open Go Go.Proofs
attribute [local irreducible] W bO WD aO yl aS bW
section
variable (Γ:Glo Tryz.prog)
attribute [local simp] veq
def o7 (e:Int)(st:List Int)(ks:List Str):List Val:=[.int .i64 e,sls bv st,sls aW ks,.int .i64 0,.int .i64 0,.str [],.nils,.nils]
@[simp] theorem DX (e:Int)(st:List Int)(ks:List Str):(o7 e st ks).length=8:=rfl
@[simp] theorem BW (e:Int)(st:List Int)(ks:List Str):aE (o7 e st ks)=true:=by simp[o7,aE,Val.closed]
theorem AF (e:Int)(st:List Int)(ks:List Str):WkL (o7 e st ks) (ac ⟨e,st,ks,zeroDoc⟩):=⟨Wk.refl _,Wk.refl _,Wk.refl _,Wk.refl _,Wk.refl _,Wk.refl _,Wk.nils,Wk.nils,trivial⟩
@[simp] theorem Gn (e:Int)(c1 c2:List Val)(n1 n2:Nat)(k1 k2:Option Nat):dB Tryz.prog 82 [(0,.int .i64 e),(1,.sl c1 n1 k1),(2,.sl c2 n2 k2)]=some [.int .i64 e,.sl c1 n1 k1,.sl c2 n2 k2,.int .i64 0,.int .i64 0,.str [],.nils,.nils]:=by kernel_rfl
theorem rW {P:Program}{h:Heap}{id n:Nat}{cs:List Val}{t:TypeId}{o:Bool}(hg:get h id=some (.cells cs t o))(hc:aE cs=true)(hn:cs.length<n):vw P h (n+1) (.pr id 0)=some (.pp cs):=by
 rw[vw]
 simp only[Val.closed,Bool.false_eq_true,if_false,hg,Nat.zero_le,if_true,List.drop_zero]
 rw[eF hc hn]
 rfl
theorem wf {P:Program}{h:Heap}{f n:Nat}{us cs vs:List Val}(h1:aE us=true)(h2:us.length<n)(h3:aE cs=false)(h4:vwL P h n cs=some vs):vw P h (n+1) (.fn f us cs)=some (.fn f us vs):=by
 rw[vw]
 simp only[Val.closed,h1,h3,Bool.and_false,Bool.false_eq_true,if_false,eF h1 h2,h4]
theorem f213 (e:Int)(st:List Int)(ks:List Str):PureOk Tryz.prog Γ 213 [.int .i64 e,sls bv st,sls aW ks] (.fn 276 [] [.pp (o7 e st ks)]):=by
 refine Y3 13 Tryz.func213 rfl rfl fun a hl g0 g1 g2=>?_
 repeat' first|refine G1 ?_|(refine G2 ?_ ?_<;>intro hc hd<;>try exact hd.elim)|fail
 exact⟨by simp,.fn 276 [] [.pr 5 0],30,by simp[Tryz.f213, *],wf rfl (by simp) rfl (aI (rW rfl (by simp) (by simp)) bR)⟩
theorem f276 (x:Res)(e:Int)(st:List Int)(ks:List Str)(hx:wR x<big)(hst:st.length<big)(hks:ks.length<big):PureOk Tryz.prog Γ 276 [.ag (ac x),.pp (o7 e st ks)] (.bool (lA e st ks x)):=by
 unfold wR at hx
 have h1:=(f37 Γ x ⟨e,st,ks,zeroDoc⟩ (by omega) hst (by omega) hks).arg (vs:=[.ag (ac x),.ag (o7 e st ks)]) ⟨Wk.refl _,Wk.ag (AF e st ks),trivial⟩
 unfold lA
 generalize dc x ⟨e,st,ks,zeroDoc⟩=p1 at *
 generalize hp:o7 e st ks=p at *
 have hpl:p.length=8:=by rw[←hp];rfl
 have hpc:aE p=true:=by rw[←hp];simp
 have hpt:p.take 8=p:=List.take_of_length_le (by omega)
 clear hx hst hks hp
 refine Y2 8 Tryz.func276 rfl rfl fun a hl g0 g1=>?_
 repeat' first|refine G1 ?_|(refine G2 ?_ ?_<;>intro hc hd<;>try exact hd.elim)|fail
 all_goals (try (refine aC h1 ?_))
 repeat' first|refine G1 ?_|(refine G2 ?_ ?_<;>intro hc hd<;>try exact hd.elim)|fail
 all_goals first|(refine⟨by simp,.bool (decide (p1=0)),1,?_,rfl⟩;(simp[Tryz.f276, *]<;>grind [List.length_eq_zero_iff]);done)|skip
theorem f146 (l:List Res)(e:Int)(st:List Int)(ks:List Str)(hl:wRs l<big)(hst:st.length<big)(hks:ks.length<big):PureOk Tryz.prog Γ 146 [sls ac l,.int .i64 e,sls bv st,sls aW ks] (.int .i64 (bg (lA e st ks) l 0)):=by
 have h1:=f213 Γ e st ks
 have h2:=f212 Γ l (lA e st ks) (by have:=iF l;omega) 276 [] [.pp (o7 e st ks)] (fun x hx=>f276 Γ x e st ks (by have:=fQ hx;unfold wR;omega) hst hks) (by kernel_rfl) rfl (by simp[aE,Val.closed])
 generalize bg (lA e st ks) l 0=p1 at *
 clear hl hst hks
 refine Y4 15 Tryz.func146 rfl rfl fun a hl g0 g1 g2 g3=>?_
 repeat' first|refine G1 ?_|(refine G2 ?_ ?_<;>intro hc hd<;>try exact hd.elim)|fail
 all_goals (try (refine aC h1 ?_))
 repeat' first|refine G1 ?_|(refine G2 ?_ ?_<;>intro hc hd<;>try exact hd.elim)|fail
 all_goals (try (refine aC h2 ?_))
 repeat' first|refine G1 ?_|(refine G2 ?_ ?_<;>intro hc hd<;>try exact hd.elim)|fail
 all_goals first|(refine⟨by simp,.int .i64 p1,1,?_,rfl⟩;(simp[Tryz.f146, *]<;>grind [List.length_eq_zero_iff]);done)|skip
theorem f36 (x y:Res)(hx:wR x<big)(hy:wR y<big):PureOk Tryz.prog Γ 36 [.ag (ac x),.ag (ac y)] (.bool (decide (dc x y=0)&&eqD x.doc y.doc)):=by
 unfold wR at hx hy
 have h1:=f37 Γ x y (by omega) (by omega) (by omega) (by omega)
 have h2:=f12 Γ x.doc y.doc (by omega) (by omega)
 generalize dc x y=p1 at *
 generalize eqD x.doc y.doc=p2 at *
 clear hx hy
 refine Y2 16 Tryz.func36 rfl rfl fun a hl g0 g1=>?_
 repeat' first|refine G1 ?_|(refine G2 ?_ ?_<;>intro hc hd<;>try exact hd.elim)|fail
 all_goals (try (refine aC h1 ?_))
 repeat' first|refine G1 ?_|(refine G2 ?_ ?_<;>intro hc hd<;>try exact hd.elim)|fail
 all_goals (try (refine aC h2 ?_))
 all_goals (repeat' first|refine G1 ?_|(refine G2 ?_ ?_<;>intro hc hd<;>try exact hd.elim)|fail)
 all_goals first|(refine⟨by simp,.bool (decide (p1=0)&&p2),1,?_,rfl⟩;(simp[Tryz.f36, *]<;>grind [List.length_eq_zero_iff]);done)|skip
theorem tO:∀l m,uu l m=di (fun x y=>decide (dc x y=0)&&eqD x.doc y.doc) l m
 |[],[]=>rfl
 |[],_::_=>rfl
 |_::_,[]=>rfl
 |_::l,_::m=>by rw[uu,di,tO l m]
@[simp] theorem E8 (d:St)(h:5<(cSt d).length):(cSt d)[5]=sls ac d.res:=jC (xm d) h
theorem f13 (x y:St)(hx:wRs x.res+wD x.doc<big)(hy:wRs y.res+wD y.doc<big):PureOk Tryz.prog Γ 13 [.ag (cSt x),.ag (cSt y)] (.bool (eqS x y)):=by
 have h1:=f12 Γ x.doc y.doc (by omega) (by omega)
 have h2:=f38 Γ x.res y.res (fun x y=>decide (dc x y=0)&&eqD x.doc y.doc) (by have:=iF x.res;omega) (by have:=iF y.res;omega) 36 [] [] (fun u hu w hw=>f36 Γ u w (by have:=fQ hu;unfold wR;omega) (by have:=fQ hw;unfold wR;omega)) (by kernel_rfl) rfl rfl
 rw[←tO] at h2
 unfold eqS
 generalize eqD x.doc y.doc=p1 at *
 generalize uu x.res y.res=p2 at *
 clear hx hy
 refine Y2 19 Tryz.func13 rfl rfl fun a hl g0 g1=>?_
 repeat' first|refine G1 ?_|(refine G2 ?_ ?_<;>intro hc hd<;>try exact hd.elim)|fail
 all_goals (try (refine aC h1 ?_))
 repeat' first|refine G1 ?_|(refine G2 ?_ ?_<;>intro hc hd<;>try exact hd.elim)|fail
 all_goals (try (refine aC h2 ?_))
 all_goals (repeat' first|refine G1 ?_|(refine G2 ?_ ?_<;>intro hc hd<;>try exact hd.elim)|fail)
 all_goals first|(refine⟨by simp,.bool (p1&&p2),1,?_,rfl⟩;(simp[Tryz.f13, *]<;>grind [List.length_eq_zero_iff]);done)|skip
theorem yn (p:Option Res)(x:Res)(r:List Res):mZ p (x::r)=(dH x.doc&&(match p with|none=>true|some q=>decide (dc q x<0))&&mZ (some x) r):=by cases p<;>rfl
theorem f75 (l:List Res)(hb:wRs l<big):PureOk Tryz.prog Γ 75 [sls ac l] (.bool (br l)):=by
 have hr:∀x∈l,PureOk Tryz.prog Γ 77 [.ag (aH x.doc)] (.bool (dH x.doc)):=fun x hx=>f77 Γ x.doc (by have:=fQ hx;omega)
 have hq:∀x∈l,∀y∈l,PureOk Tryz.prog Γ 37 [.ag (ac x),.ag (ac y)] (.int .i64 (dc x y)):=fun x hx y hy=>f37 Γ x y (by have:=fQ hx;omega) (by have:=fQ hy;omega) (by have:=fQ hx;omega) (by have:=fQ hy;omega)
 replace hb:l.length<big:=by have:=iF l;omega
 simp only[big] at hb
 obtain⟨v,hv⟩:∃v,v=br l:=⟨_,rfl⟩
 rw[←hv]
 unfold br at hv
 obtain⟨w,hw0⟩:∃w,w=mZ none l:=⟨_,rfl⟩
 rw[←hw0] at hv
 refine Y1 34 Tryz.func75 rfl rfl fun a hl g0=>?_
 repeat' first|refine G1 ?_|(refine G2 ?_ ?_<;>intro hc hd<;>try exact hd.elim)|fail
 refine am [(2,4),(8,30)] [7] (fun k a h=>h=[]∧∃pre rest p,l=pre++rest∧k=rest.length∧lk a 7=some (.int .i64 pre.length)∧w=mZ p rest∧((pre.length=0∧p=none)∨∃q x,pre=q++[x]∧p=some x)) ⟨rfl,[],l,none,rfl,rfl,by simp[*],hw0,.inl ⟨rfl,rfl⟩⟩ ?_
 intro a1 hk hk0 k a h hF hI
 replace g0:=hF.a hk 0
 replace g5:=hF.a hk 5
 replace g6:=hF.a hk 6
 replace hl:a.length=34:=hF.len.trans (hk0.trans (by simp[*]))
 clear hk hk0
 clear hw0
 obtain⟨rfl,pre,rest,p,rfl,rfl,h7,hw1,hp⟩:=hI
 cases rest with
 |nil=>
  simp[mZ] at hw1
  clear hp hr hq
  repeat' first|refine G1 ?_|(refine G2 ?_ ?_<;>intro hc hd<;>try exact hd.elim)|fail
  all_goals first|(have e:v=true:=(by grind [List.length_eq_zero_iff,aL,aN,aM,aY]);(try clear hv);(try clear hv2);exact⟨by simp,.bool v,1,by simp[Tryz.f75, *],rfl⟩)|(have e:v=false:=(by grind [List.length_eq_zero_iff,aL,aN,aM,aY]);(try clear hv);(try clear hv2);exact⟨by simp,.bool v,1,by simp[Tryz.f75, *],rfl⟩)|(exact⟨by simp,.bool v,1,(by simp[Tryz.f75, *]<;>grind [List.length_eq_zero_iff,aL,aN,aM]),rfl⟩)
 |cons s r=>
  have hlt:(pre.length:Int)<pre.length+(r.length+1):=by omega
  have hw:=ad ((pre.length:Int)+1) (by simp at hb;omega) (by simp at hb;omega)
  have h1:=hr s (by simp)
  rw[yn] at hw1
  clear hr
  rcases hp with ⟨hz,rfl⟩|⟨q,x,rfl,rfl⟩
  ·
   have hz':¬0<pre.length:=by omega
   clear hz hq
   simp at hw1
   generalize dH s.doc=p1 at *
   repeat' first|refine G1 ?_|(refine G2 ?_ ?_<;>intro hc hd<;>try exact hd.elim)|fail
   refine aQ h1 ?_
   clear h1
   repeat' first|refine G1 ?_|(refine G2 ?_ ?_<;>intro hc hd<;>try exact hd.elim)|fail
   all_goals first
     |(have e:v=false:=(by grind [List.length_eq_zero_iff,aL,aN,aM,aY]);(try clear hv);(try clear hv2);exact⟨by simp,.bool v,1,by simp[Tryz.f75, *],rfl⟩)
     |(have e:w=mZ (some s) r:=(by grind);exact NX [] fun a2 hF2=>⟨rfl,pre++[s],r,some s,by simp,rfl,(hF2.q 7),e,.inr ⟨pre,s,by simp,rfl⟩⟩
      )
  ·
   have hwq:=ad (q.length:Int) (by omega) (by simp at hb;omega)
   have hrd:=rn (q++[x]) r s
   have hz':(0:Int)<q.length+1:=by omega
   have hlt':(1:Int)<r.length+1+1:=by omega
   have hle:(q.length+1)*8≤(q.length+(r.length+1+1))*8:=Nat.mul_le_mul_right _ (by omega)
   have h2:=hq x (by simp) s (by simp)
   clear hq
   simp at hrd hw hw1
   generalize dH s.doc=p1 at *
   generalize dc x s=p2 at *
   repeat' first|refine G1 ?_|(refine G2 ?_ ?_<;>intro hc hd<;>try exact hd.elim)|fail
   refine aQ h1 ?_
   clear h1
   repeat' first|refine G1 ?_|(refine G2 ?_ ?_<;>intro hc hd<;>try exact hd.elim)|fail
   all_goals (try (refine aQ h2 ?_))
   clear h2
   all_goals (repeat' first|refine G1 ?_|(refine G2 ?_ ?_<;>intro hc hd<;>try exact hd.elim)|fail)
   all_goals first
     |(have e:v=false:=(by grind [List.length_eq_zero_iff,aL,aN,aM,aY]);(try clear hv);(try clear hv2);exact⟨by simp,.bool v,1,by simp[Tryz.f75, *],rfl⟩)
     |(have e:w=mZ (some s) r:=(by grind);exact NX [] fun a2 hF2=>⟨rfl,q++[x]++[s],r,some s,by simp,rfl,(hF2.q 7),e,.inr ⟨q++[x],s,by simp,rfl⟩⟩
      )
end
end Go.V
end
section
set_option maxHeartbeats 4000000
namespace Go.V
open Go Go.Proofs
attribute [local irreducible] W bO WD aO yl aS bW
section
variable (Γ:Glo Tryz.prog)
attribute [local simp] veq bP ei V.del
def gV {α:Type}(id:Nat):List α→Val
 |[]=>.nils
 |x::l=>.so id 0 (x::l).length none
def gH {α:Type}(c:α→List Val)(id:Nat)(t:TypeId):List α→Heap
 |[]=>[]
 |x::l=>[(id,.cells (row c (x::l)) t true)]
def gR {α:Type}(c:α→List Val):List α→Val
 |[]=>.nils
 |x::l=>sls c (x::l)
theorem qs {α:Type}(c:α→List Val)(l:List α):Wk (gR c l) (sls c l):=by
 cases l with
 |nil=>exact Wk.nils
 |cons x l=>exact Wk.refl _
def Hid {α:Type}(a b:α):Prop:=a=b
theorem eO {α:Type}(c:α→List Val)(sz:Nat)(h1:∀l,(row c l).length=l.length*sz)(h2:∀l,aE (row c l)=true)(h3:∀l,ai (row c l)=true)(id:Nat)(t:TypeId)(out:List α) :
  (out=[]∧gV id out=.nils∧gH c id t out=[]∧gR c out=.nils)∨
  ∃n cs,Hid n out.length∧Hid cs (row c out)∧gV id out=.so id 0 n none∧gH c id t out=[(id,.cells cs t true)]∧gR c out=.sl cs n none∧cs.length=n*sz∧aE cs=true∧ai cs=true:=by
 cases out with
 |nil=>exact .inl ⟨rfl,rfl,rfl,rfl⟩
 |cons x l=>exact .inr ⟨_,_,rfl,rfl,rfl,rfl,rfl,h1 _,h2 _,h3 _⟩
theorem oK {α:Type}(id:Nat)(out:List α)(x:α):gV id (out++[x])=.so id 0 (out.length+1) none:=by
 cases out<;>simp[gV]
theorem jT {α:Type}(c:α→List Val)(id:Nat)(t:TypeId)(out:List α)(x:α):gH c id t (out++[x])=[(id,.cells (row c out++c x) t true)]:=by
 cases out with
 |nil=>simp[gH]
 |cons y l=>simp[gH,bd]
theorem uq (e:Int)(st:List Int)(ks:List Str)(l:List Res)(x:Res):cu e st ks (l++[x])=if lA e st ks x then cu e st ks l else cu e st ks l++[x]:=by
 induction l with
 |nil=>simp only[List.nil_append,cu]
 |cons y l ih=>
  simp only[List.cons_append,cu,ih]
  split<;>split<;>simp
theorem qh (e:Int)(st:List Int)(ks:List Str)(l:List Res):(cu e st ks l).length≤l.length:=by
 induction l with
 |nil=>exact Nat.le_refl _
 |cons y l ih=>simp only[cu];split<;>simp<;>omega
theorem EP (l:List Res)(e:Int)(st:List Int)(ks:List Str)(hbl:wRs l<big)(hst:st.length<big)(hks:ks.length<big)(c:Code)(hc:Tryz.f214.body=some c)(a:List Val)(hl:a.length=34)(g0:lk a 0=some (sls ac l))(g1:lk a 1=some (.int .i64 e))(g2:lk a 2=some (sls bv st))(g3:lk a 3=some (sls aW ks)) :
  W Tryz.prog Γ c a [] 0 (fun e' a' h' _=>(e'=.normal∨e'=.ret)∧lk a' 8=some (gV 9 (cu e st ks l))∧∀i b,get (gH ac 9 82 (cu e st ks l)) i=some b→get h' i=some b):=by
 cases hc
 have h1:=f213 Γ e st ks
 have h2:∀x∈l,PureOk Tryz.prog Γ 276 [.ag (ac x),.pp (o7 e st ks)] (.bool (lA e st ks x)):=fun x hx=>f276 Γ x e st ks (by have:=fQ hx;unfold wR;omega) hst hks
 have h3:∀x∈l,PureOk Tryz.prog Γ 79 [.ag (ac x)] (.ag (ac x)):=fun x hx=>f79 Γ x (by have:=fQ hx;unfold wR;omega)
 replace hbl:l.length<big:=by have:=iF l;omega
 simp only[big] at hbl
 generalize hp:o7 e st ks=p at *
 have hpl:p.length=8:=by rw[←hp];rfl
 have hpc:aE p=true:=by rw[←hp];simp
 clear hp hst hks
 repeat' first|refine G1 ?_|(refine G2 ?_ ?_<;>intro hc hd<;>try exact hd.elim)|fail
 refine aC h1 ?_
 clear h1
 repeat' first|refine G1 ?_|(refine G2 ?_ ?_<;>intro hc hd<;>try exact hd.elim)|fail
 refine oU [(12,12),(20,32)] [19,10] 10 (fun k a h=>∃pre rest,l=pre++rest∧k=rest.length∧lk a 19=some (.int .i64 pre.length)∧lk a 10=some (gV 9 (cu e st ks pre))∧h=gH ac 9 82 (cu e st ks pre)) (by omega) ⟨[],l,rfl,rfl,by simp[*],by simp[*,cu,gV],rfl⟩ ?_
 intro a1 hk hk0 k a h hF hI
 replace g9:=hF.a hk 9
 replace g17:=hF.a hk 17
 replace g18:=hF.a hk 18
 replace hl:a.length=34:=hF.len.trans (hk0.trans (by simp[*]))
 clear hk hk0
 obtain⟨pre,rest,rfl,rfl,h19,h10,rfl⟩:=hI
 cases rest with
 |nil=>
  simp only[List.append_nil] at *
  generalize cu e st ks pre=out at *
  clear h2 h3
  rcases eO ac 8 dv dz gL 9 82 out with ⟨_,e1,e2,e3⟩|⟨n,cs,hn,hcs,e1,e2,e3,c1,c2,c3⟩<;>rw[e1] at h10 ⊢ <;> rw[e2]<;>clear e1 e2 e3
  ·
   repeat' first|refine G1 ?_|(refine G2 ?_ ?_<;>intro hc hd<;>try exact hd.elim)|fail
   exact⟨by simp,by simp[*],fun i b hi=>hi⟩
  ·
   repeat' first|refine G1 ?_|(refine G2 ?_ ?_<;>intro hc hd<;>try exact hd.elim)|fail
   exact⟨by simp,by simp[*],fun i b hi=>hi⟩
 |cons x r=>
  have hlt:(pre.length:Int)<pre.length+(r.length+1):=by omega
  have hw:=ad ((pre.length:Int)+1) (by simp at hbl;omega) (by simp at hbl;omega)
  have i2:=h2 x (by simp)
  have i3:=h3 x (by simp)
  have hlen:=qh e st ks pre
  have hsn:=uq e st ks pre x
  clear h2 h3
  generalize lA e st ks x=q at *
  generalize cu e st ks pre=out at *
  have hln:out.length<100000000000:=by simp at hbl;omega
  clear hlen
  rcases eO ac 8 dv dz gL 9 82 out with ⟨rfl,e1,e2,e3⟩|⟨n,cs,hn,hcs,e1,e2,e3,c1,c2,c3⟩<;>rw[e1] at h10<;>rw[e2]
  ·
   repeat' first|refine G1 ?_|(refine G2 ?_ ?_<;>intro hc hd<;>try exact hd.elim)|fail
   all_goals (try (refine aC i2 ?_))
   repeat' first|refine G1 ?_|(refine G2 ?_ ?_<;>intro hc hd<;>try exact hd.elim)|fail
   all_goals (try (refine aC i3 ?_))
   all_goals (repeat' first|refine G1 ?_|(refine G2 ?_ ?_<;>intro hc hd<;>try exact hd.elim)|fail)
   ·
    exact⟨(by (repeat refine Frm.set ?_ rfl);exact hF),[(21,9)],[(21,.cells (ac x) 82 true)],(by (repeat (first|exact aU|refine aP (by simp[V.get, *]) ?_))),(by simp),(by simp),(by simp[*,aR,aa,aD]),(by simp[*,bc,cz,aR,aa,aD]),_,rfl,fun a2 hF2 hL2=>⟨pre++[x],r,by simp,rfl,((hL2 19 (by simp)).trans (by simp[*]<;>omega)),(hL2 10 (by simp)).trans (by simp[*,gV]),by simp[*,gH]⟩⟩
   ·
    exact⟨(by (repeat refine Frm.set ?_ rfl);exact hF),[],[],(by (repeat (first|exact aU|refine aP (by simp[V.get, *]) ?_))),(by simp),(by simp),(by simp[*,aR,aa,aD]),(by simp[*,bc,cz,aR,aa,aD]),_,rfl,fun a2 hF2 hL2=>⟨pre++[x],r,by simp,rfl,((hL2 19 (by simp)).trans (by simp[*]<;>omega)),(hL2 10 (by simp)).trans (by simp[*,gV]),by simp[*,gH]⟩⟩
  ·
   have hn2:(n+1)*136≤140737488355328:=by unfold Hid at hn;omega
   have hnl:¬(n+1)*8≤n*8:=by omega
   have hta:List.take (n*8) cs=cs:=List.take_of_length_le (by omega)
   repeat' first|refine G1 ?_|(refine G2 ?_ ?_<;>intro hc hd<;>try exact hd.elim)|fail
   all_goals (try (refine aC i2 ?_))
   repeat' first|refine G1 ?_|(refine G2 ?_ ?_<;>intro hc hd<;>try exact hd.elim)|fail
   all_goals (try (refine aC i3 ?_))
   all_goals (repeat' first|refine G1 ?_|(refine G2 ?_ ?_<;>intro hc hd<;>try exact hd.elim)|fail)
   ·
    exact⟨(by (repeat refine Frm.set ?_ rfl);exact hF),[(21,9)],[(21,.cells (cs++ac x) 82 true)],(by (repeat (first|exact aU|refine aP (by simp[V.get, *]) ?_))),(by simp),(by simp),(by simp[*,aR,aa,aD]),(by simp[*,bc,cz,aR,aa,aD]),_,rfl,fun a2 hF2 hL2=>⟨pre++[x],r,by simp,rfl,((hL2 19 (by simp)).trans (by simp[*]<;>omega)),(hL2 10 (by simp)).trans (by unfold Hid at hn;simp[*,oK]),by unfold Hid at hcs;simp[*,jT]⟩⟩
   ·
    exact⟨(by (repeat refine Frm.set ?_ rfl);exact hF),[(9,9)],[(9,.cells cs 82 true)],(by (repeat (first|exact aU|refine aP (by simp[V.get, *]) ?_))),(by simp),(by simp),(by simp[*,aR,aa,aD]),(by simp[*,bc,cz,aR,aa,aD]),_,rfl,fun a2 hF2 hL2=>⟨pre++[x],r,by simp,rfl,((hL2 19 (by simp)).trans (by simp[*]<;>omega)),(hL2 10 (by simp)).trans (by simp[*]),by simp[*]⟩⟩
theorem f214g (l:List Res)(e:Int)(st:List Int)(ks:List Str)(hl:wRs l<big)(hst:st.length<big)(hks:ks.length<big):PureOk Tryz.prog Γ 214 [sls ac l,.int .i64 e,sls bv st,sls aW ks] (gR ac (cu e st ks l)):=by
 refine iC Tryz.func214 rfl (by simp[Tryz.f214]) fun a hla ha=>(EP Γ l e st ks hl hst hks _ rfl a hla (ha 0 _ rfl) (ha 1 _ rfl) (ha 2 _ rfl) (ha 3 _ rfl)).mono ?_
 rintro e' a' h' _ ⟨g1,g2,g3⟩
 refine⟨g1,_,3+(row ac (cu e st ks l)).length,(by simp[Tryz.f214,g2];rfl),?_⟩
 generalize cu e st ks l=out at *
 rcases eO ac 8 dv dz gL 9 82 out with ⟨rfl,e1,e2,e3⟩|⟨n,cs,hn,hcs,e1,e2,e3,c1,c2,c3⟩
 ·
  rw[e1,e3];rfl
 ·
  rw[e1,e3]
  rw[e2] at g3
  have hg:=g3 9 (.cells cs 82 true) (by simp[get])
  unfold Hid at hcs
  rw[←hcs,show 3+cs.length=(2+cs.length)+1 by omega]
  exact dC hg (by simp[c1]) c2 (by omega)
theorem f214 (l:List Res)(e:Int)(st:List Int)(ks:List Str)(hl:wRs l<big)(hst:st.length<big)(hks:ks.length<big):PureOk Tryz.prog Γ 214 [sls ac l,.int .i64 e,sls bv st,sls aW ks] (sls ac (cu e st ks l)):=
 (f214g Γ l e st ks hl hst hks).wk (qs ac _)
end
end Go.V
end
section
namespace Go.V
open Go Go.Proofs
section
variable {P:Program} {Γ:Glo P}
theorem Mem.reblk {F:Fro}{ρ:Pl}{h:Heap}{w0 w:World}{O:Nat→Prop}(m:Mem P F ρ h w0 O w){id:Nat}{blk blk':Blk}{L:Loc}{x:Obj}(hg:get h id=some blk)(hL:ρ id=some L)(hx:w.heap[L.b]?=some x)(hb:BRel P F ρ L blk' x):Mem P F ρ (put h id blk') w0 O w:=by
 have key:∀j,(get (put h id blk') j).isSome→(get h j).isSome:=by
  intro j hj
  rw[eb] at hj
  split at hj
  ·
   rename_i e;subst e;simp[hg]
  ·
   exact hj
 refine⟨m.fro,fun j b hj=>?_,fun j k Lj Lk hj hk hLj hLk hb=>m.inj j k Lj Lk (key j hj) (key k hk) hLj hLk hb,fun j L hj hL=>m.ours j L (key j hj) hL,m.fr⟩
 rw[eb] at hj
 split at hj
 ·
  rename_i e
  subst e
  cases hj
  obtain⟨L',x',h1,h2,h3,h4⟩:=m.own id _ hg
  rw[hL] at h1;cases h1
  exact⟨L,x,hL,h2,hx,hb⟩
 ·
  exact m.own j b hj
theorem RelL.setAt {F:Fro}{ρ:Pl}{v:Val}:∀{a:List Val}{xs:List Value}{t:Nat}{x:Value},RelL F ρ a xs→xs[t]?=some x→Rel F ρ v x→RelL F ρ (a.set t v) xs
 |[],xs,t,x,h,_,_=>h
 |u::a,xs,t,x,h,hx,hv=>by
  simp only[RelL] at h
  obtain⟨y,ys,rfl,h2,h3⟩:=h
  cases t with
  |zero=>
   simp at hx
   subst hx
   exact⟨y,ys,rfl,hv,h3⟩
  |succ t=>exact⟨y,ys,rfl,h2,RelL.setAt h3 (by simpa using hx) hv⟩
theorem wY {F:Fro}{ρ:Pl}:∀xs:List Value,RelL F ρ (xs.map .jk) xs
 |[]=>rfl
 |x::xs=>⟨x,xs,rfl,by simp[Rel],wY xs⟩
theorem o9:∀xs:List Value,aE (xs.map .jk)=true
 |[]=>rfl
 |x::xs=>by rw[List.map_cons,aE,o9 xs];rfl
theorem zi {c:Code}{a:List Val}{h:Heap}{N:Nat}{Q:Post}(t:Nat){id n e:Nat}{cs:List Val}{ty:TypeId}{o:Bool}(hl:lk a t=some (.so id 0 n none))(hg:get h id=some (.cells cs ty o))(he:P.cellsOf ty=e)(hn:cs.length=n*e)
  (hw:∀k js,n≤k→aE js=true→n*e+js.length=k*e→W P Γ c (a.set t (.so id 0 n (some k))) (put h id (.cells (cs++js) ty false)) N Q):W P Γ c a h N Q:=by
 intro F ρ w0 O w act hG m hf ha hd
 obtain⟨L,x,h1,h2,h3,c',rfl,h5,h6,h7,h8⟩:=m.own id _ hg
 have hl':a[t]?=some (.so id 0 n none):=hl
 obtain⟨y,hy,hr⟩:=ha.get hl'
 simp only[Rel] at hr
 obtain⟨L',k,g1,rfl,g2,g3,g4⟩:=hr
 rw[h1] at g1;cases g1
 have g4':=g4 trivial
 have hle:cs.length≤c'.size:=by have:=h7.length;simp at this;omega
 have hK:k*e=c'.size:=by rw[←he,h6];omega
 refine hw k ((c'.toList.drop cs.length).map .jk) g2 (o9 _) (by rw[←hn];simp;omega) F ρ w0 O w act hG ?_ hf ?_ hd
 ·
  refine m.reblk hg h1 h3 ⟨c',rfl,h5,h6,?_,fun _=>?_⟩
  ·
   have e1:(cs++(c'.toList.drop cs.length).map Val.jk).length=c'.toList.length:=by simp;omega
   rw[e1,List.take_length]
   have:=h7.append (wY (F:=F) (ρ:=ρ) (c'.toList.drop cs.length))
   rwa[List.take_append_drop] at this
  ·
   simp;omega
 ·
  exact ha.setAt hy (by simp only[Rel];exact⟨L,k,h1,rfl,g2,fun k' hk=>by cases hk;rfl,fun hn=>by cases hn⟩)
def Clo (P:Program)(r0:Val)(h3:Heap)(r1:Val)(h4:Heap):Prop:=∀F ρ w0 O w x,Mem P F ρ h3 w0 O w→Rel F ρ r0 x→Mem P F ρ h4 w0 O w∧Rel F ρ r1 x
theorem Clo.refl (r0:Val)(h3:Heap):Clo P r0 h3 r0 h3:=fun _ _ _ _ _ _ h k=>⟨h,k⟩
theorem Clo.close {id n k e:Nat}{cs cs':List Val}{ty:TypeId}(he:P.cellsOf ty=e)(hn:cs.length=k*e)(hle:n*e≤cs.length)(ht:cs.take (n*e)=cs'):Clo P (.so id 0 n (some k)) [(id,.cells cs ty false)] (.so id 0 n none) [(id,.cells cs' ty true)]:=by
 intro F ρ w0 O w y m hr
 subst ht
 obtain⟨L,x,h1,h2,h3,c',rfl,h5,h6,h7,h8⟩:=m.own id (.cells cs ty false) (by simp[get])
 simp only[Rel] at hr
 obtain⟨L',k',g1,rfl,g2,g3,g4⟩:=hr
 rw[h1] at g1;cases g1
 have:=g3 k rfl
 subst this
 have h8':=h8 rfl
 refine⟨?_,by simp only[Rel];exact⟨L,k',h1,rfl,g2,fun k' hk=>(by cases hk),fun _=>by rw[←h6,he];omega⟩⟩
 have hb:BRel P F ρ L (.cells (cs.take (n*e)) ty true) (.cells c' ty (0,0)):=by
  refine⟨c',rfl,h5,h6,?_,fun ho=>by cases ho⟩
  have:=h7.take (n*e)
  rw[List.take_take] at this
  rw[List.length_take,Nat.min_eq_left hle]
  rwa[Nat.min_eq_left hle] at this
 have:=m.reblk (blk':=.cells (cs.take (n*e)) ty true) (blk:=.cells cs ty false) (by simp[get]) h1 h3 hb
 simpa[put] using this
theorem ba {f:FuncId}{fn:Func}{c:Code}{vs:List Val}{r:Val}{h h2:Heap}{N N':Nat}(hf:P.funcs[f]?=some fn)(hb:fn.body=some c)(hn:vs.length≤fn.ntmps)(hN:N≤N')(hl:aR N' r=true)(hh:bc N' h2=true)
  (hw:∀a:List Val,a.length=fn.ntmps→(∀(i:Nat) (v:Val),vs[i]?=some v→lk a i=some v)→W P Γ c a h N (fun e a h' _=>(e=.normal∨e=.ret)∧∃mv r0 h3 r1 h4,qP N N' mv=true∧dZ h4=true∧gr P fn a h'=some r0∧au (mvT N N' mv) r1=r∧bF (mvT N N' mv) h4=h2∧(∀i b,get h3 i=some b→get h' i=some b)∧Clo P r0 h3 r1 h4)):CallOk P Γ f vs h N true r h2 N':=by
 refine⟨hN,fun F ρ w0 O w xs hG m hfr ha=>?_⟩
 refine calls_of_wp hf hb ?_
 have hw':=hw (vs++List.replicate (fn.ntmps-vs.length) uv) (by simp;omega) (by
  intro i v hi
  unfold lk
  rw[List.getElem?_append_left (by
   rcases Nat.lt_or_ge i vs.length with h|h
   ·
    exact h
   ·
    rw[List.getElem?_eq_none h] at hi;cases hi),hi])
 refine wp_mono (hw' F ρ w0 O w _ hG m (fun i hi _=>hfr i hi (.inl rfl)) (mW ha _) rfl) ?_
 rintro e act' w' ⟨F',ρ',a',h',N'',g1,g2,g3,g4,g5,g6,mv,r0,h3,r1,h4,hok,hko,g8,g9,g10,g11,g12⟩
 obtain⟨x,h1,h2'⟩:=ja g5 g3 g8
 have hτ:=oN hN hok ρ'
 have hext:Ext F F' ρ (cut (mvP N N' mv ρ') N') w0 O N N':=by
  refine⟨g2.f,fun i L hi=>?_,g2.new,fun i hi=>?_⟩
  ·
   have hi':i<N:=by
    rcases Nat.lt_or_ge i N with h|h
    ·
     exact h
    ·
     rw[hfr i h (.inl rfl)] at hi;cases hi
   unfold cut
   rw[if_pos (by omega),kl hok _ hi']
   exact g2.p i L hi
  ·
   unfold cut
   by_cases hi':i<N
   ·
    rw[if_pos (by omega),kl hok _ hi',g2.out i (by omega)]
   ·
    rw[if_neg (by omega),hfr i (by omega) (.inl rfl)]
 have post:bodyPost P fn (fun e w'=>∃F' ρ' x,e=.returned x∧Ext F F' ρ ρ' w0 O N N'∧Rel F' ρ' r x∧Mem P F' ρ' h2 w0 O w') .ret act' w':=by
  obtain⟨q1,q2⟩:=g12 _ _ _ _ _ _ (g5.sub g11) h2'
  have hm:=q1.ren hτ hko
  have hr:=Rel.ren hτ _ _ q2
  rw[g9] at hr
  rw[g10] at hm
  exact⟨g4,x,h1,F',_,x,rfl,hext,Rel.cut _ _ hl hr,hm.cut hh⟩
 rcases g6 with rfl|rfl
 ·
  exact post
 ·
  exact post
end
end Go.V
end
section
set_option maxHeartbeats 4000000
namespace Go.V
open Go Go.Proofs
attribute [local irreducible] W bO WD aO yl aS bW
section
variable (Γ:Glo Tryz.prog)
attribute [local simp] veq bP ei V.del wg pm zW kW oD jA
structure XOk:Prop where
 x277:∀(h:Heap) (i id1 id2 o1 o2 n1 n2:Nat) (k1 k2:Option Nat),id1≠id2→(get h id1).isSome=true→(get h id2).isSome=true→0<n1→0<n2→Γ.x 277 [.so id1 o1 n1 k1,.so id2 o2 n2 k2] h i=some (.bool false,h)
theorem qK (zs:List Val)(n:Nat):(jB zs n).length=n:=by simp[jB]
theorem f216m (X:XOk Γ)(x:Res)(i d:Nat)(pre post res:List Val)(hd:0<d)(hb:i+d<big)(h1:pre.length=i*8)(h2:post.length=d*8)(hc1:aE pre=true)(hc2:aE post=true)(hc3:ai pre=true)(hc4:ai post=true)(hr:Hid res (pre++(ac x++post))) :
  CallOk Tryz.prog Γ 216 [.so 0 0 (i+d) none,.int .i64 i,.so 1 0 1 (some 1)] [(0,.cells (pre++post) 82 true),(1,.cells (ac x) 82 false)] 2 true (.so 2 0 (i+d+1) none) [(2,.cells res 82 true)] 3:=by
 simp only[big] at hb
 have hrc:aE res=true:=by unfold Hid at hr;rw[hr];simp[*]
 have hrl:aa 3 res=true:=aD _ hrc
 refine ba Tryz.func216 rfl (by simp[Tryz.f216]) (by omega) (by simp[aR,aa]) (by simp[bc,cz,hrl]) ?_
 intro a hl ha
 replace hl:a.length=95:=hl
 have g0:=ha 0 _ rfl
 have g1:=ha 1 _ rfl
 have g2:=ha 2 _ rfl
 clear ha hrl
 refine zi 0 (e:=8) g0 rfl (by simp) (by rw[List.length_append,h1,h2,Nat.add_mul]) ?_
 intro k js hk hjs hkl
 have hw1:=ad ((i:Int)+d+1) (by omega) (by omega)
 have hw2:=ad ((i:Int)+1) (by omega) (by omega)
 have hw3:=ad ((i:Int)+d+1-i) (by omega) (by omega)
 have hii:(i:Int)≤i+d:=by omega
 have hin:¬(i:Int)=i+d:=by omega
 have hs0:i+d+1-i=d+1:=by omega
 have hs1:i+d+1-(i+1)=d:=by omega
 rcases Nat.lt_or_ge k (i+d+1) with hroom|hroom
 ·
  have hkn:k=i+d:=by omega
  subst hkn
  have hj:js=[]:=List.eq_nil_of_length_eq_zero (by omega)
  subst hj
  have hz:¬(i=0∧d=0):=by omega
  have ht1:List.take (i*8) (pre++post)=pre:=by rw[←h1];simp
  have hd1:List.drop (i*8) (pre++post)=post:=by rw[←h1];simp
  have hp:(0:Int)<i+d+1-i:=by omega
  have hT:((i:Int)+d+1-i).toNat=d+1:=by omega
  have hb2:(i+d+1)*136≤140737488355328:=by omega
  have hle:i*8≤i*8+d*8:=by omega
  clear hk hkl hroom hjs
  simp only[List.append_nil]
  have hb3:(i+(d+1))*136≤140737488355328:=by omega
  have hii2:(i:Int)<i+d+1:=by omega
  have hii3:(i:Int)≤i+(d+1):=by omega
  have hii4:(i:Int)+1≤i+(d+1):=by omega
  have hd0:¬d=0:=by omega
  have ht4:List.take (d*8) post=post:=List.take_of_length_le (by omega)
  have hle2:(i+1)*8+d*8≤i*8+(8+d*8):=by omega
  have hmin:min 1 (d+1)=1:=by omega
  have hs2:i+(d+1)-(i+1)=d:=by omega
  obtain⟨z1,z2,hz1,hz2,hz3⟩:∃z1 z2:List Val,jB [Val.int IntKind.i64 0,Val.nils,Val.nils,Val.int IntKind.i64 0,Val.int IntKind.i64 0,Val.str [],Val.nils,Val.nils] ((d+1)*8)=z1++z2∧z1.length=8∧z2.length=d*8:=by
   refine⟨_,_,(List.take_append_drop 8 _).symm,?_,?_⟩
   ·
    simp[qK];omega
   ·
    simp[qK];omega
  have ht2:List.take (i*8) (pre++(z1++z2))=pre:=by rw[←h1];simp
  have hd2:List.drop (i*8+8) (pre++(z1++z2))=z2:=by rw[←List.append_assoc];rw[show i*8+8=(pre++z1).length by simp[h1,hz2]];exact List.drop_left
  have ht3:List.take ((i+1)*8) (pre++(ac x++z2))=pre++ac x:=by rw[←List.append_assoc];rw[show(i+1)*8=(pre++ac x).length by simp[h1];omega];exact List.take_left
  have hd3:List.drop ((i+1)*8+d*8) (pre++(ac x++z2))=[]:=List.drop_of_length_le (by simp[h1,hz3];omega)
  repeat' first|refine G1 ?_|(refine G2 ?_ ?_<;>intro hc hd<;>try exact hd.elim)|fail
  refine gy [(31,.cells (pre++(ac x++z2)) 82 true),(0,.cells (pre++post) 82 false)] ?_
  repeat' first|refine G1 ?_|(refine G2 ?_ ?_<;>intro hc hd<;>try exact hd.elim)|fail
  exact⟨by simp,[(31,2)],.so 31 0 (i+(d+1)) none,[(31,.cells (pre++(ac x++post)) 82 true)],_,_,by simp,by simp,by simp[Tryz.f216, *],by simp<;>omega,by unfold Hid at hr;rw[hr];simp[*],by (repeat (first|exact aU|refine aP (by simp[V.get, *]) ?_)),Clo.refl _ _⟩
 ·
  obtain⟨q,rfl⟩:∃q,k=i+d+1+q:=⟨k-(i+d+1),by omega⟩
  obtain⟨j1,j2,rfl,hj1,hj2⟩:∃j1 j2,js=j1++j2∧j1.length=8∧j2.length=q*8:=⟨_,_,(List.take_append_drop 8 js).symm,by simp;omega,by simp;omega⟩
  obtain⟨p1,p2,hp,hp1⟩:∃p1 p2,Hid post (p1++p2)∧p1.length=8:=⟨_,_,(List.take_append_drop 8 post).symm,by simp;omega⟩
  have hx:∀h i o2 n2 k2,(get h 1).isSome=true→(get h 0).isSome=true→0<n2→Γ.x 277 [.so 1 0 1 (some 1),.so 0 o2 n2 k2] h i=some (.bool false,h):=fun h i o2 n2 k2 g1 g2 g3=>X.x277 h i 1 0 0 o2 1 n2 (some 1) k2 (by omega) g1 g2 (by omega) g3
  have hd0:¬d=0:=by omega
  have hc:¬((i:Int)+d+1+q<i+d+1):=by omega
  have hle6:(i+1)*8+d*8≤i*8+(d*8+(8+q*8)):=by omega
  have hnn:(0:Int)≤i+d+1:=by omega
  have hTn:((i:Int)+d+1).toNat=i+d+1:=by omega
  have hle3:(i:Int)+d+1≤i+d+1+q:=by omega
  have hle4:(i:Int)+1≤i+d+1:=by omega
  have hle5:(i:Int)≤i+d+1:=by omega
  have hs5:i+d+1+q-(i+1)=d+q:=by omega
  have hs6:i+d+1+q-i=d+1+q:=by omega
  have hne:¬i+d+1+q=i+1:=by omega
  have hne2:¬i+d+1+q=i:=by omega
  have hmin:min (d+1) d=d:=by omega
  have hmin2:min 1 (d+1)=1:=by omega
  have ht5:List.take ((i+1)*8) (pre++(post++(j1++j2)))=pre++p1:=by unfold Hid at hp;rw[hp,show(i+1)*8=(pre++p1).length by simp[h1,hp1];omega,show pre++(p1++p2++(j1++j2))=(pre++p1)++(p2++(j1++j2)) by simp];exact List.take_left
  have hd5:List.drop ((i+1)*8+d*8) (pre++(post++(j1++j2)))=j2:=by rw[show pre++(post++(j1++j2))=(pre++(post++j1))++j2 by simp,show(i+1)*8+d*8=(pre++(post++j1)).length by simp[h1,h2,hj1];omega];exact List.drop_left
  have hd6:List.drop (i*8) (pre++(post++(j1++j2)))=post++(j1++j2):=by rw[←h1];simp
  have ht6:List.take (d*8) (post++(j1++j2))=post:=by rw[←h2];simp
  have ht7:List.take (i*8) (pre++(p1++(post++j2)))=pre:=by rw[←h1];simp
  have hd7:List.drop (i*8+8) (pre++(p1++(post++j2)))=post++j2:=by rw[←List.append_assoc,show i*8+8=(pre++p1).length by simp[h1,hp1]];exact List.drop_left
  clear hk hkl hroom hw3
  repeat' first|refine G1 ?_|(refine G2 ?_ ?_<;>intro hc hd<;>try exact hd.elim)|fail
  exact⟨by simp,[(0,2)],.so 0 0 (i+d+1) (some (i+d+1+q)),[(0,.cells (pre++(ac x++(post++j2))) 82 false)],.so 0 0 (i+d+1) none,[(0,.cells (pre++(ac x++post)) 82 true)],by simp,by simp,by simp[Tryz.f216, *],by simp,by unfold Hid at hr;rw[hr];simp[*],by (repeat (first|exact aU|refine aP (by simp[V.get, *]) ?_)),Clo.close (e:=8) (by simp) (by simp[*];omega) (by simp[*];omega) (by rw[show pre++(ac x++(post++j2))=(pre++(ac x++post))++j2 by simp,show(i+d+1)*8=(pre++(ac x++post)).length by simp[h1,h2];omega];exact List.take_left)⟩
theorem f216e (x:Res)(n:Nat)(cs res:List Val)(hn:0<n)(hb:n<big)(h1:cs.length=n*8)(hc1:aE cs=true)(hc3:ai cs=true)(hr:Hid res (cs++ac x)) :
  CallOk Tryz.prog Γ 216 [.so 0 0 n none,.int .i64 n,.so 1 0 1 (some 1)] [(0,.cells cs 82 true),(1,.cells (ac x) 82 false)] 2 true (.so 2 0 (n+1) none) [(2,.cells res 82 true)] 3:=by
 simp only[big] at hb
 have hrc:aE res=true:=by unfold Hid at hr;rw[hr];simp[*]
 have hrl:aa 3 res=true:=aD _ hrc
 refine ba Tryz.func216 rfl (by simp[Tryz.f216]) (by omega) (by simp[aR,aa]) (by simp[bc,cz,hrl]) ?_
 intro a hl ha
 replace hl:a.length=95:=hl
 have g0:=ha 0 _ rfl
 have g1:=ha 1 _ rfl
 have g2:=ha 2 _ rfl
 clear ha hrl
 refine zi 0 (e:=8) g0 rfl (by simp) h1 ?_
 intro k js hk hjs hkl
 have hn0:¬n=0:=by omega
 rcases Nat.lt_or_ge k (n+1) with hroom|hroom
 ·
  have hkn:k=n:=by omega
  subst hkn
  have hj:js=[]:=List.eq_nil_of_length_eq_zero (by omega)
  subst hj
  have ht1:List.take (k*8) cs=cs:=List.take_of_length_le (by omega)
  have hb2:(k+1)*136≤140737488355328:=by omega
  have hnk:¬k+1≤k:=by omega
  clear hk hkl hroom hjs
  simp only[List.append_nil]
  repeat' first|refine G1 ?_|(refine G2 ?_ ?_<;>intro hc hd<;>try exact hd.elim)|fail
  exact⟨by simp,[(19,2)],.so 19 0 (k+1) none,[(19,.cells (cs++ac x) 82 true)],_,_,by simp,by simp,by simp[Tryz.f216, *],by simp,by unfold Hid at hr;rw[hr];simp[*],by (repeat (first|exact aU|refine aP (by simp[V.get, *]) ?_)),Clo.refl _ _⟩
 ·
  obtain⟨q,rfl⟩:∃q,k=n+1+q:=⟨k-(n+1),by omega⟩
  obtain⟨j1,j2,rfl,hj1,hj2⟩:∃j1 j2,js=j1++j2∧j1.length=8∧j2.length=q*8:=⟨_,_,(List.take_append_drop 8 js).symm,by simp;omega,by simp;omega⟩
  have hne2:¬n+1+q=n:=by omega
  have hle:n+1≤n+1+q:=by omega
  have hle6:(n+1)*8≤n*8+(8+q*8):=by omega
  have hs6:n+1+q-n=1+q:=by omega
  have ht5:List.take (n*8) (cs++(j1++j2))=cs:=by rw[←h1];simp
  have hd5:List.drop (n*8+8) (cs++(j1++j2))=j2:=by rw[←List.append_assoc,show n*8+8=(cs++j1).length by simp[h1,hj1]];exact List.drop_left
  clear hk hkl hroom
  repeat' first|refine G1 ?_|(refine G2 ?_ ?_<;>intro hc hd<;>try exact hd.elim)|fail
  exact⟨by simp,[(0,2)],.so 0 0 (n+1) (some (n+1+q)),[(0,.cells (cs++(ac x++j2)) 82 false)],.so 0 0 (n+1) none,[(0,.cells (cs++ac x) 82 true)],by simp,by simp,by simp[Tryz.f216, *],by simp,by unfold Hid at hr;rw[hr];simp[*],by (repeat (first|exact aU|refine aP (by simp[V.get, *]) ?_)),Clo.close (e:=8) (by simp) (by simp[*];omega) (by simp[*]) (by rw[show cs++(ac x++j2)=(cs++ac x)++j2 by simp,show(n+1)*8=(cs++ac x).length by simp[h1];omega];exact List.take_left)⟩
theorem f216n (x:Res):CallOk Tryz.prog Γ 216 [.nils,.int .i64 0,.so 0 0 1 (some 1)] [(0,.cells (ac x) 82 false)] 1 true (.so 1 0 1 none) [(1,.cells (ac x) 82 true)] 2:=by
 refine ba Tryz.func216 rfl (by simp[Tryz.f216]) (by omega) (by simp[aR,aa]) (by simp[bc,cz]) ?_
 intro a hl ha
 replace hl:a.length=95:=hl
 have g0:=ha 0 _ rfl
 have g1:=ha 1 _ rfl
 have g2:=ha 2 _ rfl
 clear ha
 repeat' first|refine G1 ?_|(refine G2 ?_ ?_<;>intro hc hd<;>try exact hd.elim)|fail
 exact⟨by simp,[(18,1)],.so 18 0 1 none,[(18,.cells (ac x) 82 true)],_,_,by simp,by simp,by simp[Tryz.f216, *],by simp,by simp,by (repeat (first|exact aU|refine aP (by simp[V.get, *]) ?_)),Clo.refl _ _⟩
end
end Go.V
end
section
namespace Go.V
open Go Go.Proofs
theorem yq {P:Program}(w:World)(tS tR e:TypeId)(ht:P.underlying tS=some (.slice e))(size:Nat)(hz:∀w,(Go.sizeOf e).run P w=.ok size w)
  (a b:Addr) (la ca lb cb:Nat) (hne:a.block≠b.block) (hoa:(∃c t,w.heap[a.block]?=some (.cells c t (0,0)))∨∃es ck,w.heap[a.block]?=some (.map es ck)) (hob:(∃c t,w.heap[b.block]?=some (.cells c t (0,0)))∨∃es ck,w.heap[b.block]?=some (.map es ck)) :
  (Extern.SlicesOverlaps.overlaps #[tS,tS] #[tR] #[.slice (some a) la ca,.slice (some b) lb cb]).run P w=.ok (.bool false) w:=by
 have hnb:(a.block != b.block)=true:=by simpa using hne
 have hnb':(a.block==b.block)=false:=by simpa using hne
 change Sem.run P (bind _ _) w=_
 by_cases h0:la=0∨lb=0∨size=0
 ·
  simp[run_underlying ht,hz,h0]
 ·
  rcases hoa with ⟨c,t,ha⟩|⟨es,ck,ha⟩<;>rcases hob with ⟨c',t',hb⟩|⟨es',ck',hb⟩ <;>
   simp[run_underlying ht,hz,h0,hnb,hnb',frozen,noView,viewAt,mayBeOne,stringish,shape,getObj,Sem.run,World.shape?,World.frozen?,ha,hb]
theorem wO {P:Program}{F:Fro}{ρ:Pl}{h:Heap}{w0 w:World}{O:Nat→Prop}(m:Mem P F ρ h w0 O w){i:Nat}{blk:Blk}(hg:get h i=some blk){L:Loc}(hL:ρ i=some L):(∃c t,w.heap[L.b]?=some (.cells c t (0,0)))∨∃es ck,w.heap[L.b]?=some (.map es ck):=by
 obtain⟨L',x,h1,h2,h3,h4⟩:=m.own i _ hg
 rw[hL] at h1;cases h1
 cases blk with
 |cells cs t op=>obtain⟨c,rfl,_⟩:=h4;exact .inl ⟨c,t,h3⟩
 |map es=>obtain⟨ents,clock,rfl,_⟩:=h4;exact .inr ⟨_,_,h3⟩
def CG (s:Str)(c:Int):Int:=firstIdx ⟨s.toArray⟩ c.toNat.toUInt8
def tX (f:FuncId)(vs:List Val)(h:Heap)(i:Nat):Option (Val×Heap):=match f,vs with
 |279,[.str s,.int .u8 c]=>some (.int .i64 (CG s c),h)
 |340,[.str a,.str b]=>some (.int .i64 (Lib.compareBytes a b),h)
 |251,[.int .i64 n]=>if 0≤n∧n≤1000000 then some (.so i 0 n.toNat none,put h i (.cells [] 5 true)) else none
 |277,[.so id1 _ n1 _,.so id2 _ n2 _]=>if id1≠id2∧(get h id1).isSome=true∧(get h id2).isSome=true∧0<n1∧0<n2 then some (.bool false,h) else none
 |_,_=>none
def Fh:List Val:=Lib.pow10Tab.map fun z=>.int .u64 z
def spaceTab:List Int:=(List.range 256).map fun i=>if (9≤i∧i≤13)∨i=32 then 1 else 0
def tG (g:Nat):Option (List Val):=match g with
 |1=>some Fh
 |2=>some (spaceTab.map fun z=>.int .u8 z)
 |_=>none
theorem EK:∀f vs h i v h',tX f vs h i=some (v,h')→∀F ρ w0 O w (xs:Array Value),Mem Tryz.prog F ρ h w0 O w→RelL F ρ vs xs.toList→ρ i=none→
  ∃ρ' y w',(callFunc f xs).run Tryz.prog w=.ok (.value y) w'∧PLe ρ ρ'∧(∀j,j≠i→ρ' j=ρ j)∧Rel F ρ' v y∧Mem Tryz.prog F ρ' h' w0 O w':=by
 intro f vs h i v h' hx F ρ w0 O w xs m hr hi
 unfold tX at hx
 split at hx
 ·
  rename_i s c
  cases hx
  simp only[RelL,Rel] at hr
  obtain⟨y0,ys,e1,rfl,y1,ys',rfl,rfl,rfl⟩:=hr
  obtain rfl:xs=#[str s,.int .u8 c]:=by cases xs;simp_all
  refine⟨ρ,_,w,?_,PLe.refl ρ,fun _ _=>rfl,by rw[Rel],m⟩
  rw[run_callFunc_extern Tryz.func279 (by kernel_rfl) (by kernel_rfl) (by kernel_rfl) (e:=Extern.BytealgIndexByte.indexByte) (by kernel_rfl)]
  unfold str
  rw[run_indexByte_string]
  rfl
 ·
  rename_i a b
  cases hx
  simp only[RelL,Rel] at hr
  obtain⟨y0,ys,e1,rfl,y1,ys',rfl,rfl,rfl⟩:=hr
  obtain rfl:xs=#[str a,str b]:=by cases xs;simp_all
  refine⟨ρ,_,w,?_,PLe.refl ρ,fun _ _=>rfl,by rw[Rel],m⟩
  rw[run_callFunc_extern Tryz.func340 (by kernel_rfl) (by kernel_rfl) (by kernel_rfl) (e:=Extern.BytealgCompare.compare) (by kernel_rfl)]
  unfold str
  rw[Lib.run_compareString]
  rfl
 ·
  rename_i n
  split at hx
  ·
   rename_i hn
   cases hx
   simp only[RelL,Rel] at hr
   obtain⟨y0,ys,e1,rfl,rfl⟩:=hr
   obtain rfl:xs=#[.int .i64 n]:=by cases xs;simp_all
   obtain⟨m0,rfl⟩:∃m0:Nat,n=m0:=⟨n.toNat,by omega⟩
   obtain⟨cs,h1,h2,_⟩:=Lib.run_makeNoZero (P:=Tryz.prog) (w:=w) #[3] 182 5 Tryz.underlying182 m0 (by omega)
   have c5:Tryz.prog.cellsOf 5=1:=by kernel_rfl
   obtain⟨m',_⟩:=m.alloc (K:=cs.size) (e:=1) (blk:=.cells [] 5 true) (x:=.cells cs 5) (w':=w.drew.drew.alloc (.cells cs 5)) hi
    ⟨cs,rfl,rfl,c5,by simp[RelL],fun h=>by cases h⟩ rfl rfl rfl rfl
   refine⟨_,.slice (some ⟨w.heap.size,0,none⟩) m0 cs.size,_,?_,pg (⟨w.heap.size,cs.size,1⟩:Loc) hi,fun j hj=>by unfold upd;rw[if_neg (fun e=>hj e.symm)],?_,m'⟩
   ·
    rw[run_callFunc_extern Tryz.func251 (by kernel_rfl) (by kernel_rfl) (by kernel_rfl) (e:=Extern.BytealgMakeNoZero.makeNoZero #[3] #[182]) (by kernel_rfl),h1]
    rfl
   ·
    rw[Rel]
    refine⟨_,cs.size,by unfold upd;rw[if_pos rfl],by simp,by simpa using h2,(fun _ h=>by cases h),fun _=>?_⟩
    simp
  ·
   cases hx
 ·
  rename_i id1 o1 n1 k1 id2 o2 n2 k2
  split at hx
  ·
   rename_i hc
   obtain⟨hne,hs1,hs2,h01,h02⟩:=hc
   cases hx
   simp only[RelL,Rel] at hr
   obtain⟨y0,ys,e1,⟨L1,q1,p1,rfl,_⟩,y1,ys',rfl,⟨L2,q2,p2,rfl,_⟩,rfl⟩:=hr
   obtain rfl:xs=#[.slice (some ⟨L1.b,o1,none⟩) n1 q1,.slice (some ⟨L2.b,o2,none⟩) n2 q2]:=by cases xs;simp_all
   obtain⟨b1,hb1⟩:=Option.isSome_iff_exists.1 hs1
   obtain⟨b2,hb2⟩:=Option.isSome_iff_exists.1 hs2
   refine⟨ρ,_,w,?_,PLe.refl ρ,fun _ _=>rfl,by rw[Rel],m⟩
   have hz:∀w,(Go.sizeOf 82).run Tryz.prog w=.ok 8 w:=fun w=>bn (by simp)
   rw[run_callFunc_extern Tryz.func277 (by kernel_rfl) (by kernel_rfl) (by kernel_rfl) (e:=Extern.SlicesOverlaps.overlaps #[38,38] #[4]) (by kernel_rfl),
    yq w 38 4 82 Tryz.underlying38 8 hz _ _ n1 q1 n2 q2 (fun e=>hne (m.inj id1 id2 L1 L2 hs1 hs2 p1 p2 e)) (wO m hb1 p1) (wO m hb2 p2)]
   rfl
  ·
   cases hx
 ·
  cases hx
noncomputable def ΓT:Glo Tryz.prog:={g:=tG,x:=tX,ok:=EK}
theorem xok:XOk ΓT:=⟨fun h i id1 id2 o1 o2 n1 n2 k1 k2 h1 h2 h3 h4 h5=>by
 simp only[ΓT,tX]
 rw[if_pos ⟨h1,h2,h3,h4,h5⟩]⟩
end Go.V
end
