/-
  A part of a proof: A6 A7 A8 A9 A10 L9 L10.
-/
import Derived.Test.YtkfjenbfbendhaaGreatDoorLk15
import Derived.Test.YtkfjenbfbendhaaGreatDoorLk16
import Derived.Test.YtkfjenbfbendhaaGreatDoorLk23
import Derived.Test.YtkfjenbfbendhaaGreatDoorLk24
set_option linter.unusedSimpArgs false
set_option linter.unusedVariables false
section
set_option maxHeartbeats 4000000
namespace Go.V
open Go Go.Proofs
attribute [local irreducible] W bO WD aO yl aS bW
section
variable (Γ:Glo Tryz.prog)
attribute [local simp] veq bP ei V.del
def oe (k:Int):Nat:=if k=1 then 190 else if k=2 then 191 else if k=3 then 192 else if k=4 then 193 else if k=5 then 194 else if k=6 then 195 else if k=7 then 196 else if k=8 then 197 else if k=9 then 198 else 199
theorem f132 (k:Int):CallOk Tryz.prog Γ 132 [.pr 0 0,.int .i64 k] [] 1 true (.fn (oe k) [.pr 0 0] []) [] 1:=by
 unfold oe
 by_cases h1:k=1
 ·
  subst h1
  refine Z2 44 Tryz.func132 rfl rfl fun a hl g0 g1=>?_
  repeat' first|refine G1 ?_|(refine G2 ?_ ?_<;>intro hc hd<;>try exact hd.elim)|fail
  exact⟨by simp,by simp[Tryz.f132, *],fun i b h=>by cases h⟩
 rw[if_neg h1]
 by_cases h2:k=2
 ·
  subst h2
  refine Z2 44 Tryz.func132 rfl rfl fun a hl g0 g1=>?_
  repeat' first|refine G1 ?_|(refine G2 ?_ ?_<;>intro hc hd<;>try exact hd.elim)|fail
  exact⟨by simp,by simp[Tryz.f132, *],fun i b h=>by cases h⟩
 rw[if_neg h2]
 by_cases h3:k=3
 ·
  subst h3
  refine Z2 44 Tryz.func132 rfl rfl fun a hl g0 g1=>?_
  repeat' first|refine G1 ?_|(refine G2 ?_ ?_<;>intro hc hd<;>try exact hd.elim)|fail
  exact⟨by simp,by simp[Tryz.f132, *],fun i b h=>by cases h⟩
 rw[if_neg h3]
 by_cases h4:k=4
 ·
  subst h4
  refine Z2 44 Tryz.func132 rfl rfl fun a hl g0 g1=>?_
  repeat' first|refine G1 ?_|(refine G2 ?_ ?_<;>intro hc hd<;>try exact hd.elim)|fail
  exact⟨by simp,by simp[Tryz.f132, *],fun i b h=>by cases h⟩
 rw[if_neg h4]
 by_cases h5:k=5
 ·
  subst h5
  refine Z2 44 Tryz.func132 rfl rfl fun a hl g0 g1=>?_
  repeat' first|refine G1 ?_|(refine G2 ?_ ?_<;>intro hc hd<;>try exact hd.elim)|fail
  exact⟨by simp,by simp[Tryz.f132, *],fun i b h=>by cases h⟩
 rw[if_neg h5]
 by_cases h6:k=6
 ·
  subst h6
  refine Z2 44 Tryz.func132 rfl rfl fun a hl g0 g1=>?_
  repeat' first|refine G1 ?_|(refine G2 ?_ ?_<;>intro hc hd<;>try exact hd.elim)|fail
  exact⟨by simp,by simp[Tryz.f132, *],fun i b h=>by cases h⟩
 rw[if_neg h6]
 by_cases h7:k=7
 ·
  subst h7
  refine Z2 44 Tryz.func132 rfl rfl fun a hl g0 g1=>?_
  repeat' first|refine G1 ?_|(refine G2 ?_ ?_<;>intro hc hd<;>try exact hd.elim)|fail
  exact⟨by simp,by simp[Tryz.f132, *],fun i b h=>by cases h⟩
 rw[if_neg h7]
 by_cases h8:k=8
 ·
  subst h8
  refine Z2 44 Tryz.func132 rfl rfl fun a hl g0 g1=>?_
  repeat' first|refine G1 ?_|(refine G2 ?_ ?_<;>intro hc hd<;>try exact hd.elim)|fail
  exact⟨by simp,by simp[Tryz.f132, *],fun i b h=>by cases h⟩
 rw[if_neg h8]
 by_cases h9:k=9
 ·
  subst h9
  refine Z2 44 Tryz.func132 rfl rfl fun a hl g0 g1=>?_
  repeat' first|refine G1 ?_|(refine G2 ?_ ?_<;>intro hc hd<;>try exact hd.elim)|fail
  exact⟨by simp,by simp[Tryz.f132, *],fun i b h=>by cases h⟩
 rw[if_neg h9]
 refine Z2 44 Tryz.func132 rfl rfl fun a hl g0 g1=>?_
 repeat' first|refine G1 ?_|(refine G2 ?_ ?_<;>intro hc hd<;>try exact hd.elim)|fail
 exact⟨by simp,by simp[Tryz.f132, *],fun i b h=>by cases h⟩
def nQ (l:List Lns):Prop:=∀(e:Int)(bk:Bool)(st:List Int)(ks:List Str)(w:Wlk)(d:Doc)(w':Wlk)(f':Flds),
 okK d=true→wD d<big→st.length+ak l<1000000→ks.length+ak l<1000000→ej e bk l 0 st ks w (ofD d)=some (w',f')→
 bl f'∧CallOk Tryz.prog Γ 76 [.pr 0 0,sls aK l,.ag (aH d),plV st ks] [(0,.cells (cW e bk w) 135 false)] 1 true (.ag (aH (ar f'))) [(0,.cells (cW e bk w') 135 false)] 1
theorem f198 (e:Int)(bk:Bool)(s:Lns)(st:List Int)(ks:List Str)(w:Wlk)(f:Flds)(w':Wlk)(f':Flds)(hR:nQ Γ s.subs)(hb:wF f<10000000000)(ho:okK (bf s.a f)=true)(hst:st.length+ak s.subs<1000000)(hks:ks.length+ak s.subs<1000000)(hr:ej e bk s.subs 0 st ks w (ofD (bf s.a f))=some (w',f')) :
  Mth Γ 198 e bk s st ks w f w' (aq s.a (ar f') f):=by
 have hwx:=ku s.a f
 have k0:=(hR e bk st ks w (bf s.a f) w' f' ho (by unfold big;omega) hst hks hr).2
 replace k0:=CallOk.arg Γ k0 (vs:=[.pr 0 0,sls aK s.subs,.ag (cG s.a f),plV st ks]) ⟨Wk.refl _,Wk.refl _,mJ s.a f,Wk.refl _,trivial⟩
 have hcl:=eS e bk w
 have hcl':=eS e bk w'
 have hcx:=eJ s.a f
 have hlk:=fun(h:Heap) (hg:V.get h 0=some (.map (mF f)))=>eV bY hg s.a false
 simp only[if_false,Bool.false_eq_true] at hlk
 have hu:=fun(h:Heap) (hg:V.get h 0=some (.map (mF f)))=>dg bY hg s.a (ar f')
 unfold Mth
 unfold plV at k0 ⊢
 generalize cW e bk w=W0 at *
 generalize cW e bk w'=W1 at *
 generalize cG s.a f=cx at *
 have hlo:=fun N=>aD (N:=N) _ hcl
 have hlo':=fun N=>aD (N:=N) _ hcl'
 have hlox:=fun N=>aD (N:=N) _ hcx
 have k1:=k0.ren [1] 4 rfl (by simp[cm,fU,aa,aR,aD, *]) (by simp) (by simp)
 simp[bF,b9,bu,au,tau,aJ,hcl,hcl',hcx] at k1
 clear k0 hR hb ho hst hks hr hwx
 refine J4 20 Tryz.func198 rfl rfl fun a hl g0 g1 g2 g3=>?_
 repeat' first|refine G1 ?_|(refine G2 ?_ ?_<;>intro hc hd<;>try exact hd.elim)|fail
 refine gz ?_ (by intro _ _ _ _ he hq;exact⟨hq.1,(by first|exact hq.2.1|simpa[Tryz.f198] using hq.2.1),fun i b hb=>(he i).trans (hq.2.2 i b hb)⟩)
 repeat' first|refine G1 ?_|(refine G2 ?_ ?_<;>intro hc hd<;>try exact hd.elim)|fail
 refine cI k1 ?_
 repeat' first|refine G1 ?_|(refine G2 ?_ ?_<;>intro hc hd<;>try exact hd.elim)|fail
 exact⟨by simp,by simp[Tryz.f198, *],by (repeat (first|exact aU|refine aP (by simp[V.get, *]) ?_))⟩
end
end Go.V
end
section
set_option maxHeartbeats 4000000
namespace Go.V
open Go Go.Proofs
attribute [local irreducible] W bO WD aO yl aS bW
section
variable (Γ:Glo Tryz.prog)
attribute [local simp] veq
theorem C9 {P:Program}{h:Heap}{id n:Nat}{cs us:List Val}{t:TypeId}{o:Bool}(hg:get h id=some (.cells cs t o))(h1:vwL P h n cs=some us):vw P h (n+1) (.pr id 0)=some (.pp us):=by
 rw[vw]
 simp only[Val.closed,Bool.false_eq_true,if_false,hg,Nat.zero_le,if_true,List.drop_zero,h1,Option.map_some]
theorem f78c (d:Doc)(hne:d.kids≠[])(hb:wD d<big):CallOk Tryz.prog Γ 78 [.ag (aH d)] [] 0 true (.ag [.int .i64 d.kind,.int .i64 d.num,.str d.str,sls aW d.keys,.so 0 0 d.kids.length none]) [(0,.cells (row aH d.kids) 30 true)] 1:=by
 have hk:=fP d
 have hk2:=io d
 have h1:=f71 Γ d.keys (by simp only[big] at *;omega)
 have ih':∀x∈d.kids,PureOk Tryz.prog Γ 78 [.ag (aH x)] (.ag (aH x)):=fun x hx=>f78 Γ x (by have:=nN hx;simp only[big] at *;omega)
 cases hkids:d.kids with
 |nil=>exact(hne hkids).elim
 |cons x0 r0=>
  rw[hkids] at hk ih'
  have h2:=(f138c Γ x0 r0 (by simp at hk;simp only[big] at *;omega)).ren [] 2 rfl (by simp[cm]) (by simp) rfl
  simp at h2
  rw[db,hkids]
  obtain⟨ds,hds⟩:∃ds,x0::r0=ds:=⟨_,rfl⟩
  have hlen:(r0.length:Int)+1=ds.length:=by rw[←hds];simp
  have hlen2:r0.length+1=ds.length:=by rw[←hds];simp
  have hrow:aH x0++row aH r0=row aH ds:=by rw[←hds];rfl
  rw[hrow,hlen2] at h2
  rw[hds] at hk ih' ⊢
  clear hrow hlen hlen2 hne
  refine ba Tryz.func78 rfl (by simp[Tryz.f78]) (by omega) (by simp[aR,aa]) (by simp[bc,cz,aR,aa,aD]) ?_
  intro a hl ha
  replace hl:a.length=29:=hl
  have g0:=ha 0 _ rfl
  clear ha
  repeat' first|refine G1 ?_|(refine G2 ?_ ?_<;>intro hc hd<;>try exact hd.elim)|fail
  refine aQ h1 ?_
  repeat' first|refine G1 ?_|(refine G2 ?_ ?_<;>intro hc hd<;>try exact hd.elim)|fail
  refine cI h2 ?_
  clear h1 h2
  repeat' first|refine G1 ?_|(refine G2 ?_ ?_<;>intro hc hd<;>try exact hd.elim)|fail
  refine am [(3,4),(17,27)] [16] (fun k a h=>h=[(7,.cells (row aH ds) 30 true),(0,.cells [.int .i64 d.kind,.int .i64 d.num,.str d.str,sls aW d.keys,.so 7 0 ds.length none] 30 false),(1,.cells [.int .i64 0,.int .i64 0,.str [],.nils,.nils] 30 false)]∧∃pre rest,ds=pre++rest∧k=rest.length∧lk a 16=some (.int .i64 pre.length)) ⟨by simp[V.put,aX, *],[],ds,rfl,rfl,by simp[*]⟩ ?_
  intro a1 hk hk0 k a h hF hI
  replace g1:=hF.a hk 1
  replace g2:=hF.a hk 2
  replace g14:=hF.a hk 14
  replace g15:=hF.a hk 15
  replace hl:a.length=29:=hF.len.trans (hk0.trans (by simp[*]))
  clear hk hk0
  obtain⟨rfl,pre,rest,rfl,rfl,h16⟩:=hI
  cases rest with
  |nil=>
   simp only[List.append_nil] at *
   repeat' first|refine G1 ?_|(refine G2 ?_ ?_<;>intro hc hd<;>try exact hd.elim)|fail
   exact⟨by simp,[(7,0)],.ag [.int .i64 d.kind,.int .i64 d.num,.str d.str,sls aW d.keys,.so 7 0 pre.length none],[(7,.cells (row aH pre) 30 true)],.ag [.int .i64 d.kind,.int .i64 d.num,.str d.str,sls aW d.keys,.so 7 0 pre.length none],_,by simp,by simp,by simp[Tryz.f78,V.get,V.put,aX, *],by simp[au,bu,aJ],by simp[bF,b9,aJ],by (repeat (first|exact aU|refine aP (by simp[V.get, *]) ?_)),Clo.refl _ _⟩
  |cons x r=>
   have hlt:(pre.length:Int)<pre.length+(r.length+1):=by omega
   have hw:=ad ((pre.length:Int)+1) (by simp at hk;simp only[big] at *;omega) (by simp at hk;simp only[big] at *;omega)
   have hx:=ih' x (by simp)
   clear ih'
   repeat' first|refine G1 ?_|(refine G2 ?_ ?_<;>intro hc hd<;>try exact hd.elim)|fail
   refine aQ hx ?_
   clear hx
   repeat' first|refine G1 ?_|(refine G2 ?_ ?_<;>intro hc hd<;>try exact hd.elim)|fail
   exact NX [(7,.cells (row aH (pre++x::r)) 30 true),(0,.cells [.int .i64 d.kind,.int .i64 d.num,.str d.str,sls aW d.keys,.so 7 0 (pre++x::r).length none] 30 false),(1,.cells [.int .i64 0,.int .i64 0,.str [],.nils,.nils] 30 false)] fun a2 hF2=>⟨rfl,pre++[x],r,by simp,rfl,(hF2.q 16)⟩
end
end Go.V
end
section
set_option maxHeartbeats 4000000
namespace Go.V
open Go Go.Proofs
attribute [local irreducible] W bO WD aO yl aS bW
section
variable (Γ:Glo Tryz.prog)
attribute [local simp] veq bP ei V.del
def tK (e:Int)(bk:Bool)(subs:List Lns)(st:List Int)(ks:List Str)(s:Str)(y:Doc)(w:Wlk):Option (Wlk×Doc):=
 if okK y then (match ej e bk subs 0 st (ks++[s]) w (ofD y) with
  |some (w',f')=>some (w',ar f')
  |none=>none) else none
theorem ur {e:Int}{bk:Bool}{subs:List Lns}{st:List Int}{ks:List Str}{s:Str}{y:Doc}{w w1:Wlk}{y1:Doc}(h:tK e bk subs st ks s y w=some (w1,y1)):okK y=true∧∃f1,ej e bk subs 0 st (ks++[s]) w (ofD y)=some (w1,f1)∧y1=ar f1:=by
 unfold tK at h
 split at h
 ·
  rename_i ho
  refine⟨ho,?_⟩
  split at h
  ·
   rename_i w2 f2 h2
   cases h
   exact⟨f2,h2,rfl⟩
  ·
   cases h
 ·
  cases h
theorem f199z (e:Int)(bk:Bool)(s:Lns)(st:List Int)(ks:List Str)(w:Wlk)(f:Flds)(hb:wF f<10000000000)(hk:(bf s.a f).keys=[]) :
  Mth Γ 199 e bk s st ks w f w (aq s.a (bf s.a f) f):=by
 have hwx:=ku s.a f
 have k1:=(f78 Γ (bf s.a f) (by unfold big;omega)).arg (vs:=[.ag (cG s.a f)]) ⟨mJ s.a f,trivial⟩
 have hcl:=eS e bk w
 have hcx:=eJ s.a f
 have hlk:=fun(h:Heap) (hg:V.get h 0=some (.map (mF f)))=>eV bY hg s.a false
 simp only[if_false,Bool.false_eq_true] at hlk
 have hu:=fun(h:Heap) (hg:V.get h 0=some (.map (mF f)))=>dg bY hg s.a (bf s.a f)
 unfold Mth plV
 generalize cW e bk w=W0 at *
 generalize cG s.a f=cx at *
 generalize bf s.a f=x at *
 have hlo:=fun N=>aD (N:=N) _ hcl
 have hlox:=fun N=>aD (N:=N) _ hcx
 have hd5:List.take 5 (aH x)=aH x:=List.take_of_length_le (by rw[bS];omega)
 clear hb hwx
 refine J4 45 Tryz.func199 rfl rfl fun a hl g0 g1 g2 g3=>?_
 repeat' first|refine G1 ?_|(refine G2 ?_ ?_<;>intro hc hd<;>try exact hd.elim)|fail
 all_goals (try (refine aC k1 ?_))
 repeat' first|refine G1 ?_|(refine G2 ?_ ?_<;>intro hc hd<;>try exact hd.elim)|fail
 refine am [(9,10),(20,40)] [19] (fun k a h=>k=0∧lk a 19=some (.int .i64 0)∧h=[(0,.map (mF f)),(1,.cells W0 135 false),(2,.cells (aK s) 122 false),(3,.cells [sls bv st,sls aW ks] 138 false),(8,.cells (aH x) 30 false)]) ⟨rfl,by simp[*],rfl⟩ ?_
 intro a1 hk hk0 k a h hF hI
 replace g0:=hF.a hk 0
 replace g1:=hF.a hk 1
 replace g6:=hF.a hk 6
 replace g7:=hF.a hk 7
 replace g8:=hF.a hk 8
 replace g17:=hF.a hk 17
 replace g18:=hF.a hk 18
 replace hl:a.length=45:=hF.len.trans (hk0.trans (by simp[*]))
 clear hk hk0
 obtain⟨_,h19,rfl⟩:=hI
 repeat' first|refine G1 ?_|(refine G2 ?_ ?_<;>intro hc hd<;>try exact hd.elim)|fail
 exact⟨by simp,by simp[Tryz.f199, *],by (repeat (first|exact aU|refine aP (by simp[V.get, *]) ?_))⟩
theorem tJ {run:Str→Doc→Wlk→Option (Wlk×Doc)}{k:Str}{kr:List Str}{ds:List Doc}{w w':Wlk}{l:List Doc}(h:gE run (k::kr) ds w=some (w',l)):∃y dr w1 y1 l1,ds=y::dr∧run k y w=some (w1,y1)∧gE run kr dr w1=some (w',l1)∧l=y1::l1:=by
 cases ds with
 |nil=>cases h
 |cons y dr=>
  rw[gE] at h
  split at h
  ·
   rename_i w1 y1 h1
   split at h
   ·
    rename_i w2 l1 h2
    cases h
    exact⟨y,dr,w1,y1,l1,rfl,h1,h2,rfl⟩
   ·
    cases h
  ·
   cases h
theorem f199c (e:Int)(bk:Bool)(s:Lns)(st:List Int)(ks:List Str)(w:Wlk)(f:Flds)(w':Wlk)(l:List Doc)(x:Doc)(hx:bD s.a f=some x)(hR:nQ Γ s.subs)(hb:wF f<10000000000)(hst:st.length+ak s.subs<1000000)(hks:ks.length+1+ak s.subs<1000000)(hne:x.kids≠[])
  (hr:gE (tK e bk s.subs st ks) x.keys x.kids w=some (w',l)):Mth Γ 199 e bk s st ks w f w' (aq s.a (.mk x.kind x.num x.str x.keys l) f):=by
 have hwx:=vS hx
 have hwk:=io x
 have hwd:=fP x
 have hxD:wD x<20000000000:=by omega
 have hkid:∀y∈x.kids,wD y<big:=fun y hy=>by have:=nN hy;unfold big;omega
 have k1:=(f78c Γ x hne (by unfold big;omega)).ren [] 8 rfl (by simp[cm,aa,aR,aD]) (by simp) (by simp)
 simp[bF,b9,bu,au,tau,aJ] at k1
 have hc:=(fB hx).1
 have hlk:=fun(h:Heap) (hg:V.get h 0=some (.map (mF f)))=>eV bY hg s.a false
 simp only[if_false,Bool.false_eq_true,hc] at hlk
 have hu:=fun(h:Heap) (hg:V.get h 0=some (.map (mF f))) (ls:List Doc)=>dg bY hg s.a (.mk x.kind x.num x.str x.keys ls)
 have hcW:=fun w1=>eS e bk w1
 unfold Mth plV
 have hlo:=fun N w1=>aD (N:=N) _ (hcW w1)
 clear hx hc hwx hb hne
 refine J4 45 Tryz.func199 rfl rfl fun a hl g0 g1 g2 g3=>?_
 repeat' first|refine G1 ?_|(refine G2 ?_ ?_<;>intro hc hd<;>try exact hd.elim)|fail
 refine av k1 ?_
 repeat' first|refine G1 ?_|(refine G2 ?_ ?_<;>intro hc hd<;>try exact hd.elim)|fail
 clear k1 hlk
 refine am [(9,10),(20,40)] [19] (fun k a h=>∃kp kr dd dr wI lr,x.keys=kp++kr∧dd.length=kp.length∧(dd++dr).length=x.kids.length∧(∀y∈dr,y∈x.kids)∧gE (tK e bk s.subs st ks) kr dr wI=some (w',lr)∧l=dd++lr∧k=kr.length∧lk a 19=some (.int .i64 dd.length)∧h=[(8,.cells (row aH (dd++dr)) 30 true),(0,.map (mF f)),(1,.cells (cW e bk wI) 135 false),(2,.cells (aK s) 122 false),(3,.cells [sls bv st,sls aW ks] 138 false),(9,.cells [.int .i64 x.kind,.int .i64 x.num,.str x.str,sls aW x.keys,.so 8 0 x.kids.length none] 30 false)]) ⟨[],x.keys,[],x.kids,w,l,rfl,rfl,rfl,fun _ h=>h,hr,rfl,rfl,by simp[*],rfl⟩ ?_
 intro a1 hk hk0 k a h hF hI
 replace g0:=hF.a hk 0
 replace g1:=hF.a hk 1
 replace g6:=hF.a hk 6
 replace g7:=hF.a hk 7
 replace g8:=hF.a hk 8
 replace g17:=hF.a hk 17
 replace g18:=hF.a hk 18
 replace hl:a.length=45:=hF.len.trans (hk0.trans (by simp[*]))
 clear hk hk0
 obtain⟨kp,kr,dd,dr,wI,lr,hkk,hdl,hdn,hdm,hrr,hll,rfl,h19,rfl⟩:=hI
 clear hr
 cases kr with
 |nil=>
  have hw0:w'=wI∧lr=dr:=by cases hrr;exact⟨rfl,rfl⟩
  obtain⟨rfl,rfl⟩:=hw0
  subst hll
  have hge:¬(dd.length:Int)<x.keys.length:=by rw[hkk,hdl];simp
  have hu2:∀(h:Heap),V.get h 0=some (.map (mF f))→gW Tryz.prog 203 h (.mp 0) (.str s.a) (.ag [.int .i64 x.kind,.int .i64 x.num,.str x.str,.sl (row aW x.keys) x.keys.length none,.sl (row aH (dd++lr)) x.kids.length none])=some (V.put h 0 (.map (mF (aq s.a (.mk x.kind x.num x.str x.keys (dd++lr)) f)))):=fun h hg=>by
   have:=hu h hg (dd++lr)
   rw[db] at this
   unfold sls at this
   rw[←hdn]
   exact this
  clear hu hdm hkk hdl hR hrr
  have hcl:=fh (dd++lr)
  have hrl:(row aH (dd++lr)).length=x.kids.length*5:=by rw[jN,hdn]
  generalize row aH (dd++lr)=R at *
  refine qE (h1:=[(8,.cells R 30 true),(9,.cells [.int .i64 x.kind,.int .i64 x.num,.str x.str,sls aW x.keys,.so 8 0 x.kids.length none] 30 false)]) (h2:=[(0,.map (mF f)),(1,.cells (cW e bk w') 135 false),(2,.cells (aK s) 122 false),(3,.cells [sls bv st,sls aW ks] 138 false)]) (R.length+20) [(8,.pp [.int .i64 x.kind,.int .i64 x.num,.str x.str,sls aW x.keys,.sl R x.kids.length none])] (by (repeat (first|exact aU|refine aP (by simp[V.get, *]) ?_))) (by (repeat (first|exact aU|refine aP (by simp[V.get, *]) ?_))) (by simp) (by simp only[List.mem_cons,List.not_mem_nil,or_false,forall_eq_or_imp,forall_eq];exact⟨.pr 9 0,by simp[*],C9 rfl (aI (aG (by simp)) (aI (aG (by simp)) (aI (aG (by simp)) (aI (aG (by simp)) (aI (dC rfl (by rw[hrl,AL]) hcl (by omega)) bR)))))⟩) ?_
  simp only[setTs]
  repeat' first|refine G1 ?_|(refine G2 ?_ ?_<;>intro hc hd<;>try exact hd.elim)|fail
  exact⟨by simp,by simp[Tryz.f199, *],by (repeat (first|exact aU|refine aP (by simp[V.get, *]) ?_))⟩
 |cons key kr=>
  obtain⟨y,dr',w1,y1,l1,rfl,hr1,hr2,rfl⟩:=tJ hrr
  obtain⟨ho,f1,hf1,rfl⟩:=ur hr1
  have k76:=(hR e bk st (ks++[key]) wI y w1 f1 ho (hkid y (hdm y (by simp))) hst (by simp;omega) hf1).2.ren [1] 21 rfl (by simp[cm,fU,aa,aR,aD,hcW,plV]) (by simp) (by simp)
  simp[bF,b9,bu,au,tau,aJ,hcW,plV] at k76
  have k268:=f268 Γ st ks key (by unfold big;omega)
  have hlen:dd.length+1≤x.kids.length:=by rw[←hdn];simp
  have hkl:dd.length+1≤x.keys.length:=by rw[hkk,hdl];simp
  have hlt:(dd.length:Int)<x.keys.length:=by omega
  have hltN:dd.length<x.keys.length:=by omega
  have hleN:dd.length≤x.keys.length:=by omega
  have hlt2:(dd.length:Int)<x.kids.length:=by omega
  have hlt2N:dd.length<x.kids.length:=by omega
  have hw:=ad ((dd.length:Int)+1) (by omega) (by omega)
  have hrk:(row aW x.keys).drop dd.length=.str key::row aW kr:=by rw[hkk,hdl];exact fH kp kr key
  have hd5:List.take 5 (aH y++row aH dr')=aH y:=List.take_left' (bS y)
  have hsp:(row aH (dd++y::dr')).take (dd.length*5)++(aH (ar f1)++(row aH (dd++y::dr')).drop (dd.length*5+5))=row aH (dd++[ar f1]++dr'):=by
   have:=w4 bS (dd++y::dr') dd.length (by simp) (ar f1)
   unfold aX at this
   rw[bS,List.append_assoc] at this
   rw[this]
   congr 1
   simp
  have q1:x.keys=(kp++[key])++kr:=by rw[hkk];simp
  have q2:(dd++[ar f1]).length=(kp++[key]).length:=by simp[hdl]
  have q3:(dd++[ar f1]++dr').length=x.kids.length:=by rw[←hdn];simp
  have q4:∀z∈dr',z∈x.kids:=fun z hz=>hdm z (by simp[hz])
  have q5:l=dd++[ar f1]++l1:=by rw[hll];simp
  replace q1:Hid x.keys ((kp++[key])++kr):=q1
  replace q2:Eqn (dd++[ar f1]).length (kp++[key]).length:=q2
  replace q3:Eqn (dd++[ar f1]++dr').length x.kids.length:=q3
  clear hu hR hkid hdm hkk hdl hdn hll hrr hr1 ho hf1 hst hks hwk hwd
  repeat' first|refine G1 ?_|(refine G2 ?_ ?_<;>intro hc hd<;>try exact hd.elim)|fail
  refine aQ k268 ?_
  repeat' first|refine G1 ?_|(refine G2 ?_ ?_<;>intro hc hd<;>try exact hd.elim)|fail
  refine cI k76 ?_
  repeat' first|refine G1 ?_|(refine G2 ?_ ?_<;>intro hc hd<;>try exact hd.elim)|fail
  exact NX [(8,.cells (row aH (dd++[ar f1]++dr')) 30 true),(0,.map (mF f)),(1,.cells (cW e bk w1) 135 false),(2,.cells (aK s) 122 false),(3,.cells [sls bv st,sls aW ks] 138 false),(9,.cells [.int .i64 x.kind,.int .i64 x.num,.str x.str,sls aW x.keys,.so 8 0 x.kids.length none] 30 false)] fun a2 hF2=>⟨kp++[key],kr,dd++[ar f1],dr',w1,l1,q1,q2,q3,q4,hr2,q5,rfl,(hF2.q 19),rfl⟩
end
end Go.V
end
section
set_option maxHeartbeats 4000000
namespace Go.V
open Go Go.Proofs
attribute [local irreducible] W bO WD aO yl aS bW
section
variable (Γ:Glo Tryz.prog)
def uT (e:Int)(back:Bool)(k:Int)(a b:Str)(ty:Ty)(d:Doc)(sw:List (Int×Int))(subs:List Lns)(st:List Int)(ks:List Str)(w:Wlk)(f:Flds):Option (Wlk×Flds):=
  let x:=bf a f
  if k=1 then some (w,gf a b f)
  else if k=2 then some (jM e st ks a ty d w f)
  else if k=3 then some (ga e st ks a w f)
  else if k=4 then
   if okK x then
    match bD b (ofD x) with
    |some y=>some (w,aq a (ar (dY b (ofD x))) (aq b y f))
    |none=>some (w,aq a (ar (ofD x)) f)
   else none
  else if k=5 then
   if okK x then
    match bD b f with
    |some y=>some (w,aq a (ar (aq b y (ofD x))) (dY b f))
    |none=>some (w,aq a (ar (ofD x)) f)
   else none
  else if k=6 then some (w,aq a (.mk 3 0 [] [] [x]) f)
  else if k=7 then
   match x.kids with
   |y::_=>some (w,aq a y f)
   |[]=>none
  else if k=8 then some (w,aq a (.mk 4 (el x.num sw) [] [] []) f)
  else if k=9 then
   if okK x then
    match ej e back subs 0 st ks w (ofD x) with
    |some (w',f')=>some (w',aq a (ar f') f)
    |none=>none
   else none
  else
   match gE (tK e back subs st ks) x.keys x.kids w with
   |some (w',l)=>some (w',aq a (.mk x.kind x.num x.str x.keys l) f)
   |none=>none
theorem w7 (e:Int)(bk:Bool)(k0:Int)(a0 b0:Str)(ty:Ty)(d:Doc)(sw:List (Int×Int))(subs:List Lns)(st:List Int)(ks:List Str)(w:Wlk)(f:Flds):cT e bk (.mk k0 a0 b0 ty d sw subs) st ks w f=uT e bk (if bk then dt k0 else k0) (if bk&&decide (k0=1) then b0 else a0) (if bk&&decide (k0=1) then a0 else b0) ty d sw subs st ks w f:=by
 rw[cT]
 rfl
def tS (bk:Bool)(s:Lns):Lns:=if bk then nL s else s
theorem Bd (bk:Bool)(k0:Int)(a0 b0:Str)(ty:Ty)(d:Doc)(sw:List (Int×Int))(subs:List Lns):tS bk (.mk k0 a0 b0 ty d sw subs)=.mk (if bk then dt k0 else k0) (if bk&&decide (k0=1) then b0 else a0) (if bk&&decide (k0=1) then a0 else b0) ty d sw subs:=by
 cases bk
 ·
  rfl
 ·
  by_cases h:k0=1<;>simp[tS,nL,h,Lns.kind,Lns.a,Lns.b,Lns.ty,Lns.doc,Lns.swaps,Lns.subs]
theorem ER (bk:Bool)(s:Lns):wN (tS bk s)=wN s:=by
 obtain⟨k0,a0,b0,ty,d,sw,subs⟩:=s
 rw[Bd]
 simp only[wN]
 by_cases h:bk&&decide (k0=1)
 ·
  simp only[h,if_true];omega
 ·
  simp only[h,if_false,Bool.false_eq_true]
theorem sd {e:Int}{st:List Int}{ks:List Str}{a:Str}{ty:Ty}{d:Doc}{w:Wlk}{f:Flds}(h:bl f):bl (jM e st ks a ty d w f).2:=by
 unfold jM
 split<;>exact bK _ _ h
theorem Az (X:XOk Γ)(H:iO Γ)(e:Int)(bk:Bool)(k:Int)(a b:Str)(ty:Ty)(d:Doc)(sw:List (Int×Int))(subs:List Lns)(st:List Int)(ks:List Str)(w:Wlk)(f:Flds)(w':Wlk)(f':Flds)(hR:nQ Γ subs)(hn:bl f)(hb:d9 w f=true)(hs:wN (.mk k a b ty d sw subs)<30000000000)(hst:st.length+ak subs<1000000)(hks:ks.length+1+ak subs<1000000)
  (hr:uT e bk k a b ty d sw subs st ks w f=some (w',f')):bl f'∧Mth Γ (oe k) e bk (.mk k a b ty d sw subs) st ks w f w' f':=by
 have hb':wRs w.res+wRs w.needs+wF f<10000000000:=by
  unfold d9 lim at hb
  exact of_decide_eq_true hb
 have hss:sw.length<big:=by simp only[wN] at hs;unfold big;omega
 unfold uT at hr
 unfold oe
 simp only at hr
 by_cases h1:k=1
 ·
  rw[if_pos h1] at hr ⊢
  cases hr
  exact⟨kH a b hn,f190 Γ e bk (.mk k a b ty d sw subs) st ks w f⟩
 rw[if_neg h1] at hr ⊢
 by_cases h2:k=2
 ·
  rw[if_pos h2] at hr ⊢
  have hr:=Option.some.inj hr
  have e1:w'=(jM e st ks a ty d w f).1:=by rw[hr]
  have e2:f'=(jM e st ks a ty d w f).2:=by rw[hr]
  subst e1
  subst e2
  exact⟨sd hn,f191 Γ X H e bk (.mk k a b ty d sw subs) st ks w f (by omega) (by omega) (by omega) (by omega)⟩
 rw[if_neg h2] at hr ⊢
 by_cases h3:k=3
 ·
  rw[if_pos h3] at hr ⊢
  cases hr
  exact⟨fc a hn,f192 Γ X e bk (.mk k a b ty d sw subs) st ks w f (by omega) (by omega) (by omega)⟩
 rw[if_neg h3] at hr ⊢
 by_cases h4:k=4
 ·
  rw[if_pos h4] at hr ⊢
  split at hr
  case isFalse=>cases hr
  rename_i ho
  have hq:some (w,aq a (ar (fX b b (ofD (bf a f)) f).1) (fX b b (ofD (bf a f)) f).2)=some (w',f'):=by
   rw[←hr]
   unfold fX
   cases bD b (ofD (bf a f))<;>rfl
  cases hq
  exact⟨bK _ _ (kj (cj _) hn).2,f193 Γ e bk (.mk k a b ty d sw subs) st ks w f hn (by omega) ho⟩
 rw[if_neg h4] at hr ⊢
 by_cases h5:k=5
 ·
  rw[if_pos h5] at hr ⊢
  split at hr
  case isFalse=>cases hr
  rename_i ho
  have hq:some (w,aq a (ar (fX b b f (ofD (bf a f))).2) (fX b b f (ofD (bf a f))).1)=some (w',f'):=by
   rw[←hr]
   unfold fX
   cases bD b f<;>rfl
  cases hq
  exact⟨bK _ _ (kj hn (cj _)).1,f194 Γ e bk (.mk k a b ty d sw subs) st ks w f hn (by omega) ho⟩
 rw[if_neg h5] at hr ⊢
 by_cases h6:k=6
 ·
  rw[if_pos h6] at hr ⊢
  cases hr
  exact⟨bK _ _ hn,f195 Γ e bk (.mk k a b ty d sw subs) st ks w f (by omega)⟩
 rw[if_neg h6] at hr ⊢
 by_cases h7:k=7
 ·
  rw[if_pos h7] at hr ⊢
  cases hx:(bf a f).kids with
  |nil=>rw[hx] at hr;cases hr
  |cons y r=>
   rw[hx] at hr
   cases hr
   exact⟨bK _ _ hn,f196 Γ e bk (.mk k a b ty d sw subs) st ks w f y r hx⟩
 rw[if_neg h7] at hr ⊢
 by_cases h8:k=8
 ·
  rw[if_pos h8] at hr ⊢
  cases hr
  exact⟨bK _ _ hn,f197 Γ e bk (.mk k a b ty d sw subs) st ks w f hss⟩
 rw[if_neg h8] at hr ⊢
 by_cases h9:k=9
 ·
  rw[if_pos h9] at hr ⊢
  split at hr
  case isFalse=>cases hr
  rename_i ho
  split at hr
  case h_2=>cases hr
  rename_i w1 f1 h10
  cases hr
  exact⟨bK _ _ hn,f198 Γ e bk (.mk k a b ty d sw subs) st ks w f w' f1 hR (by omega) ho hst (by simp only[Lns.subs];omega) h10⟩
 rw[if_neg h9] at hr ⊢
 split at hr
 case h_2=>cases hr
 rename_i w1 l h10
 cases hr
 refine⟨bK _ _ hn,?_⟩
 cases hk:(bf a f).keys with
 |nil=>
  rw[hk] at h10
  have h11:w=w'∧(bf a f).kids=l:=by cases h10;exact⟨rfl,rfl⟩
  obtain⟨rfl,rfl⟩:=h11
  have:=f199z Γ e bk (.mk k a b ty d sw subs) st ks w f (by omega) hk
  have e1:Doc.mk (bf a f).kind (bf a f).num (bf a f).str [] (bf a f).kids=bf a f:=by
   rw[←hk]
   generalize bf a f=z
   cases z;rfl
  rw[e1]
  exact this
 |cons s0 r0=>
  rw[←hk]
  have hne:∃y r,(bf a f).kids=y::r:=by
   rw[hk] at h10
   obtain⟨y,dr,_,_,_,hd,_⟩:=tJ h10
   exact⟨y,dr,hd⟩
  obtain⟨y,r,hd⟩:=hne
  obtain⟨x,hx,hxk⟩:=qy hd
  have hg:=(fB hx).2
  rw[hg] at h10 ⊢
  exact f199c Γ e bk (.mk k a b ty d sw subs) st ks w f w' l x hx hR (by omega) hst hks (by rw[hxk];simp) h10
end
end Go.V
end
section
set_option maxHeartbeats 4000000
namespace Go.V
open Go Go.Proofs
attribute [local irreducible] W bO WD aO yl aS bW
section
variable (Γ:Glo Tryz.prog)
attribute [local simp] veq bP ei V.del
def mr (e:Int)(bk:Bool)(st:List Int)(ks:List Str):List (Lns×Nat)→Wlk→Flds→Wlk→Flds→Prop
 |[],w,f,w',f'=>w=w'∧f=f'
 |p::r,w,f,w',f'=>d9 w f=true∧∃w1 f1,cT e bk p.1 (st++[(p.2:Int)]) ks w f=some (w1,f1)∧mr e bk st ks r w1 f1 w' f'
theorem rZ {e:Int}{bk:Bool}{st:List Int}{ks:List Str}:∀{a b:List (Lns×Nat)}{w:Wlk}{f:Flds}{w1:Wlk}{f1:Flds}{w2:Wlk}{f2:Flds},mr e bk st ks a w f w1 f1→mr e bk st ks b w1 f1 w2 f2→mr e bk st ks (a++b) w f w2 f2
 |[],b,w,f,w1,f1,w2,f2,⟨h1,h2⟩,hb=>by subst h1;subst h2;exact hb
 |p::a,b,w,f,w1,f1,w2,f2,⟨h0,w3,f3,h1,h2⟩,hb=>⟨h0,w3,f3,h1,rZ h2 hb⟩
theorem gl {e:Int}{st:List Int}{ks:List Str}:∀{l:List Lns}{k:Nat}{w:Wlk}{f:Flds}{w':Wlk}{f':Flds},ej e false l k st ks w f=some (w',f')→mr e false st ks (l.zipIdx k) w f w' f'∧d9 w' f'=true∧d9 w f=true
 |[],k,w,f,w',f',h=>by
  rw[ej] at h
  split at h
  ·
   rename_i hs;cases h;exact⟨⟨rfl,rfl⟩,hs,hs⟩
  ·
   cases h
 |s::l,k,w,f,w',f',h=>by
  rw[ej,if_neg (by simp)] at h
  split at h
  ·
   rename_i hs
   split at h
   ·
    rename_i w1 f1 h1
    have ih:=gl h
    exact⟨⟨hs,w1,f1,h1,ih.1⟩,ih.2.1,hs⟩
   ·
    cases h
  ·
   cases h
theorem gk {e:Int}{st:List Int}{ks:List Str}:∀{l:List Lns}{k:Nat}{w:Wlk}{f:Flds}{w':Wlk}{f':Flds},ej e true l k st ks w f=some (w',f')→mr e true st ks (l.zipIdx k).reverse w f w' f'∧d9 w' f'=true∧d9 w f=true
 |[],k,w,f,w',f',h=>by
  rw[ej] at h
  split at h
  ·
   rename_i hs;cases h;exact⟨⟨rfl,rfl⟩,hs,hs⟩
  ·
   cases h
 |s::l,k,w,f,w',f',h=>by
  rw[ej,if_pos rfl] at h
  split at h
  ·
   rename_i w1 f1 h1
   have ih:=gk h1
   split at h
   ·
    rename_i w2 f2 h2
    split at h
    ·
     rename_i hs
     cases h
     refine⟨?_,hs,ih.2.2⟩
     rw[List.zipIdx_cons,List.reverse_cons]
     exact rZ ih.1 ⟨ih.2.1,w',f',h2,rfl,rfl⟩
    ·
     cases h
   ·
    cases h
  ·
   cases h
def its (bk:Bool)(l:List Lns):List (Lns×Nat):=if bk then (l.zipIdx 0).reverse else l.zipIdx 0
theorem yp {e:Int}{bk:Bool}{st:List Int}{ks:List Str}{l:List Lns}{w:Wlk}{f:Flds}{w':Wlk}{f':Flds}(h:ej e bk l 0 st ks w f=some (w',f')):mr e bk st ks (its bk l) w f w' f':=by
 cases bk
 ·
  exact(gl h).1
 ·
  exact(gk h).1
theorem wK (bk:Bool)(l:List Lns):(its bk l).length=l.length:=by
 unfold its;split<;>simp
theorem zv {l:List Lns}{pre r:List (Lns×Nat)}{s:Lns}{j k:Nat}(h:l.zipIdx k=pre++(s,j)::r):j=k+pre.length∧∃lp lr,l=lp++s::lr∧lp.length=pre.length:=by
 induction l generalizing k pre with
 |nil=>simp at h
 |cons x l ih=>
  rw[List.zipIdx_cons] at h
  cases pre with
  |nil=>
   simp only[List.nil_append,List.cons.injEq,Prod.mk.injEq] at h
   obtain⟨⟨rfl,rfl⟩,_⟩:=h
   exact⟨by simp,[],l,rfl,rfl⟩
  |cons p pre=>
   simp only[List.cons_append,List.cons.injEq] at h
   obtain⟨h1,lp,lr,rfl,h3⟩:=ih h.2
   refine⟨by simp;omega,x::lp,lr,rfl,by simp[h3]⟩
theorem CL {bk:Bool}{l:List Lns}{pre r:List (Lns×Nat)}{s:Lns}{j:Nat}(h:its bk l=pre++(s,j)::r):(if bk then j+pre.length+1=l.length else j=pre.length)∧∃lp lr,l=lp++s::lr∧lp.length=j:=by
 have hl:=wK bk l
 unfold its at h
 cases bk
 ·
  simp only[Bool.false_eq_true,if_false] at h ⊢
  obtain⟨h1,lp,lr,h2,h3⟩:=zv h
  exact⟨by omega,lp,lr,h2,by omega⟩
 ·
  simp only[if_true] at h ⊢
  have h':=congrArg List.reverse h
  rw[List.reverse_reverse,List.reverse_append,List.reverse_cons,List.append_assoc] at h'
  simp only[List.cons_append,List.nil_append] at h'
  obtain⟨h1,lp,lr,h2,h3⟩:=zv h'
  have hll:l.length=lp.length+1+lr.length:=by rw[h2];simp;omega
  have hzl:=congrArg List.length h'
  simp at hzl h1 h3
  exact⟨by omega,lp,lr,h2,by omega⟩
theorem zN {e:Int}{bk:Bool}{k:Int}{a b:Str}{ty:Ty}{d:Doc}{sw:List (Int×Int)}{subs:List Lns}{st:List Int}{ks:List Str}{w:Wlk}{f:Flds}{w':Wlk}{f':Flds}(hn:bl f)(hr:uT e bk k a b ty d sw subs st ks w f=some (w',f')):bl f':=by
 unfold uT at hr
 simp only at hr
 split at hr
 ·
  cases hr;exact kH a b hn
 split at hr
 ·
  have e2:f'=(jM e st ks a ty d w f).2:=by rw[Option.some.inj hr]
  subst e2;exact sd hn
 split at hr
 ·
  cases hr;exact fc a hn
 split at hr
 ·
  split at hr
  ·
   split at hr<;>cases hr<;>first|exact bK _ _ (bK _ _ hn)|exact bK _ _ hn
  ·
   cases hr
 split at hr
 ·
  split at hr
  ·
   split at hr<;>cases hr<;>first|exact bK _ _ (fc _ hn)|exact bK _ _ hn
  ·
   cases hr
 split at hr
 ·
  cases hr;exact bK _ _ hn
 split at hr
 ·
  split at hr<;>cases hr;exact bK _ _ hn
 split at hr
 ·
  cases hr;exact bK _ _ hn
 split at hr
 ·
  split at hr
  ·
   split at hr<;>cases hr;exact bK _ _ hn
  ·
   cases hr
 ·
  split at hr<;>cases hr;exact bK _ _ hn
theorem ue {e:Int}{bk:Bool}{st:List Int}{ks:List Str}:∀{r:List (Lns×Nat)}{w:Wlk}{f:Flds}{w':Wlk}{f':Flds},bl f→mr e bk st ks r w f w' f'→bl f'
 |[],w,f,w',f',h,hw=>by obtain⟨_,h2⟩:=hw;subst h2;exact h
 |p::r,w,f,w',f',h,hw=>by
  obtain⟨_,w1,f1,h1,h2⟩:=hw
  obtain⟨⟨k0,a0,b0,ty,d,sw,subs⟩,j⟩:=p
  rw[w7] at h1
  exact ue (zN h h1) h2
theorem tF {l:List Lns}{s:Lns}(h:s∈l):ak s.subs+1≤ak l:=by
 induction l with
 |nil=>cases h
 |cons x l ih=>
  rw[ak]
  rcases List.mem_cons.1 h with rfl|h
  ·
   have:ir s=ak s.subs:=by cases s;rfl
   omega
  ·
   have:=ih h;omega
theorem zO (X:XOk Γ)(H:iO Γ)(e:Int)(bk:Bool)(s:Lns)(st:List Int)(ks:List Str)(w:Wlk)(f:Flds)(w':Wlk)(f':Flds)(hR:nQ Γ s.subs)(hn:bl f)(hb:d9 w f=true)(hs:wN s<30000000000)(hst:st.length+ak s.subs<1000000)(hks:ks.length+1+ak s.subs<1000000)
  (hr:cT e bk s st ks w f=some (w',f')):bl f'∧Mth Γ (oe (tS bk s).kind) e bk (tS bk s) st ks w f w' f':=by
 have hw:wN (tS bk s)<30000000000:=by rw[ER];exact hs
 clear hs
 obtain⟨k0,a0,b0,ty,d,sw,subs⟩:=s
 rw[w7] at hr
 rw[Bd] at hw ⊢
 exact Az Γ X H e bk _ _ _ ty d sw subs st ks w f w' f' hR hn hb hw hst hks hr
theorem Bz (e:Int)(bk:Bool)(w:Wlk):(cW e bk w).length=5:=rfl
theorem AJ (e:Int)(bk:Bool)(w:Wlk):(cW e bk w)[1]?=some (.bool bk):=rfl
theorem By (e:Int)(bk:Bool)(w:Wlk)(h:1<(cW e bk w).length):(cW e bk w)[1]=.bool bk:=rfl
attribute [local simp] Bz AJ By
theorem pM (k:Int):bL Tryz.prog (oe k)=true:=by
 unfold oe
 repeat' split
 all_goals kernel_rfl
theorem f76 (X:XOk Γ)(H:iO Γ)(l:List Lns)(hw:wNs l<30000000000)(hRs:∀s∈l,nQ Γ s.subs):nQ Γ l:=by
 intro e bk st ks w d w' f' ho hd hst hks hr
 have hwk:=yp hr
 have hsm:d9 w' f'=true:=by cases bk;exact(gl hr).2.1;exact(gk hr).2.1
 have hwf:wF f'<100000000000:=by unfold d9 lim at hsm;have:=of_decide_eq_true hsm;omega
 have k130:=(f130 Γ d hd ((sK d).1 ho)).ren [] 5 rfl (by simp[cm,aa,aR,aD]) (by simp) (by simp)
 simp[bF,b9,bu,au,tau,aJ] at k130
 have hno:=cj d
 have hd5:List.take 5 (aH d)=aH d:=List.take_of_length_le (by rw[bS];omega)
 generalize ofD d=f0 at *
 have hno':=ue hno hwk
 refine⟨hno',?_⟩
 have hcW:=fun w1=>eS e bk w1
 have hlo:=fun N w1=>aD (N:=N) _ (hcW w1)
 unfold plV
 refine J4 52 Tryz.func76 rfl rfl fun a hl g0 g1 g2 g3=>?_
 repeat' first|refine G1 ?_|(refine G2 ?_ ?_<;>intro hc hd<;>try exact hd.elim)|fail
 refine av k130 ?_
 repeat' first|refine G1 ?_|(refine G2 ?_ ?_<;>intro hc hd<;>try exact hd.elim)|fail
 refine am [(10,12),(18,49)] [17] (fun k a h=>∃pre rest wI fI,its bk l=pre++rest∧k=rest.length∧lk a 17=some (.int .i64 pre.length)∧mr e bk st ks rest wI fI w' f'∧bl fI∧h=[(5,.map (mF fI)),(0,.cells (cW e bk wI) 135 false),(1,.cells (aH d) 30 false),(2,.cells [sls bv st,sls aW ks] 138 false),(3,.cells [.int .i64 0,.int .i64 0,.str [],.nils,.nils] 30 false)]) ⟨[],its bk l,w,f0,rfl,rfl,by simp[*],hwk,hno,rfl⟩ ?_
 intro a1 hk hk0 k a h hF hI
 replace g0:=hF.a hk 0
 replace g1:=hF.a hk 1
 replace g7:=hF.a hk 7
 replace g8:=hF.a hk 8
 replace g9:=hF.a hk 9
 replace g16:=hF.a hk 16
 replace hl:a.length=52:=hF.len.trans (hk0.trans (by simp[*]))
 clear hk hk0
 obtain⟨pre,rest,wI,fI,hit,rfl,h17,hwr,hnI,rfl⟩:=hI
 have hil:=wK bk l
 cases rest with
 |nil=>
  obtain⟨rfl,rfl⟩:=hwr
  have hge:¬(pre.length:Int)<l.length:=by rw[←hil,hit];simp
  have k134:=(f134 Γ fI hnI hwf).ren [5] 12 rfl (by simp[cm,aa,aR]) (by simp) (by simp)
  simp[bF,b9,bu,au,tau,aJ] at k134
  clear hit hil hwk hno hRs hr
  repeat' first|refine G1 ?_|(refine G2 ?_ ?_<;>intro hc hd<;>try exact hd.elim)|fail
  refine av k134 ?_
  repeat' first|refine G1 ?_|(refine G2 ?_ ?_<;>intro hc hd<;>try exact hd.elim)|fail
  exact⟨by simp,by simp[Tryz.f76,V.get, *],by (repeat (first|exact aU|refine aP (by simp[V.get, *]) ?_))⟩
 |cons p r=>
  obtain⟨s,j⟩:=p
  obtain⟨hat,lp,lr,hl1,hlp⟩:=CL hit
  obtain⟨hsw,w1,f1,hst1,hwr1⟩:=hwr
  simp only at hst1
  have hsl:s∈l:=by rw[hl1];simp
  have hln:pre.length<l.length:=by rw[←hil,hit];simp<;>omega
  have hlb:l.length<30000000000:=by have:=iE l;omega
  have hdp:=tF hsl
  have hwn:=dI hsl
  obtain⟨hn1,hm⟩:=zO Γ X H e bk s (st++[(j:Int)]) ks wI fI w1 f1 (hRs s hsl) hnI hsw (by omega) (by simp;omega) (by omega) hst1
  have k131:=f131 Γ s (by unfold big;omega)
  have k133:=f133 Γ st ks (j:Int) (by unfold big;omega)
  obtain⟨lq,s0,lq2,hl2,hlq⟩:∃lq s0 lq2,l=lq++s0::lq2∧lq.length=pre.length:=⟨l.take pre.length,l[pre.length],l.drop (pre.length+1),by rw[List.getElem_cons_drop];simp,by simp;omega⟩
  have hrd0:(row aK l).drop (pre.length*16)=aK s0++row aK lq2:=by rw[hl2,←hlq];exact oH lq lq2 s0
  have hta0:List.take 16 (aK s0++row aK lq2)=aK s0:=List.take_left' (eR s0)
  have hrd1:(row aK l).drop (j*16)=aK s++row aK lr:=by rw[hl1,←hlp];exact oH lp lr s
  have hta1:List.take 16 (aK s++row aK lr)=aK s:=List.take_left' (eR s)
  have hjl:j<l.length:=by rw[hl1];simp;omega
  have hrl:(row aK l).length=l.length*16:=lh l
  have hw2:=ad ((pre.length:Int)+1) (by omega) (by omega)
  have hit':its bk l=(pre++[(s,j)])++r:=by rw[hit];simp
  replace hit':Hid (its bk l) ((pre++[(s,j)])++r):=hit'
  have z1:(pre.length:Int)<l.length:=by omega
  have z2:pre.length≤l.length:=by omega
  have z3:pre.length*16≤l.length*16:=by omega
  have z4:(j:Int)<l.length:=by omega
  have z5:j≤l.length:=by omega
  have z6:j*16≤l.length*16:=by omega
  have z7:(0:Int)≤j:=by omega
  have hdz:List.drop 16 (aK s0)=[]:=List.drop_eq_nil_of_le (by rw[eR];omega)
  clear hRs hwk hr hno' hwf hsm hno k130 ho hd hst hks hsw hst1 hsl hdp hwn hil hw hnI
  unfold sls at *
  generalize row aK l=L at *
  generalize l.length=LL at *
  cases bk
  ·
   simp only[Bool.false_eq_true,if_false] at hat
   have hlz:s0=s∧lq2=lr:=by
    rw[hl2] at hl1
    have:=List.append_inj hl1 (by omega)
    simp at this
    exact this.2
   obtain⟨rfl,rfl⟩:=hlz
   subst hat
   clear hl1 hl2 hit hlq hlp
   have k132:=(f132 Γ s0.kind).ren [0] 19 rfl (by simp[cm,aa,aR]) (by simp) (by simp)
   simp[bF,b9,bu,au,tau] at k132
   simp only[tS,Bool.false_eq_true,if_false] at hm
   unfold Mth plV sls at hm
   have hm':=hm.ren [5,0] 19 rfl (by simp[cm,fU,aa,aR,aD,hcW]) (by simp) (by simp)
   simp[bF,b9,bu,au,tau,aJ,hcW] at hm'
   clear hm
   repeat' first|refine G1 ?_|(refine G2 ?_ ?_<;>intro hc hd<;>try exact hd.elim)|fail
   refine gp k132 ?_
   repeat' first|refine G1 ?_|(refine G2 ?_ ?_<;>intro hc hd<;>try exact hd.elim)|fail
   refine aQ k133 ?_
   repeat' first|refine G1 ?_|(refine G2 ?_ ?_<;>intro hc hd<;>try exact hd.elim)|fail
   refine cI hm' ?_ (hp:=pM _)
   repeat' first|refine G1 ?_|(refine G2 ?_ ?_<;>intro hc hd<;>try exact hd.elim)|fail
   exact NX [(5,.map (mF f1)),(0,.cells (cW e false w1) 135 false),(1,.cells (aH d) 30 false),(2,.cells [.sl (row bv st) st.length none,.sl (row aW ks) ks.length none] 138 false),(3,.cells [.int .i64 0,.int .i64 0,.str [],.nils,.nils] 30 false)] fun a2 hF2=>⟨pre++[(s0,pre.length)],r,w1,f1,hit',rfl,(hF2.q 17),hwr1,hn1,rfl⟩
  ·
   simp only[if_true] at hat
   have y1:=ad ((LL:Int)-1) (by omega) (by omega)
   have y2:IntKind.i64.wrap ((LL:Int)-1-pre.length)=j:=by rw[ad _ (by omega) (by omega)];omega
   clear hl1 hl2 hit hlq hlp
   have k132:=(f132 Γ (tS true s).kind).ren [0] 30 rfl (by simp[cm,aa,aR]) (by simp) (by simp)
   simp[bF,b9,bu,au,tau] at k132
   have ets:tS true s=nL s:=rfl
   rw[ets] at k132 hm
   unfold Mth plV sls at hm
   have hm':=hm.ren [5,0] 30 rfl (by simp[cm,fU,aa,aR,aD,hcW]) (by simp) (by simp)
   simp[bF,b9,bu,au,tau,aJ,hcW] at hm'
   generalize nL s=s2 at *
   clear hm ets
   repeat' first|refine G1 ?_|(refine G2 ?_ ?_<;>intro hc hd<;>try exact hd.elim)|fail
   refine aC k131 ?_
   repeat' first|refine G1 ?_|(refine G2 ?_ ?_<;>intro hc hd<;>try exact hd.elim)|fail
   refine gp k132 ?_
   repeat' first|refine G1 ?_|(refine G2 ?_ ?_<;>intro hc hd<;>try exact hd.elim)|fail
   refine aQ k133 ?_
   repeat' first|refine G1 ?_|(refine G2 ?_ ?_<;>intro hc hd<;>try exact hd.elim)|fail
   refine cI hm' ?_ (hp:=pM _)
   repeat' first|refine G1 ?_|(refine G2 ?_ ?_<;>intro hc hd<;>try exact hd.elim)|fail
   exact NX [(5,.map (mF f1)),(0,.cells (cW e true w1) 135 false),(1,.cells (aH d) 30 false),(2,.cells [.sl (row bv st) st.length none,.sl (row aW ks) ks.length none] 138 false),(3,.cells [.int .i64 0,.int .i64 0,.str [],.nils,.nils] 30 false)] fun a2 hF2=>⟨pre++[(s,j)],r,w1,f1,hit',rfl,(hF2.q 17),hwr1,hn1,rfl⟩
end
end Go.V
end
section
set_option maxHeartbeats 4000000
namespace Go.V
open Go Go.Proofs
attribute [local irreducible] W bO WD aO yl aS bW
section
variable (Γ:Glo Tryz.prog)
attribute [local simp] veq eE
def b8 (R:Ty)(e:Int):Val:=.tp [.ag (cTy R),.int .i64 e]
theorem f180 (r:Ty)(f:Fld)(s:Lns)(hb:wT r+wN s+wT f.ty+9<big)(hg:gd r):PureOk Tryz.prog Γ 180 [.ag (cTy r),.ag (aZ f),.ag (aK s)] (if d8 s.b=false then b8 r 1 else if (fieldR r s.b).isSome then b8 r 5 else b8 (dQ (ax r s.a) (.mk s.b f.opt f.ty)) 0):=by
 have hw:=eM s
 have h1:=f127 Γ r s.b (by omega)
 have h2:=f107 Γ s.b (by omega)
 have h3:=f260 Γ r s.a (by omega)
 have h4:ah s.b r.fields=none→PureOk Tryz.prog Γ 178 [.ag (cTy (ax r s.a)),.ag (.str s.b :: .bool f.opt::cTy f.ty)] (.ag (cTy (dQ (ax r s.a) (.mk s.b f.opt f.ty)))):=fun he=>f178 Γ (ax r s.a) (.mk s.b f.opt f.ty) (by have:=dP (ax r s.a);have:=kx r s.a;omega) (nl hg.srt _) (by rw[mB];simp[Fld.name,he])
 rw[dR f]
 unfold lH at h1
 rw[hg.fieldR] at *
 have hcl:=bH f.ty
 have hcc:=eB f.ty
 unfold b8
 generalize ax r s.a=r1 at *
 generalize dQ r1 (.mk s.b f.opt f.ty)=r2 at *
 cases hn:d8 s.b with
 |false=>
  rw[hn] at h2
  generalize (ah s.b r.fields).isSome=B at *
  generalize (ah s.b r.fields).getD ji=G at *
  clear h3 h4 hb hg hw
  simp only[if_true]
  refine Y3 35 Tryz.func180 rfl rfl fun a hl g0 g1 g2=>?_
  repeat' first|refine G1 ?_|(refine G2 ?_ ?_<;>intro hc hd<;>try exact hd.elim)|fail
  all_goals (try (refine aC h1 ?_))
  repeat' first|refine G1 ?_|(refine G2 ?_ ?_<;>intro hc hd<;>try exact hd.elim)|fail
  all_goals (try (refine aC h2 ?_))
  repeat' first|refine G1 ?_|(refine G2 ?_ ?_<;>intro hc hd<;>try exact hd.elim)|fail
  exact⟨by simp,.tp [.ag (cTy r),.int .i64 1],1,by simp[Tryz.f180,V.get,V.put,aX, *],aG (by simp[Val.closed,aE])⟩
 |true=>
  rw[hn] at h2
  cases hf:ah s.b r.fields with
  |some g=>
   rw[hf] at h1
   simp only[Option.isSome_some,if_true,Option.getD_some,Bool.true_eq_false,if_false] at h1 ⊢
   clear h3 h4 hb hg hw
   refine Y3 35 Tryz.func180 rfl rfl fun a hl g0 g1 g2=>?_
   repeat' first|refine G1 ?_|(refine G2 ?_ ?_<;>intro hc hd<;>try exact hd.elim)|fail
   all_goals (try (refine aC h1 ?_))
   repeat' first|refine G1 ?_|(refine G2 ?_ ?_<;>intro hc hd<;>try exact hd.elim)|fail
   all_goals (try (refine aC h2 ?_))
   repeat' first|refine G1 ?_|(refine G2 ?_ ?_<;>intro hc hd<;>try exact hd.elim)|fail
   exact⟨by simp,.tp [.ag (cTy r),.int .i64 5],1,by simp[Tryz.f180,V.get,V.put,aX, *],aG (by simp[Val.closed,aE])⟩
  |none=>
   rw[hf] at h1
   replace h4:=h4 hf
   simp only[Option.isSome_none,if_true,Option.getD_none,Bool.true_eq_false,Bool.false_eq_true,if_false] at h1 ⊢
   clear hb hg hw
   refine Y3 35 Tryz.func180 rfl rfl fun a hl g0 g1 g2=>?_
   repeat' first|refine G1 ?_|(refine G2 ?_ ?_<;>intro hc hd<;>try exact hd.elim)|fail
   all_goals (try (refine aC h1 ?_))
   repeat' first|refine G1 ?_|(refine G2 ?_ ?_<;>intro hc hd<;>try exact hd.elim)|fail
   all_goals (try (refine aC h2 ?_))
   repeat' first|refine G1 ?_|(refine G2 ?_ ?_<;>intro hc hd<;>try exact hd.elim)|fail
   refine aQ h3 ?_
   repeat' first|refine G1 ?_|(refine G2 ?_ ?_<;>intro hc hd<;>try exact hd.elim)|fail
   refine aQ h4 ?_
   repeat' first|refine G1 ?_|(refine G2 ?_ ?_<;>intro hc hd<;>try exact hd.elim)|fail
   exact⟨by simp,.tp [.ag (cTy r2),.int .i64 0],1,by simp[Tryz.f180,V.get,V.put,aX, *],aG (by simp[Val.closed,aE])⟩
theorem f181 (H:iO Γ)(r:Ty)(f:Fld)(s:Lns)(hb:wT r+wN s+wT f.ty+9<big):PureOk Tryz.prog Γ 181 [.ag (cTy r),.ag (aZ f),.ag (aK s)] (if eqT f.ty s.ty=false then b8 r 7 else b8 (ax r s.a) (dy s.ty s.doc)):=by
 have hw:=eM s
 have h1:=f22 Γ f.ty s.ty (by omega) (by omega)
 have h2:=f260 Γ r s.a (by omega)
 have h3:=f179 Γ H s.ty s.doc (by omega) (by omega)
 rw[dR f]
 have hcl:=bH f.ty
 have hcc:=eB f.ty
 unfold b8
 generalize ax r s.a=r1 at *
 generalize dy s.ty s.doc=e at *
 clear hw hb
 cases hq:eqT f.ty s.ty with
 |false=>
  rw[hq] at h1
  simp only[if_true]
  refine Y3 24 Tryz.func181 rfl rfl fun a hl g0 g1 g2=>?_
  repeat' first|refine G1 ?_|(refine G2 ?_ ?_<;>intro hc hd<;>try exact hd.elim)|fail
  all_goals (try (refine aC h1 ?_))
  repeat' first|refine G1 ?_|(refine G2 ?_ ?_<;>intro hc hd<;>try exact hd.elim)|fail
  exact⟨by simp,.tp [.ag (cTy r),.int .i64 7],1,by simp[Tryz.f181,V.get,V.put,aX, *],aG (by simp[Val.closed,aE])⟩
 |true=>
  rw[hq] at h1
  simp only[Bool.true_eq_false,if_false]
  refine Y3 24 Tryz.func181 rfl rfl fun a hl g0 g1 g2=>?_
  repeat' first|refine G1 ?_|(refine G2 ?_ ?_<;>intro hc hd<;>try exact hd.elim)|fail
  all_goals (try (refine aC h1 ?_))
  repeat' first|refine G1 ?_|(refine G2 ?_ ?_<;>intro hc hd<;>try exact hd.elim)|fail
  refine aQ h2 ?_
  repeat' first|refine G1 ?_|(refine G2 ?_ ?_<;>intro hc hd<;>try exact hd.elim)|fail
  refine aQ h3 ?_
  repeat' first|refine G1 ?_|(refine G2 ?_ ?_<;>intro hc hd<;>try exact hd.elim)|fail
  exact⟨by simp,.tp [.ag (cTy r1),.int .i64 e],1,by simp[Tryz.f181,V.get,V.put,aX, *],aG (by simp[Val.closed,aE])⟩
end
end Go.V
end
section
set_option maxHeartbeats 4000000
namespace Go.V
open Go Go.Proofs
attribute [local irreducible] W bO WD aO yl aS bW
section
variable (Γ:Glo Tryz.prog)
attribute [local simp] veq eE
@[simp] theorem Fk (t:Ty):dB Tryz.prog 125 [(0,.ag (cTy t))]=some (cTy t):=by cases t;kernel_rfl
theorem nj (r:Ty)(n:Str)(u:Ty):(eL r n u).fields=fM n u r.fields:=rfl
theorem zC (r:Ty)(n:Str)(u:Ty):(eL r n u).fields.length≤n.length+1+wT u+wT r:=by
 have h1:=s5 (eL r n u).fields
 rw[nj] at *
 unfold fM at *
 rw[yS] at h1
 have h2:=xu n r.fields
 have h3:=go r
 simp only[Fld.name,Fld.ty] at h1
 omega
theorem f182 (r:Ty)(f:Fld)(s:Lns)(hb:wT r+wN s+wT f.ty+9<big)(hg:gd r)(hfa:ah s.a r.fields=some f) :
  PureOk Tryz.prog Γ 182 [.ag (cTy r),.ag (aZ f),.ag (aK s)] (if f.ty.kind=1 then (match ah s.b f.ty.fields with|none=>b8 r 9|some g=>if g.opt=true then b8 r 7 else if (ah s.b r.fields).isSome then b8 r 5 else b8 (dQ (eL r s.a (ax f.ty s.b)) g) 0) else b8 r 7):=by
 have hw:=eM s
 have hty:=(hg.fld hfa).2.2
 have hwo:=kx f.ty s.b
 have h1:=f127 Γ f.ty s.b (by omega)
 have h2:=f127 Γ r s.b (by omega)
 have h3:=f260 Γ f.ty s.b (by omega)
 have h4:=f261 Γ r s.a (ax f.ty s.b) (by omega) hg.srt
 rw[dR f]
 have hcl:=bH f.ty
 have hcc:=eB f.ty
 unfold lH at h1 h2
 rw[hg.fieldR] at h2
 unfold b8
 by_cases hk:f.ty.kind=1
 case neg=>
  rw[if_neg hk]
  clear h1 h2 h3 h4
  refine Y3 57 Tryz.func182 rfl rfl fun a hl g0 g1 g2=>?_
  repeat' first|refine G1 ?_|(refine G2 ?_ ?_<;>intro hc hd<;>try exact hd.elim)|fail
  exact⟨by simp,.tp [.ag (cTy r),.int .i64 7],1,by simp[Tryz.f182,V.get,V.put,aX, *],aG (by simp[Val.closed,aE])⟩
 rw[if_pos hk]
 unfold fieldR at h1
 rw[if_pos hk] at h1
 cases hfb:ah s.b f.ty.fields with
 |none=>
  simp only
  rw[hfb] at h1
  simp only[Option.isSome_none,Option.getD_none] at h1
  generalize (ah s.b r.fields).isSome=B at *
  generalize (ah s.b r.fields).getD ji=G at *
  clear h3 h4 hb hwo hw hfa hty
  refine Y3 57 Tryz.func182 rfl rfl fun a hl g0 g1 g2=>?_
  repeat' first|refine G1 ?_|(refine G2 ?_ ?_<;>intro hc hd<;>try exact hd.elim)|fail
  all_goals (try (refine aC h1 ?_))
  repeat' first|refine G1 ?_|(refine G2 ?_ ?_<;>intro hc hd<;>try exact hd.elim)|fail
  all_goals (try (refine aC h2 ?_))
  repeat' first|refine G1 ?_|(refine G2 ?_ ?_<;>intro hc hd<;>try exact hd.elim)|fail
  exact⟨by simp,.tp [.ag (cTy r),.int .i64 9],1,by simp[Tryz.f182,V.get,V.put,aX, *],aG (by simp[Val.closed,aE])⟩
 |some g=>
  simp only
  rw[hfb] at h1
  simp only[Option.isSome_some,Option.getD_some] at h1
  cases ho:g.opt with
  |true=>
   simp only[if_true]
   generalize (ah s.b r.fields).isSome=B at *
   generalize (ah s.b r.fields).getD ji=G at *
   clear h3 h4 hb hwo hw hfa hty
   refine Y3 57 Tryz.func182 rfl rfl fun a hl g0 g1 g2=>?_
   repeat' first|refine G1 ?_|(refine G2 ?_ ?_<;>intro hc hd<;>try exact hd.elim)|fail
   all_goals (try (refine aC h1 ?_))
   repeat' first|refine G1 ?_|(refine G2 ?_ ?_<;>intro hc hd<;>try exact hd.elim)|fail
   all_goals (try (refine aC h2 ?_))
   repeat' first|refine G1 ?_|(refine G2 ?_ ?_<;>intro hc hd<;>try exact hd.elim)|fail
   exact⟨by simp,.tp [.ag (cTy r),.int .i64 7],1,by simp[Tryz.f182,V.get,V.put,aX, *],aG (by simp[Val.closed,aE])⟩
  |false=>
   simp only[Bool.false_eq_true,if_false]
   cases hrb:ah s.b r.fields with
   |some q=>
    rw[hrb] at h2
    simp only[Option.isSome_some,if_true,Option.getD_some] at h2 ⊢
    clear h3 h4 hb hwo hw hfa hty
    refine Y3 57 Tryz.func182 rfl rfl fun a hl g0 g1 g2=>?_
    repeat' first|refine G1 ?_|(refine G2 ?_ ?_<;>intro hc hd<;>try exact hd.elim)|fail
    all_goals (try (refine aC h1 ?_))
    repeat' first|refine G1 ?_|(refine G2 ?_ ?_<;>intro hc hd<;>try exact hd.elim)|fail
    all_goals (try (refine aC h2 ?_))
    repeat' first|refine G1 ?_|(refine G2 ?_ ?_<;>intro hc hd<;>try exact hd.elim)|fail
    exact⟨by simp,.tp [.ag (cTy r),.int .i64 5],1,by simp[Tryz.f182,V.get,V.put,aX, *],aG (by simp[Val.closed,aE])⟩
   |none=>
    rw[hrb] at h2
    simp only[Option.isSome_none,Bool.false_eq_true,if_false,Option.getD_none] at h2 ⊢
    have hab:s.a≠s.b:=fun e=>by rw[e,hrb] at hfa;cases hfa
    have h5:=f178 Γ (eL r s.a (ax f.ty s.b)) g (by have:=zC r s.a (ax f.ty s.b);omega) (eU _ _ hg.srt) (by rw[nj,be,(cD hfb).1,if_neg hab,hrb])
    generalize dQ (eL r s.a (ax f.ty s.b)) g=R2 at *
    generalize eL r s.a (ax f.ty s.b)=R1 at *
    generalize ax f.ty s.b=R0 at *
    clear hb hwo hw hfa hty
    refine Y3 57 Tryz.func182 rfl rfl fun a hl g0 g1 g2=>?_
    repeat' first|refine G1 ?_|(refine G2 ?_ ?_<;>intro hc hd<;>try exact hd.elim)|fail
    all_goals (try (refine aC h1 ?_))
    repeat' first|refine G1 ?_|(refine G2 ?_ ?_<;>intro hc hd<;>try exact hd.elim)|fail
    all_goals (try (refine aC h2 ?_))
    repeat' first|refine G1 ?_|(refine G2 ?_ ?_<;>intro hc hd<;>try exact hd.elim)|fail
    refine aQ h3 ?_
    repeat' first|refine G1 ?_|(refine G2 ?_ ?_<;>intro hc hd<;>try exact hd.elim)|fail
    refine aQ h4 ?_
    repeat' first|refine G1 ?_|(refine G2 ?_ ?_<;>intro hc hd<;>try exact hd.elim)|fail
    refine aQ h5 ?_
    repeat' first|refine G1 ?_|(refine G2 ?_ ?_<;>intro hc hd<;>try exact hd.elim)|fail
    exact⟨by simp,.tp [.ag (cTy R2),.int .i64 0],1,by simp[Tryz.f182,V.get,V.put,aX, *],aG (by simp[Val.closed,aE])⟩
end
end Go.V
end
