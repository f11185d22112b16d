/-
  A part of a proof: C1 C2a C2 C3 R7.
-/
import Derived.Test.YtkfjenbfbendhaaGreatDoorLk09
import Derived.Test.YtkfjenbfbendhaaGreatDoorLk10
import Derived.Test.YtkfjenbfbendhaaGreatDoorLk11
import Derived.Test.YtkfjenbfbendhaaGreatDoorLk12
set_option linter.unusedSimpArgs false
set_option linter.unusedVariables false
section
set_option maxHeartbeats 4000000
namespace Go.V
open Go Go.Proofs
attribute [local irreducible] W bO WD aO yl aS bW
section
variable (Γ:Glo Tryz.prog)
theorem iX (t:Ty):dG t=cn t.fields+co t.of+1:=by cases t;rfl
theorem gm (f:Fld)(l:List Fld):cn (f::l)=dG f.ty+cn l:=by cases f;rfl
theorem iw:∀l m:List Fld,cn (l++m)=cn l+cn m
 |[],m=>by simp[cn]
 |x::l,m=>by simp only[List.cons_append,gm,iw l m];omega
theorem iy:∀l m:List Ty,co (l++m)=co l+co m
 |[],m=>by simp[co]
 |x::l,m=>by simp only[List.cons_append,co,iy l m];omega
theorem vP (t:Ty):dG t≤wT t:=by
 induction t using Ty.ind with
 |h t ih1 ih2=>
  rw[iX,go]
  have h1:∀l:List Fld,(∀f∈l,dG f.ty≤wT f.ty)→cn l≤wFs l:=by
   intro l
   induction l with
   |nil=>intro _;exact Nat.le_refl _
   |cons x l ih=>intro h;rw[gm,cO];have:=h x (by simp);have:=ih fun f hf=>h f (by simp[hf]);omega
  have h2:∀l:List Ty,(∀f∈l,dG f≤wT f)→co l≤wTs l:=by
   intro l
   induction l with
   |nil=>intro _;exact Nat.le_refl _
   |cons x l ih=>intro h;simp only[co,wTs];have:=h x (by simp);have:=ih fun f hf=>h f (by simp[hf]);omega
  have:=h1 t.fields ih1
  have:=h2 t.of ih2
  omega
abbrev gw (g:FuncId):Heap:=[(1,.cells [.int .i64 1] 3 false),(2,.cells [.fn g [] []] 144 false),(4,.cells [.fn 177 [] [.pr 2 0,.pr 4 0,.pr 1 0]] 123 false)]
theorem f120 (x y:Int)(h:IntKind.i64.wrap (x+y)=x+y):PureOk Tryz.prog Γ 120 [.int .i64 x,.int .i64 y] (.int .i64 (x+y)):=by
 refine Y2 8 Tryz.func120 rfl rfl fun a hl g0 g1=>?_
 repeat' first|refine G1 ?_|(refine G2 ?_ ?_<;>intro hc hd<;>try exact hd.elim)|fail
 all_goals first|(refine⟨by simp,.int .i64 (x+y),1,?_,rfl⟩;(simp[Tryz.f120, *]<;>grind [List.length_eq_zero_iff]);done)|skip
theorem f177s (t:Ty)(hb:wT t<big):CallOk Tryz.prog Γ 177 [.ag (cTy t),.pr 2 0,.pr 4 0,.pr 1 0] (gw 120) 5 true (.int .i64 (dG t)) (gw 120) 5:=by
 induction t using Ty.ind with
 |h t ih1 ih2=>
 have hs:=iX t
 have hsz:=vP t
 have hf1:=dP t
 have hf2:=qD t
 have ih1':∀f∈t.fields,∀N,5≤N→CallOk Tryz.prog Γ 177 [.ag (cTy f.ty),.pr 2 0,.pr 4 0,.pr 1 0] (gw 120) N true (.int .i64 (dG f.ty)) (gw 120) N:=fun f hf N hN=>(ih1 f hf (by have:=fG hf;simp only[big] at *;omega)).any (by simp[aa,aR,bc,cz]) hN
 have ih2':∀f∈t.of,∀N,5≤N→CallOk Tryz.prog Γ 177 [.ag (cTy f),.pr 2 0,.pr 4 0,.pr 1 0] (gw 120) N true (.int .i64 (dG f)) (gw 120) N:=fun f hf N hN=>(ih2 f hf (by have:=lc hf;simp only[big] at *;omega)).any (by simp[aa,aR,bc,cz]) hN
 clear ih1 ih2
 simp only[big] at hb
 obtain⟨fs,hfs⟩:∃fs,t.fields=fs:=⟨_,rfl⟩
 obtain⟨ts,hts⟩:∃ts,t.of=ts:=⟨_,rfl⟩
 rw[hfs,hts] at hs
 rw[hfs] at ih1' hf1
 rw[hts] at ih2' hf2
 refine Z4 43 Tryz.func177 rfl rfl fun a hl g0 g1 g2 g3=>?_
 repeat' first|refine G1 ?_|(refine G2 ?_ ?_<;>intro hc hd<;>try exact hd.elim)|fail
 refine am [(8,8),(15,25)] [14,6] (fun k a h=>h=[(1,.cells [.int .i64 1] 3 false),(2,.cells [.fn 120 [] []] 144 false),(4,.cells [.fn 177 [] [.pr 2 0,.pr 4 0,.pr 1 0]] 123 false),(5,.cells (cTy t) 26 false)]∧∃pre rest,fs=pre++rest∧k=rest.length∧lk a 14=some (.int .i64 pre.length)∧lk a 6=some (.int .i64 (cn pre))) ⟨by simp[V.put,V.get, *],[],fs,rfl,rfl,by simp[*],by simp[*,cn]⟩ ?_
 intro a1 hk hk0 k a h hF hI
 replace g1:=hF.a hk 1
 replace g2:=hF.a hk 2
 replace g3:=hF.a hk 3
 replace g4:=hF.a hk 4
 replace g12:=hF.a hk 12
 replace g13:=hF.a hk 13
 replace hl:a.length=43:=hF.len.trans (hk0.trans (by simp[*]))
 clear hk hk0
 obtain⟨rfl,pre,rest,rfl,rfl,h14,h6⟩:=hI
 cases rest with
 |nil=>
  simp only[List.append_nil] at *
  repeat' first|refine G1 ?_|(refine G2 ?_ ?_<;>intro hc hd<;>try exact hd.elim)|fail
  refine am [(10,10),(30,39)] [29,6] (fun k a h=>h=[(1,.cells [.int .i64 1] 3 false),(2,.cells [.fn 120 [] []] 144 false),(4,.cells [.fn 177 [] [.pr 2 0,.pr 4 0,.pr 1 0]] 123 false),(5,.cells (cTy t) 26 false)]∧∃pre2 rest2,ts=pre2++rest2∧k=rest2.length∧lk a 29=some (.int .i64 pre2.length)∧lk a 6=some (.int .i64 (cn pre+co pre2))) ⟨rfl,[],ts,rfl,rfl,by simp[*],by simp[*,co]⟩ ?_
  intro a1 hk hk0 k a h hF hI
  replace g1:=hF.a hk 1
  replace g2:=hF.a hk 2
  replace g3:=hF.a hk 3
  replace g27:=hF.a hk 27
  replace g28:=hF.a hk 28
  replace hl:a.length=43:=hF.len.trans (hk0.trans (by simp[*]))
  clear hk hk0
  obtain⟨rfl,pre2,rest2,rfl,rfl,h29,h6⟩:=hI
  cases rest2 with
  |nil=>
   simp only[List.append_nil] at *
   have hw:=ad ((cn pre:Int)+co pre2+1) (by omega) (by omega)
   clear ih1' ih2'
   repeat' first|refine G1 ?_|(refine G2 ?_ ?_<;>intro hc hd<;>try exact hd.elim)|fail
   exact⟨by simp,by simp[Tryz.f177, *],by (repeat (first|exact aU|refine aP (by simp[V.get, *]) ?_))⟩
  |cons x r=>
   have hlt:(pre2.length:Int)<pre2.length+(r.length+1):=by omega
   have hw:=ad ((pre2.length:Int)+1) (by simp at hf2;omega) (by simp at hf2;omega)
   have hsp:co (pre2++x::r)=co pre2+dG x+co r:=by rw[iy];simp only[co];omega
   have hw2:=ad ((cn pre:Int)+co pre2+dG x) (by omega) (by omega)
   have hx:=ih2' x (by simp)
   have hg:=f120 Γ ((cn pre:Int)+co pre2) (dG x) hw2
   clear ih1' ih2'
   repeat' first|refine G1 ?_|(refine G2 ?_ ?_<;>intro hc hd<;>try exact hd.elim)|fail
   refine gp (hx _ (by omega)) ?_
   repeat' first|refine G1 ?_|(refine G2 ?_ ?_<;>intro hc hd<;>try exact hd.elim)|fail
   refine aQ hg ?_
   clear hx hg
   repeat' first|refine G1 ?_|(refine G2 ?_ ?_<;>intro hc hd<;>try exact hd.elim)|fail
   exact NX [(1,.cells [.int .i64 1] 3 false),(2,.cells [.fn 120 [] []] 144 false),(4,.cells [.fn 177 [] [.pr 2 0,.pr 4 0,.pr 1 0]] 123 false),(5,.cells (cTy t) 26 false)] fun a2 hF2=>⟨rfl,pre2++[x],r,by simp,rfl,(hF2.q 29),(hF2.same 6 rfl).trans (by simp[*,iy,co];omega)⟩
 |cons x r=>
  have hlt:(pre.length:Int)<pre.length+(r.length+1):=by omega
  have hw:=ad ((pre.length:Int)+1) (by simp at hf1;omega) (by simp at hf1;omega)
  have hsp:cn (pre++x::r)=cn pre+dG x.ty+cn r:=by rw[iw,gm];omega
  have hw2:=ad ((cn pre:Int)+dG x.ty) (by omega) (by omega)
  have hx:=ih1' x (by simp)
  have hg:=f120 Γ (cn pre:Int) (dG x.ty) hw2
  clear ih1' ih2'
  repeat' first|refine G1 ?_|(refine G2 ?_ ?_<;>intro hc hd<;>try exact hd.elim)|fail
  refine gp (hx _ (by omega)) ?_
  repeat' first|refine G1 ?_|(refine G2 ?_ ?_<;>intro hc hd<;>try exact hd.elim)|fail
  refine aQ hg ?_
  clear hx hg
  repeat' first|refine G1 ?_|(refine G2 ?_ ?_<;>intro hc hd<;>try exact hd.elim)|fail
  exact NX [(1,.cells [.int .i64 1] 3 false),(2,.cells [.fn 120 [] []] 144 false),(4,.cells [.fn 177 [] [.pr 2 0,.pr 4 0,.pr 1 0]] 123 false),(5,.cells (cTy t) 26 false)] fun a2 hF2=>⟨rfl,pre++[x],r,by simp,rfl,(hF2.q 14),(hF2.same 6 rfl).trans (by simp[*,iw,gm,cn])⟩
theorem jD (t:Ty):cZ t=max (ct t.fields) (dT t.of)+1:=by cases t;rfl
theorem hJ (f:Fld)(l:List Fld):ct (f::l)=max (cZ f.ty) (ct l):=by cases f;rfl
theorem ju:∀l m:List Fld,ct (l++m)=max (ct l) (ct m)
 |[],m=>by simp[ct]
 |x::l,m=>by simp only[List.cons_append,hJ,ju l m];omega
theorem jv:∀l m:List Ty,dT (l++m)=max (dT l) (dT m)
 |[],m=>by simp[dT]
 |x::l,m=>by simp only[List.cons_append,dT,jv l m];omega
theorem tH (t:Ty):cZ t≤wT t:=by
 induction t using Ty.ind with
 |h t ih1 ih2=>
  rw[jD,go]
  have h1:∀l:List Fld,(∀f∈l,cZ f.ty≤wT f.ty)→ct l≤wFs l:=by
   intro l
   induction l with
   |nil=>intro _;exact Nat.le_refl _
   |cons x l ih=>intro h;rw[hJ,cO];have:=h x (by simp);have:=ih fun f hf=>h f (by simp[hf]);omega
  have h2:∀l:List Ty,(∀f∈l,cZ f≤wT f)→dT l≤wTs l:=by
   intro l
   induction l with
   |nil=>intro _;exact Nat.le_refl _
   |cons x l ih=>intro h;simp only[dT,wTs];have:=h x (by simp);have:=ih fun f hf=>h f (by simp[hf]);omega
  have:=h1 t.fields ih1
  have:=h2 t.of ih2
  omega
theorem f121 (x y:Nat):PureOk Tryz.prog Γ 121 [.int .i64 x,.int .i64 y] (.int .i64 (max x y:Nat)):=by
 obtain⟨v,hv⟩:∃v,v=max x y:=⟨_,rfl⟩
 rw[←hv]
 have e:(if (x:Int)<y then (y:Int) else x)=v:=by
  by_cases h:x<y
  ·
   rw[if_pos (by omega)];omega
  ·
   rw[if_neg (by omega)];omega
 have e':(if x<y then (y:Int) else x)=v:=by
  by_cases h:x<y
  ·
   rw[if_pos h];omega
  ·
   rw[if_neg h];omega
 clear hv
 refine Y2 8 Tryz.func121 rfl rfl fun a hl g0 g1=>?_
 repeat' first|refine G1 ?_|(refine G2 ?_ ?_<;>intro hc hd<;>try exact hd.elim)|fail
 all_goals first|(refine⟨by simp,.int .i64 v,1,?_,rfl⟩;(simp[Tryz.f121, *]<;>grind [List.length_eq_zero_iff]);done)|skip
theorem f177d (t:Ty)(hb:wT t<big):CallOk Tryz.prog Γ 177 [.ag (cTy t),.pr 2 0,.pr 4 0,.pr 1 0] (gw 121) 5 true (.int .i64 (cZ t)) (gw 121) 5:=by
 induction t using Ty.ind with
 |h t ih1 ih2=>
 have hs:=jD t
 have hsz:=tH t
 have hf1:=dP t
 have hf2:=qD t
 have ih1':∀f∈t.fields,∀N,5≤N→CallOk Tryz.prog Γ 177 [.ag (cTy f.ty),.pr 2 0,.pr 4 0,.pr 1 0] (gw 121) N true (.int .i64 (cZ f.ty)) (gw 121) N:=fun f hf N hN=>(ih1 f hf (by have:=fG hf;simp only[big] at *;omega)).any (by simp[aa,aR,bc,cz]) hN
 have ih2':∀f∈t.of,∀N,5≤N→CallOk Tryz.prog Γ 177 [.ag (cTy f),.pr 2 0,.pr 4 0,.pr 1 0] (gw 121) N true (.int .i64 (cZ f)) (gw 121) N:=fun f hf N hN=>(ih2 f hf (by have:=lc hf;simp only[big] at *;omega)).any (by simp[aa,aR,bc,cz]) hN
 clear ih1 ih2
 simp only[big] at hb
 obtain⟨fs,hfs⟩:∃fs,t.fields=fs:=⟨_,rfl⟩
 obtain⟨ts,hts⟩:∃ts,t.of=ts:=⟨_,rfl⟩
 rw[hfs,hts] at hs
 rw[hfs] at ih1' hf1
 rw[hts] at ih2' hf2
 refine Z4 43 Tryz.func177 rfl rfl fun a hl g0 g1 g2 g3=>?_
 repeat' first|refine G1 ?_|(refine G2 ?_ ?_<;>intro hc hd<;>try exact hd.elim)|fail
 refine am [(8,8),(15,25)] [14,6] (fun k a h=>h=[(1,.cells [.int .i64 1] 3 false),(2,.cells [.fn 121 [] []] 144 false),(4,.cells [.fn 177 [] [.pr 2 0,.pr 4 0,.pr 1 0]] 123 false),(5,.cells (cTy t) 26 false)]∧∃pre rest,fs=pre++rest∧k=rest.length∧lk a 14=some (.int .i64 pre.length)∧lk a 6=some (.int .i64 (ct pre))) ⟨by simp[V.put,V.get, *],[],fs,rfl,rfl,by simp[*],by simp[*,ct]⟩ ?_
 intro a1 hk hk0 k a h hF hI
 replace g1:=hF.a hk 1
 replace g2:=hF.a hk 2
 replace g3:=hF.a hk 3
 replace g4:=hF.a hk 4
 replace g12:=hF.a hk 12
 replace g13:=hF.a hk 13
 replace hl:a.length=43:=hF.len.trans (hk0.trans (by simp[*]))
 clear hk hk0
 obtain⟨rfl,pre,rest,rfl,rfl,h14,h6⟩:=hI
 cases rest with
 |nil=>
  simp only[List.append_nil] at *
  repeat' first|refine G1 ?_|(refine G2 ?_ ?_<;>intro hc hd<;>try exact hd.elim)|fail
  refine am [(10,10),(30,39)] [29,6] (fun k a h=>h=[(1,.cells [.int .i64 1] 3 false),(2,.cells [.fn 121 [] []] 144 false),(4,.cells [.fn 177 [] [.pr 2 0,.pr 4 0,.pr 1 0]] 123 false),(5,.cells (cTy t) 26 false)]∧∃pre2 rest2,ts=pre2++rest2∧k=rest2.length∧lk a 29=some (.int .i64 pre2.length)∧lk a 6=some (.int .i64 ((max (ct pre) (dT pre2):Nat)))) ⟨rfl,[],ts,rfl,rfl,by simp[*],by simp[*,dT]⟩ ?_
  intro a1 hk hk0 k a h hF hI
  replace g1:=hF.a hk 1
  replace g2:=hF.a hk 2
  replace g3:=hF.a hk 3
  replace g27:=hF.a hk 27
  replace g28:=hF.a hk 28
  replace hl:a.length=43:=hF.len.trans (hk0.trans (by simp[*]))
  clear hk hk0
  obtain⟨rfl,pre2,rest2,rfl,rfl,h29,h6⟩:=hI
  cases rest2 with
  |nil=>
   simp only[List.append_nil] at *
   have hw:=ad (((max (ct pre) (dT pre2):Nat):Int)+1) (by omega) (by omega)
   clear ih1' ih2'
   repeat' first|refine G1 ?_|(refine G2 ?_ ?_<;>intro hc hd<;>try exact hd.elim)|fail
   exact⟨by simp,by simp[Tryz.f177, *],by (repeat (first|exact aU|refine aP (by simp[V.get, *]) ?_))⟩
  |cons x r=>
   have hlt:(pre2.length:Int)<pre2.length+(r.length+1):=by omega
   have hw:=ad ((pre2.length:Int)+1) (by simp at hf2;omega) (by simp at hf2;omega)
   have hx:=ih2' x (by simp)
   have hg:=f121 Γ (max (ct pre) (dT pre2)) (cZ x)
   have hmx:max (max (ct pre) (dT pre2)) (cZ x)=max (ct pre) (dT (pre2++[x])):=by rw[jv];simp only[dT];omega
   rw[hmx] at hg
   clear hmx
   clear ih1' ih2'
   repeat' first|refine G1 ?_|(refine G2 ?_ ?_<;>intro hc hd<;>try exact hd.elim)|fail
   refine gp (hx _ (by omega)) ?_
   repeat' first|refine G1 ?_|(refine G2 ?_ ?_<;>intro hc hd<;>try exact hd.elim)|fail
   refine aQ hg ?_
   clear hx hg
   repeat' first|refine G1 ?_|(refine G2 ?_ ?_<;>intro hc hd<;>try exact hd.elim)|fail
   exact NX [(1,.cells [.int .i64 1] 3 false),(2,.cells [.fn 121 [] []] 144 false),(4,.cells [.fn 177 [] [.pr 2 0,.pr 4 0,.pr 1 0]] 123 false),(5,.cells (cTy t) 26 false)] fun a2 hF2=>⟨rfl,pre2++[x],r,by simp,rfl,(hF2.q 29),(hF2.same 6 rfl).trans (by simp[*])⟩
 |cons x r=>
  have hlt:(pre.length:Int)<pre.length+(r.length+1):=by omega
  have hw:=ad ((pre.length:Int)+1) (by simp at hf1;omega) (by simp at hf1;omega)
  have hx:=ih1' x (by simp)
  have hg:=f121 Γ (ct pre) (cZ x.ty)
  have hmx:max (ct pre) (cZ x.ty)=ct (pre++[x]):=by rw[ju,hJ];simp only[ct];omega
  rw[hmx] at hg
  clear hmx
  clear ih1' ih2'
  repeat' first|refine G1 ?_|(refine G2 ?_ ?_<;>intro hc hd<;>try exact hd.elim)|fail
  refine gp (hx _ (by omega)) ?_
  repeat' first|refine G1 ?_|(refine G2 ?_ ?_<;>intro hc hd<;>try exact hd.elim)|fail
  refine aQ hg ?_
  clear hx hg
  repeat' first|refine G1 ?_|(refine G2 ?_ ?_<;>intro hc hd<;>try exact hd.elim)|fail
  exact NX [(1,.cells [.int .i64 1] 3 false),(2,.cells [.fn 121 [] []] 144 false),(4,.cells [.fn 177 [] [.pr 2 0,.pr 4 0,.pr 1 0]] 123 false),(5,.cells (cTy t) 26 false)] fun a2 hF2=>⟨rfl,pre++[x],r,by simp,rfl,(hF2.q 14),(hF2.same 6 rfl).trans (by simp[*])⟩
theorem f119s (t:Ty)(hb:wT t<big):PureOk Tryz.prog Γ 119 [.ag (cTy t),.int .i64 1,.fn 120 [] []] (.int .i64 (dG t)):=by
 have h1:∀N,5≤N→CallOk Tryz.prog Γ 177 [.ag (cTy t),.pr 2 0,.pr 4 0,.pr 1 0] (gw 120) N true (.int .i64 (dG t)) (gw 120) N:=fun N hN=>(f177s Γ t hb).any (by simp[aa,aR,bc,cz]) hN
 refine Y3 12 Tryz.func119 rfl rfl fun a hl g0 g1 g2=>?_
 repeat' first|refine G1 ?_|(refine G2 ?_ ?_<;>intro hc hd<;>try exact hd.elim)|fail
 refine av (h1 _ (by omega)) ?_
 clear h1
 repeat' first|refine G1 ?_|(refine G2 ?_ ?_<;>intro hc hd<;>try exact hd.elim)|fail
 all_goals first|(refine⟨by simp,.int .i64 (dG t),1,?_,rfl⟩;(simp[Tryz.f119, *]<;>grind [List.length_eq_zero_iff]);done)|skip
theorem f67 (t:Ty)(hb:wT t<big):PureOk Tryz.prog Γ 67 [.ag (cTy t)] (.int .i64 (dG t)):=by
 have h1:=f119s Γ t hb
 refine Y1 5 Tryz.func67 rfl rfl fun a hl g0=>?_
 repeat' first|refine G1 ?_|(refine G2 ?_ ?_<;>intro hc hd<;>try exact hd.elim)|fail
 refine aC h1 ?_
 clear h1
 repeat' first|refine G1 ?_|(refine G2 ?_ ?_<;>intro hc hd<;>try exact hd.elim)|fail
 all_goals first|(refine⟨by simp,.int .i64 (dG t),1,?_,rfl⟩;(simp[Tryz.f67, *]<;>grind [List.length_eq_zero_iff]);done)|skip
theorem f119d (t:Ty)(hb:wT t<big):PureOk Tryz.prog Γ 119 [.ag (cTy t),.int .i64 1,.fn 121 [] []] (.int .i64 (cZ t)):=by
 have h1:∀N,5≤N→CallOk Tryz.prog Γ 177 [.ag (cTy t),.pr 2 0,.pr 4 0,.pr 1 0] (gw 121) N true (.int .i64 (cZ t)) (gw 121) N:=fun N hN=>(f177d Γ t hb).any (by simp[aa,aR,bc,cz]) hN
 refine Y3 12 Tryz.func119 rfl rfl fun a hl g0 g1 g2=>?_
 repeat' first|refine G1 ?_|(refine G2 ?_ ?_<;>intro hc hd<;>try exact hd.elim)|fail
 refine av (h1 _ (by omega)) ?_
 clear h1
 repeat' first|refine G1 ?_|(refine G2 ?_ ?_<;>intro hc hd<;>try exact hd.elim)|fail
 all_goals first|(refine⟨by simp,.int .i64 (cZ t),1,?_,rfl⟩;(simp[Tryz.f119, *]<;>grind [List.length_eq_zero_iff]);done)|skip
theorem f68 (t:Ty)(hb:wT t<big):PureOk Tryz.prog Γ 68 [.ag (cTy t)] (.int .i64 (cZ t)):=by
 have h1:=f119d Γ t hb
 refine Y1 5 Tryz.func68 rfl rfl fun a hl g0=>?_
 repeat' first|refine G1 ?_|(refine G2 ?_ ?_<;>intro hc hd<;>try exact hd.elim)|fail
 refine aC h1 ?_
 clear h1
 repeat' first|refine G1 ?_|(refine G2 ?_ ?_<;>intro hc hd<;>try exact hd.elim)|fail
 all_goals first|(refine⟨by simp,.int .i64 (cZ t),1,?_,rfl⟩;(simp[Tryz.f68, *]<;>grind [List.length_eq_zero_iff]);done)|skip
end
end Go.V
end
section
set_option maxHeartbeats 4000000
namespace Go.V
open Go Go.Proofs
attribute [local irreducible] W bO WD aO yl aS bW
section
variable (Γ:Glo Tryz.prog)
theorem f122 (t:Ty)(hb:wT t<big):PureOk Tryz.prog Γ 122 [.ag (cTy t)] (.bool (lD t)):=by
 have hb1:=dP t
 have hb2:=jL t
 have hb3:=qD t
 simp only[big] at hb
 obtain⟨v,hv⟩:∃v,v=lD t:=⟨_,rfl⟩
 rw[←hv]
 unfold lD tq at hv
 clear hb hb1 hb2 hb3
 refine Y1 63 Tryz.func122 rfl rfl fun a hl g0=>?_
 repeat' first|refine G1 ?_|(refine G2 ?_ ?_<;>intro hc hd<;>try exact hd.elim)|fail
 all_goals first|(have e:v=true:=(by grind [List.length_eq_zero_iff,aL,aN,aM,aY]);(try clear hv);(try clear hv2);exact⟨by simp,.bool v,1,by simp[Tryz.f122, *],rfl⟩)|(have e:v=false:=(by grind [List.length_eq_zero_iff,aL,aN,aM,aY]);(try clear hv);(try clear hv2);exact⟨by simp,.bool v,1,by simp[Tryz.f122, *],rfl⟩)|(exact⟨by simp,.bool v,1,(by simp[Tryz.f122, *]<;>grind [List.length_eq_zero_iff,aL,aN,aM]),rfl⟩)
theorem f124 (ks:List Str)(hb:ks.length<big)(hb3:∀s∈ks,s.length<big):PureOk Tryz.prog Γ 124 [sls aW ks] (.bool (lS ks)):=by
 simp only[big] at hb hb3
 obtain⟨v,hv⟩:∃v,v=lS ks:=⟨_,rfl⟩
 rw[←hv]
 replace hv:v=(ed none ks&&(decide (0<ks.length)&&decide (ks.length≤32))):=by rw[hv];unfold lS;rw[Bool.and_assoc]
 obtain⟨w,hw0⟩:∃w,w=ed none ks:=⟨_,rfl⟩
 rw[←hw0] at hv
 refine Y1 37 Tryz.func124 rfl rfl fun a hl g0=>?_
 repeat' first|refine G1 ?_|(refine G2 ?_ ?_<;>intro hc hd<;>try exact hd.elim)|fail
 refine am [(2,4),(8,28)] [7] (fun k a h=>h=[]∧∃pre rest p,ks=pre++rest∧k=rest.length∧lk a 7=some (.int .i64 pre.length)∧w=ed p rest∧((pre.length=0∧p=none)∨∃q x,pre=q++[x]∧p=some x)) ⟨rfl,[],ks,none,rfl,rfl,by simp[*],hw0,.inl ⟨rfl,rfl⟩⟩ ?_
 intro a1 hk hk0 k a h hF hI
 replace g0:=hF.a hk 0
 replace g5:=hF.a hk 5
 replace g6:=hF.a hk 6
 replace hl:a.length=37:=hF.len.trans (hk0.trans (by simp[*]))
 clear hk hk0
 clear hw0
 obtain⟨rfl,pre,rest,p,rfl,rfl,h7,hw1,hp⟩:=hI
 cases rest with
 |nil=>
  simp[ed] at hw1
  clear hp
  repeat' first|refine G1 ?_|(refine G2 ?_ ?_<;>intro hc hd<;>try exact hd.elim)|fail
  all_goals first|(have e:v=true:=(by grind [List.length_eq_zero_iff,aL,aN,aM,aY]);(try clear hv);(try clear hv2);exact⟨by simp,.bool v,1,by simp[Tryz.f124, *],rfl⟩)|(have e:v=false:=(by grind [List.length_eq_zero_iff,aL,aN,aM,aY]);(try clear hv);(try clear hv2);exact⟨by simp,.bool v,1,by simp[Tryz.f124, *],rfl⟩)|(exact⟨by simp,.bool v,1,(by simp[Tryz.f124, *]<;>grind [List.length_eq_zero_iff,aL,aN,aM]),rfl⟩)
 |cons s r=>
  have hlt:(pre.length:Int)<pre.length+(r.length+1):=by omega
  have hw:=ad ((pre.length:Int)+1) (by simp at hb;omega) (by simp at hb;omega)
  rcases hp with ⟨hz,rfl⟩|⟨q,x,rfl,rfl⟩
  ·
   have hz':¬0<pre.length:=by omega
   clear hz
   have hv2:w=(decide (s.length≤256)&&ed (some s) r):=by simpa[ed] using hw1
   clear hw1
   repeat' first|refine G1 ?_|(refine G2 ?_ ?_<;>intro hc hd<;>try exact hd.elim)|fail
   all_goals first
     |(have e:v=false:=(by grind [List.length_eq_zero_iff,aL,aN,aM,aY]);(try clear hv);(try clear hv2);exact⟨by simp,.bool v,1,by simp[Tryz.f124, *],rfl⟩)
     |(have e:w=ed (some s) r:=(by grind [aL,aN,aM]);exact NX [] fun a2 hF2=>⟨rfl,pre++[s],r,some s,by simp,rfl,(hF2.q 7),e,.inr ⟨pre,s,by simp,rfl⟩⟩
      )
  ·
   have hv2:w=(decide (s.length≤256)&&ltS x s&&ed (some s) r):=by simpa[ed] using hw1
   have hwq:=ad (q.length:Int) (by omega) (by simp at hb;omega)
   have hrd:=fH (q++[x]) r s
   have hz':(0:Int)<q.length+1:=by omega
   have hlt':(1:Int)<r.length+1+1:=by omega
   simp at hrd hw
   clear hw1
   repeat' first|refine G1 ?_|(refine G2 ?_ ?_<;>intro hc hd<;>try exact hd.elim)|fail
   all_goals first
     |(have e:v=false:=(by grind [List.length_eq_zero_iff,aL,aN,aM,aY]);(try clear hv);(try clear hv2);exact⟨by simp,.bool v,1,by simp[Tryz.f124, *],rfl⟩)
     |(have e:w=ed (some s) r:=(by grind [aL,aN,aM]);exact NX [] fun a2 hF2=>⟨rfl,q++[x]++[s],r,some s,by simp,rfl,(hF2.q 7),e,.inr ⟨q++[x],s,by simp,rfl⟩⟩
      )
end
end Go.V
end
section
set_option maxHeartbeats 4000000
namespace Go.V
open Go Go.Proofs
attribute [local irreducible] W bO WD aO yl aS bW
section
variable (Γ:Glo Tryz.prog)
theorem pT (p:Option Str)(f:Fld)(r:List Fld):eh p (f::r)=(d8 f.name&&(match p with|none=>true|some q=>ltS q f.name)&&fV f.ty&&eh (some f.name) r):=by cases f;rfl
theorem f123 (fs:List Fld)(hb:fs.length<big)(hn:∀f∈fs,f.name.length<big)(hr:∀f∈fs,PureOk Tryz.prog Γ 69 [.ag (cTy f.ty)] (.bool (fV f.ty))):PureOk Tryz.prog Γ 123 [sls aZ fs] (.bool (eh none fs&&decide (fs.length≤32))):=by
 have hn':∀f∈fs,PureOk Tryz.prog Γ 107 [.str f.name] (.bool (d8 f.name)):=fun f hf=>f107 Γ f.name (hn f hf)
 simp only[big] at hb
 clear hn
 obtain⟨v,hv⟩:∃v,v=(eh none fs&&decide (fs.length≤32)):=⟨_,rfl⟩
 rw[←hv]
 obtain⟨w,hw0⟩:∃w,w=eh none fs:=⟨_,rfl⟩
 rw[←hw0] at hv
 refine Y1 41 Tryz.func123 rfl rfl fun a hl g0=>?_
 repeat' first|refine G1 ?_|(refine G2 ?_ ?_<;>intro hc hd<;>try exact hd.elim)|fail
 refine am [(2,4),(8,37)] [7] (fun k a h=>h=[]∧∃pre rest p,fs=pre++rest∧k=rest.length∧lk a 7=some (.int .i64 pre.length)∧w=eh p rest∧((pre.length=0∧p=none)∨∃q x,pre=q++[x]∧p=some x.name)) ⟨rfl,[],fs,none,rfl,rfl,by simp[*],hw0,.inl ⟨rfl,rfl⟩⟩ ?_
 intro a1 hk hk0 k a h hF hI
 replace g0:=hF.a hk 0
 replace g5:=hF.a hk 5
 replace g6:=hF.a hk 6
 replace hl:a.length=41:=hF.len.trans (hk0.trans (by simp[*]))
 clear hk hk0
 clear hw0
 obtain⟨rfl,pre,rest,p,rfl,rfl,h7,hw1,hp⟩:=hI
 cases rest with
 |nil=>
  simp[eh] at hw1
  clear hp hr hn'
  repeat' first|refine G1 ?_|(refine G2 ?_ ?_<;>intro hc hd<;>try exact hd.elim)|fail
  all_goals first|(have e:v=true:=(by grind [List.length_eq_zero_iff,aL,aN,aM,aY]);(try clear hv);(try clear hv2);exact⟨by simp,.bool v,1,by simp[Tryz.f123, *],rfl⟩)|(have e:v=false:=(by grind [List.length_eq_zero_iff,aL,aN,aM,aY]);(try clear hv);(try clear hv2);exact⟨by simp,.bool v,1,by simp[Tryz.f123, *],rfl⟩)|(exact⟨by simp,.bool v,1,(by simp[Tryz.f123, *]<;>grind [List.length_eq_zero_iff,aL,aN,aM]),rfl⟩)
 |cons s r=>
  have hlt:(pre.length:Int)<pre.length+(r.length+1):=by omega
  have hw:=ad ((pre.length:Int)+1) (by simp at hb;omega) (by simp at hb;omega)
  have h1:=hn' s (by simp)
  have h2:=hr s (by simp)
  rw[pT] at hw1
  clear hn' hr
  rcases hp with ⟨hz,rfl⟩|⟨q,x,rfl,rfl⟩
  ·
   have hz':¬0<pre.length:=by omega
   clear hz
   simp at hw1
   generalize d8 s.name=p1 at *
   generalize fV s.ty=p2 at *
   repeat' first|refine G1 ?_|(refine G2 ?_ ?_<;>intro hc hd<;>try exact hd.elim)|fail
   refine aQ h1 ?_
   clear h1
   repeat' first|refine G1 ?_|(refine G2 ?_ ?_<;>intro hc hd<;>try exact hd.elim)|fail
   all_goals (try (refine aQ h2 ?_))
   clear h2
   all_goals (repeat' first|refine G1 ?_|(refine G2 ?_ ?_<;>intro hc hd<;>try exact hd.elim)|fail)
   all_goals first
     |(have e:v=false:=(by grind [List.length_eq_zero_iff,aL,aN,aM,aY]);(try clear hv);(try clear hv2);exact⟨by simp,.bool v,1,by simp[Tryz.f123, *],rfl⟩)
     |(have e:w=eh (some s.name) r:=(by grind [aL,aN,aM]);exact NX [] fun a2 hF2=>⟨rfl,pre++[s],r,some s.name,by simp,rfl,(hF2.q 7),e,.inr ⟨pre,s,by simp,rfl⟩⟩
      )
  ·
   have hwq:=ad (q.length:Int) (by omega) (by simp at hb;omega)
   have hrd:=lg (q++[x]) r s
   have hz':(0:Int)<q.length+1:=by omega
   have hlt':(1:Int)<r.length+1+1:=by omega
   have hle:(q.length+1)*8≤(q.length+(r.length+1+1))*8:=Nat.mul_le_mul_right _ (by omega)
   simp at hrd hw hw1
   generalize d8 s.name=p1 at *
   generalize fV s.ty=p2 at *
   repeat' first|refine G1 ?_|(refine G2 ?_ ?_<;>intro hc hd<;>try exact hd.elim)|fail
   refine aQ h1 ?_
   clear h1
   repeat' first|refine G1 ?_|(refine G2 ?_ ?_<;>intro hc hd<;>try exact hd.elim)|fail
   all_goals (try (refine aQ h2 ?_))
   clear h2
   all_goals (repeat' first|refine G1 ?_|(refine G2 ?_ ?_<;>intro hc hd<;>try exact hd.elim)|fail)
   all_goals first
     |(have e:v=false:=(by grind [List.length_eq_zero_iff,aL,aN,aM,aY]);(try clear hv);(try clear hv2);exact⟨by simp,.bool v,1,by simp[Tryz.f123, *],rfl⟩)
     |(have e:w=eh (some s.name) r:=(by grind [aL,aN,aM]);exact NX [] fun a2 hF2=>⟨rfl,q++[x]++[s],r,some s.name,by simp,rfl,(hF2.q 7),e,.inr ⟨q++[x],s,by simp,rfl⟩⟩
      )
theorem uN (x:Ty)(l:List Ty):km (x::l)=fV x:=rfl
theorem nH (t:Ty):fV t=(lD t &&
  (if t.kind=1 then eh none t.fields&&decide (t.fields.length≤32)
   else if t.kind=2∨t.kind=3 then decide (t.of.length=1)&&decide (0≤t.lo)&&decide (t.lo≤t.hi)&&km t.of
   else if t.kind=4 then decide (t.lo≤t.hi)
   else if t.kind=5 then true
   else if t.kind=6 then decide (0≤t.lo)&&decide (t.lo≤t.hi)&&decide (t.hi≤256)
   else if t.kind=7 then lS t.names
   else false)):=by cases t;rfl
theorem f69 (t:Ty)(hb:wT t<big):PureOk Tryz.prog Γ 69 [.ag (cTy t)] (.bool (fV t)):=by
 induction t using Ty.ind with
 |h t ih1 ih2=>
 have h1:=f122 Γ t hb
 have hb1:=dP t
 have hb2:=jL t
 have hb3:=qD t
 have h2:=f123 Γ t.fields (by simp only[big] at *;omega) (fun f hf=>by have:=fG hf;simp only[big] at *;omega) (fun f hf=>ih1 f hf (by have:=fG hf;simp only[big] at *;omega))
 have h3:=f124 Γ t.names (by simp only[big] at *;omega) (fun f hf=>by have:=BJ hf;simp only[big] at *;omega)
 have h4:∀x l,t.of=x::l→PureOk Tryz.prog Γ 69 [.ag (cTy x)] (.bool (km t.of)):=by
  intro x l e
  rw[e,uN]
  exact ih2 x (by rw[e];simp) (by have:=lc (t:=t) (x:=x) (by rw[e];simp);simp only[big] at *;omega)
 obtain⟨v,hv⟩:∃v,v=fV t:=⟨_,rfl⟩
 rw[←hv]
 rw[nH] at hv
 clear ih1 ih2 hb hb1 hb2 hb3
 generalize lD t=p1 at *
 generalize (eh none t.fields&&decide (t.fields.length≤32))=p2 at *
 generalize lS t.names=p3 at *
 generalize km t.of=p4 at *
 by_cases ho:∃x l,t.of=x::l
 ·
  obtain⟨x,l,ho⟩:=ho
  replace h4:=h4 x l ho
  refine Y1 70 Tryz.func69 rfl rfl fun a hl g0=>?_
  repeat' first|refine G1 ?_|(refine G2 ?_ ?_<;>intro hc hd<;>try exact hd.elim)|fail
  all_goals (try (refine aC h1 ?_))
  all_goals (repeat' first|refine G1 ?_|(refine G2 ?_ ?_<;>intro hc hd<;>try exact hd.elim)|fail)
  all_goals (try (refine aC h2 ?_))
  all_goals (try (refine aC h3 ?_))
  all_goals (repeat' first|refine G1 ?_|(refine G2 ?_ ?_<;>intro hc hd<;>try exact hd.elim)|fail)
  all_goals (try (refine aC h4 ?_))
  all_goals (repeat' first|refine G1 ?_|(refine G2 ?_ ?_<;>intro hc hd<;>try exact hd.elim)|fail)
  all_goals first|(have e:v=true:=(by grind [List.length_eq_zero_iff,aL,aN,aM,aY]);(try clear hv);(try clear hv2);exact⟨by simp,.bool v,1,by simp[Tryz.f69, *],rfl⟩)|(have e:v=false:=(by grind [List.length_eq_zero_iff,aL,aN,aM,aY]);(try clear hv);(try clear hv2);exact⟨by simp,.bool v,1,by simp[Tryz.f69, *],rfl⟩)|(exact⟨by simp,.bool v,1,(by simp[Tryz.f69, *]<;>grind [List.length_eq_zero_iff,aL,aN,aM]),rfl⟩)
 ·
  have ho':t.of=[]:=by
   cases e:t.of with
   |nil=>rfl
   |cons x l=>exact(ho ⟨x,l,e⟩).elim
  clear h4 ho
  refine Y1 70 Tryz.func69 rfl rfl fun a hl g0=>?_
  repeat' first|refine G1 ?_|(refine G2 ?_ ?_<;>intro hc hd<;>try exact hd.elim)|fail
  all_goals (try (refine aC h1 ?_))
  all_goals (repeat' first|refine G1 ?_|(refine G2 ?_ ?_<;>intro hc hd<;>try exact hd.elim)|fail)
  all_goals (try (refine aC h2 ?_))
  all_goals (try (refine aC h3 ?_))
  all_goals (repeat' first|refine G1 ?_|(refine G2 ?_ ?_<;>intro hc hd<;>try exact hd.elim)|fail)
  all_goals first|(have e:v=true:=(by grind [List.length_eq_zero_iff,aL,aN,aM,aY]);(try clear hv);(try clear hv2);exact⟨by simp,.bool v,1,by simp[Tryz.f69, *],rfl⟩)|(have e:v=false:=(by grind [List.length_eq_zero_iff,aL,aN,aM,aY]);(try clear hv);(try clear hv2);exact⟨by simp,.bool v,1,by simp[Tryz.f69, *],rfl⟩)|(exact⟨by simp,.bool v,1,(by simp[Tryz.f69, *]<;>grind [List.length_eq_zero_iff,aL,aN,aM]),rfl⟩)
theorem f27 (t:Ty)(hb:wT t<big):PureOk Tryz.prog Γ 27 [.ag (cTy t)] (.bool (bq t)):=by
 have h1:=f67 Γ t hb
 have h2:=f68 Γ t hb
 have h3:=f69 Γ t hb
 obtain⟨v,hv⟩:∃v,v=bq t:=⟨_,rfl⟩
 rw[←hv]
 unfold bq at hv
 generalize dG t=p1 at *
 generalize cZ t=p2 at *
 generalize fV t=p3 at *
 clear hb
 refine Y1 15 Tryz.func27 rfl rfl fun a hl g0=>?_
 repeat' first|refine G1 ?_|(refine G2 ?_ ?_<;>intro hc hd<;>try exact hd.elim)|fail
 all_goals (try (refine aC h1 ?_))
 all_goals (repeat' first|refine G1 ?_|(refine G2 ?_ ?_<;>intro hc hd<;>try exact hd.elim)|fail)
 all_goals (try (refine aC h2 ?_))
 all_goals (repeat' first|refine G1 ?_|(refine G2 ?_ ?_<;>intro hc hd<;>try exact hd.elim)|fail)
 all_goals (try (refine aC h3 ?_))
 all_goals (repeat' first|refine G1 ?_|(refine G2 ?_ ?_<;>intro hc hd<;>try exact hd.elim)|fail)
 all_goals first|(have e:v=true:=(by grind [List.length_eq_zero_iff,aL,aN,aM,aY]);(try clear hv);(try clear hv2);exact⟨by simp,.bool v,1,by simp[Tryz.f27, *],rfl⟩)|(have e:v=false:=(by grind [List.length_eq_zero_iff,aL,aN,aM,aY]);(try clear hv);(try clear hv2);exact⟨by simp,.bool v,1,by simp[Tryz.f27, *],rfl⟩)|(exact⟨by simp,.bool v,1,(by simp[Tryz.f27, *]<;>grind [List.length_eq_zero_iff,aL,aN,aM]),rfl⟩)
end
end Go.V
end
section
set_option maxHeartbeats 4000000
namespace Go.V
open Go Go.Proofs
attribute [local irreducible] W bO WD aO yl aS bW
section
variable (Γ:Glo Tryz.prog)
attribute [local simp] veq
def eqF (f g:Fld):Bool:=decide (f.name=g.name)&&decide (f.opt=g.opt)&&eqT f.ty g.ty
theorem tN:∀l m,AR l m=di eqF l m
 |[],[]=>rfl
 |[],.mk _ _ _::_=>rfl
 |.mk _ _ _::_,[]=>rfl
 |.mk _ _ _::l,.mk _ _ _::m=>by rw[AR,di,tN l m];rfl
theorem tQ:∀l m,AS l m=di eqT l m
 |[],[]=>rfl
 |[],_::_=>rfl
 |_::_,[]=>rfl
 |_::l,_::m=>by rw[AS,di,tQ l m]
theorem rk:∀l m:List Str,di (fun x y=>decide (x=y)) l m=decide (l=m)
 |[],[]=>by simp[di]
 |[],_::_=>by simp[di]
 |_::_,[]=>by simp[di]
 |x::l,y::m=>by rw[di,rk l m,Bool.eq_iff_iff];simp
theorem yB (t u:Ty):eqT t u=(decide (t.kind=u.kind)&&decide (t.lo=u.lo)&&decide (t.hi=u.hi)&&di (fun x y=>decide (x=y)) t.names u.names&&di eqF t.fields u.fields&&di eqT t.of u.of):=by
 cases t;cases u
 rw[eqT,tN,tQ]
 simp only[rk]
 rfl
theorem f59 (f g:Fld)(h:PureOk Tryz.prog Γ 22 [.ag (cTy f.ty),.ag (cTy g.ty)] (.bool (eqT f.ty g.ty))):PureOk Tryz.prog Γ 59 [.ag (aZ f),.ag (aZ g)] (.bool (eqF f g)):=by
 obtain⟨v,hv⟩:∃v,v=eqF f g:=⟨_,rfl⟩
 rw[←hv]
 unfold eqF at hv
 generalize eqT f.ty g.ty=p1 at *
 refine Y2 24 Tryz.func59 rfl rfl fun a hl g0 g1=>?_
 repeat' first|refine G1 ?_|(refine G2 ?_ ?_<;>intro hc hd<;>try exact hd.elim)|fail
 all_goals (try (refine aC h ?_))
 clear h
 all_goals (repeat' first|refine G1 ?_|(refine G2 ?_ ?_<;>intro hc hd<;>try exact hd.elim)|fail)
 all_goals first|(have e:v=true:=(by grind [List.length_eq_zero_iff,aL,aN,aM,aY]);(try clear hv);(try clear hv2);exact⟨by simp,.bool v,1,by simp[Tryz.f59, *],rfl⟩)|(have e:v=false:=(by grind [List.length_eq_zero_iff,aL,aN,aM,aY]);(try clear hv);(try clear hv2);exact⟨by simp,.bool v,1,by simp[Tryz.f59, *],rfl⟩)|(exact⟨by simp,.bool v,1,(by simp[Tryz.f59, *]<;>grind [List.length_eq_zero_iff,aL,aN,aM]),rfl⟩)
theorem f22 (t u:Ty)(ht:wT t<big)(hu:wT u<big):PureOk Tryz.prog Γ 22 [.ag (cTy t),.ag (cTy u)] (.bool (eqT t u)):=by
 induction t using Ty.ind generalizing u with
 |h t ih1 ih2=>
 have a1:=dP t
 have a2:=jL t
 have a3:=qD t
 have b1:=dP u
 have b2:=jL u
 have b3:=qD u
 have h1:=f57 Γ t.names u.names (by simp only[big] at *;omega) (by simp only[big] at *;omega)
 have h2:=f58 Γ t.fields u.fields eqF (by simp only[big] at *;omega) (by simp only[big] at *;omega) 59 [] [] (fun f hf g hg=>f59 Γ f g (ih1 f hf g.ty (by have:=fG hf;simp only[big] at *;omega) (by have:=fG hg;simp only[big] at *;omega))) (by kernel_rfl) rfl rfl
 have h3:=f60 Γ t.of u.of eqT (by simp only[big] at *;omega) (by simp only[big] at *;omega) 22 [] [] (fun f hf g hg=>ih2 f hf g (by have:=lc hf;simp only[big] at *;omega) (by have:=lc hg;simp only[big] at *;omega)) (by kernel_rfl) rfl rfl
 obtain⟨v,hv⟩:∃v,v=eqT t u:=⟨_,rfl⟩
 rw[←hv]
 rw[yB] at hv
 clear ih1 ih2 a1 a2 a3 b1 b2 b3 ht hu
 generalize di (fun x y=>decide (x=y)) t.names u.names=p1 at *
 generalize di eqF t.fields u.fields=p2 at *
 generalize di eqT t.of u.of=p3 at *
 refine Y2 45 Tryz.func22 rfl rfl fun a hl g0 g1=>?_
 repeat' first|refine G1 ?_|(refine G2 ?_ ?_<;>intro hc hd<;>try exact hd.elim)|fail
 all_goals (try (refine aC h1 ?_))
 clear h1
 all_goals (repeat' first|refine G1 ?_|(refine G2 ?_ ?_<;>intro hc hd<;>try exact hd.elim)|fail)
 all_goals (try (refine aC h2 ?_))
 clear h2
 all_goals (repeat' first|refine G1 ?_|(refine G2 ?_ ?_<;>intro hc hd<;>try exact hd.elim)|fail)
 all_goals (try (refine aC h3 ?_))
 clear h3
 all_goals (repeat' first|refine G1 ?_|(refine G2 ?_ ?_<;>intro hc hd<;>try exact hd.elim)|fail)
 all_goals first|(have e:v=true:=(by grind [List.length_eq_zero_iff,aL,aN,aM,aY]);(try clear hv);(try clear hv2);exact⟨by simp,.bool v,1,by simp[Tryz.f22, *],rfl⟩)|(have e:v=false:=(by grind [List.length_eq_zero_iff,aL,aN,aM,aY]);(try clear hv);(try clear hv2);exact⟨by simp,.bool v,1,by simp[Tryz.f22, *],rfl⟩)|(exact⟨by simp,.bool v,1,(by simp[Tryz.f22, *]<;>grind [List.length_eq_zero_iff,aL,aN,aM]),rfl⟩)
theorem vx (t u:Ty):eqT t u=true↔t=u:=by
 have key:∀{α:Type} {p:α→α→Bool} (l m:List α),(∀x∈l,∀y,p x y=true↔x=y)→(di p l m=true↔l=m):=by
  intro α p l
  induction l with
  |nil=>intro m _;cases m<;>simp[di]
  |cons x l ih=>
   intro m h
   cases m with
   |nil=>simp[di]
   |cons y m=>simp only[di,Bool.and_eq_true,h x (by simp) y,ih m (fun z hz=>h z (by simp[hz])),List.cons.injEq]
 induction t using Ty.ind generalizing u with
 |h t ih1 ih2=>
 rw[yB]
 simp only[Bool.and_eq_true,decide_eq_true_eq,rk]
 rw[key t.fields u.fields (fun f hf g=>by
  have:=ih1 f hf g.ty
  rcases f with ⟨n,o,t1⟩
  rcases g with ⟨n',o',t2⟩
  replace this:eqT t1 t2=true↔t1=t2:=this
  show(decide (n=n')&&decide (o=o')&&eqT t1 t2)=true↔_
  rw[Bool.and_eq_true,Bool.and_eq_true,decide_eq_true_eq,decide_eq_true_eq,this,Fld.mk.injEq,and_assoc]),key t.of u.of ih2]
 cases t;cases u
 simp only[Ty.kind,Ty.lo,Ty.hi,Ty.names,Ty.fields,Ty.of,Ty.mk.injEq,and_assoc]
theorem f264 (f:Fld)(n:Str):PureOk Tryz.prog Γ 264 [.ag (aZ f),.pp [.str n]] (.bool (decide (f.name=n))):=by
 refine Y2 8 Tryz.func264 rfl rfl fun a hl g0 g1=>?_
 repeat' first|refine G1 ?_|(refine G2 ?_ ?_<;>intro hc hd<;>try exact hd.elim)|fail
 all_goals first|(refine⟨by simp,.bool (decide (f.name=n)),1,?_,rfl⟩;(simp[Tryz.f264, *]<;>grind [List.length_eq_zero_iff]);done)|skip
theorem f189 (t:Ty)(n:Str)(hb:wT t<big):PureOk Tryz.prog Γ 189 [.ag (cTy t),.str n] (.int .i64 (if t.kind=1 then bg (fun f=>decide (f.name=n)) t.fields 0 else -1)):=by
 have hb1:=dP t
 have h1:=f263 Γ t.fields (fun f=>decide (f.name=n)) (by simp only[big] at *;omega) 264 [] [.pp [.str n]] (fun x hx=>f264 Γ x n) (by kernel_rfl) rfl rfl
 obtain⟨v,hv⟩:∃v,v=if t.kind=1 then bg (fun f=>decide (f.name=n)) t.fields 0 else -1:=⟨_,rfl⟩
 rw[←hv]
 generalize bg (fun f=>decide (f.name=n)) t.fields 0=p1 at *
 clear hb hb1
 refine Y2 12 Tryz.func189 rfl rfl fun a hl g0 g1=>?_
 repeat' first|refine G1 ?_|(refine G2 ?_ ?_<;>intro hc hd<;>try exact hd.elim)|fail
 all_goals first|((exact⟨by simp,.int .i64 v,1,(by simp[Tryz.f189, *]<;>grind [List.length_eq_zero_iff,aL,aN,aM]),rfl⟩))|skip
 refine fk 100 h1 ?_ ⟨[sls aZ t.fields,.fn 264 [] [.pr 1 0]],by simp[*],by simp[vwL,vw,V.get]⟩
 clear h1
 repeat' first|refine G1 ?_|(refine G2 ?_ ?_<;>intro hc hd<;>try exact hd.elim)|fail
 (exact⟨by simp,.int .i64 v,1,(by simp[Tryz.f189, *]<;>grind [List.length_eq_zero_iff,aL,aN,aM]),rfl⟩)
end
end Go.V
end
section
namespace Go.V
open Go Go.Proofs
def mvT (N M:Nat)(mv:List (Nat×Nat))(i:Nat):Nat:=
 match mv.find? (fun p=>p.1==i) with
 |some p=>p.2
 |none=>if i<N then i else i+M
def qP (N M:Nat)(mv:List (Nat×Nat)):Bool:=(mv.all fun p=>decide (N≤p.2)&&decide (p.2<M))&&decide (mv.map (·.2)).Nodup
def mvP (N M:Nat)(mv:List (Nat×Nat))(ρ:Pl):Pl:=fun j=>
 match mv.find? (fun p=>p.2==j) with
 |some p=>ρ p.1
 |none=>if j<N then ρ j else if j<M then none else ρ (j-M)
theorem yE {mv:List (Nat×Nat)}(hn:(mv.map (·.2)).Nodup){p:Nat×Nat}(hp:p∈mv):mv.find? (fun q=>q.2==p.2)=some p:=by
 induction mv with
 |nil=>cases hp
 |cons q r ih=>
  simp only[List.map_cons,List.nodup_cons] at hn
  rw[List.find?_cons]
  rcases List.mem_cons.1 hp with rfl|hp
  ·
   simp
  ·
   have:(q.2==p.2)=false:=by
    simp only[beq_eq_false_iff_ne,ne_eq]
    intro e
    exact hn.1 (by rw[e];exact List.mem_map.2 ⟨p,hp,rfl⟩)
   rw[this]
   exact ih hn.2 hp
theorem oN {N M:Nat}{mv:List (Nat×Nat)}(hNM:N≤M)(hok:qP N M mv=true)(ρ:Pl)(i:Nat)(L:Loc)(h:ρ i=some L):mvP N M mv ρ (mvT N M mv i)=some L:=by
 unfold qP at hok
 simp only[Bool.and_eq_true,List.all_eq_true,decide_eq_true_eq] at hok
 obtain⟨ho1,ho2⟩:=hok
 unfold mvT
 cases hf:mv.find? (fun p=>p.1==i) with
 |some p=>
  have h1:=List.mem_of_find?_eq_some hf
  have h2:p.1=i:=by simpa using List.find?_some hf
  simp only[mvP,yE ho2 h1,h2,h]
 |none=>
  simp only
  have hnone:∀j,(j<N∨M≤j)→mv.find? (fun p=>p.2==j)=none:=by
   intro j hj
   rw[List.find?_eq_none]
   intro p hp
   have:=ho1 p hp
   simp only[beq_iff_eq]
   omega
  by_cases hi:i<N
  ·
   simp only[mvP,if_pos hi,hnone i (.inl hi),h]
  ·
   rw[if_neg hi]
   simp only[mvP,hnone (i+M) (.inr (by omega)),if_neg (show ¬i+M<N by omega),if_neg (show ¬i+M<M by omega),Nat.add_sub_cancel,h]
theorem kl {N M:Nat}{mv:List (Nat×Nat)}(hok:qP N M mv=true)(ρ:Pl){j:Nat}(hj:j<N):mvP N M mv ρ j=ρ j:=by
 unfold qP at hok
 simp only[Bool.and_eq_true,List.all_eq_true,decide_eq_true_eq] at hok
 have:mv.find? (fun p=>p.2==j)=none:=by
  rw[List.find?_eq_none]
  intro p hp
  have:=hok.1 p hp
  simp only[beq_iff_eq]
  omega
 simp only[mvP,this,if_pos hj]
section
variable {P:Program} {Γ:Glo P}
theorem Mem.ren {F:Fro}{ρ ρ2:Pl}{τ:Nat→Nat}{h:Heap}{w0 w:World}{O:Nat→Prop}(m:Mem P F ρ h w0 O w)(hτ:∀i L,ρ i=some L→ρ2 (τ i)=some L)(hn:dZ h=true):Mem P F ρ2 (bF τ h) w0 O w:=by
 have hn2:(h.map (·.1)).Nodup:=by simpa[dZ] using hn
 have back:∀j c,get (bF τ h) j=some c→∃i b L x,get h i=some b∧j=τ i∧c=b9 τ b∧ρ i=some L∧F L.b=none∧w.heap[L.b]?=some x∧BRel P F ρ L b x:=by
  intro j c hg
  obtain⟨p,hp,q1,q2,_⟩:=jU hg
  have hg2:=pB hn2 hp
  obtain⟨L,x,a1,a2,a3,a4⟩:=m.own _ _ hg2
  exact⟨p.1,p.2,L,x,hg2,q1.symm,q2,a1,a2,a3,a4⟩
 refine⟨m.fro,fun j c hg=>?_,fun j j' Lj Lj' hj hj' hLj hLj' hbb=>?_,fun j L hj hL=>?_,m.fr⟩
 ·
  obtain⟨i,b,L,x,a1,rfl,rfl,a4,a5,a6,a7⟩:=back j c hg
  refine⟨L,x,hτ i L a4,a5,a6,?_⟩
  cases b with
  |cells cs t o=>
   obtain⟨c,g1,g2,g3,g4,g5⟩:=a7
   refine⟨c,g1,g2,g3,?_,by rw[eA];exact g5⟩
   rw[eA]
   exact RelL.ren hτ _ _ g4
  |map es=>
   obtain⟨ents,clock,g1,g2,hborn⟩:=a7
   exact⟨ents,clock,g1,MapRel.ren hτ _ _ g2,hborn⟩
 ·
  cases h1:get (bF τ h) j with
  |none=>rw[h1] at hj;cases hj
  |some c=>
   cases h2':get (bF τ h) j' with
   |none=>rw[h2'] at hj';cases hj'
   |some c'=>
    obtain⟨i,b,L,x,a1,rfl,_,a4,_⟩:=back j c h1
    obtain⟨i',b',L',x',a1',rfl,_,a4',_⟩:=back j' c' h2'
    rw[hτ i L a4] at hLj;cases hLj
    rw[hτ i' L' a4'] at hLj';cases hLj'
    rw[m.inj i i' _ _ (by simp[a1]) (by simp[a1']) a4 a4' hbb]
 ·
  cases h1:get (bF τ h) j with
  |none=>rw[h1] at hj;cases hj
  |some c=>
   obtain⟨i,b,L',x,a1,rfl,_,a4,_⟩:=back j c h1
   rw[hτ i L' a4] at hL;cases hL
   exact m.ours i L (by simp[a1]) a4
theorem CallOk.mv {f:FuncId}{vs:List Val}{hs h2:Heap}{N N':Nat}{r:Val}(mv:List (Nat×Nat))(M:Nat)(hk:CallOk P Γ f vs hs N true r h2 N')(hNM:N≤M)(hok:qP N M mv=true)(hko:dZ h2=true)(hl:(aR M (au (mvT N M mv) r)&&bc M (bF (mvT N M mv) h2))=true) :
  CallOk P Γ f vs hs N true (au (mvT N M mv) r) (bF (mvT N M mv) h2) M:=by
 rw[Bool.and_eq_true] at hl
 refine⟨hNM,fun F ρ w0 O w xs hG m hf hv=>?_⟩
 refine Calls.mono (hk.2 F ρ w0 O w xs hG m (fun i hi _=>hf i hi (.inl rfl)) hv) ?_
 rintro e w' ⟨F',ρ',x,h1,hx,h3,h4⟩
 have hτ:=oN hNM hok ρ'
 refine⟨F',cut (mvP N M mv ρ') M,x,h1,⟨hx.f,fun i L hi=>?_,hx.new,fun i hi=>?_⟩,Rel.cut _ _ hl.1 (Rel.ren hτ _ _ h3),(h4.ren hτ hko).cut hl.2⟩
 ·
  have hi':i<N:=by
   rcases Nat.lt_or_ge i N with h|h
   ·
    exact h
   ·
    rw[hf i h (.inl rfl)] at hi;cases hi
  unfold cut
  rw[if_pos (by omega),kl hok _ hi']
  exact hx.p i L hi
 ·
  unfold cut
  by_cases hi':i<N
  ·
   rw[if_pos (by omega),kl hok _ hi',hx.out i (by omega)]
  ·
   rw[if_neg (by omega),hf i (by omega) (.inl rfl)]
theorem oU (D:List (Nat×Nat))(L:List Nat)(N1:Nat)(I:Nat→List Val→Heap→Prop){c:Code}{Q:Post}{k:Nat}{a0:List Val}{h0:Heap}{N0:Nat}(hN:N0≤N1)(hI0:I k a0 h0)
  (hI:∀a1:List Val,(∀t v,lk a0 t=some v→lk a1 t=some v)→a1.length=a0.length→∀k a h,Frm (D++L.map fun t=>(t,t)) a1 a→I k a h→
   W P Γ c a h N1 (eD (fun a' h' _=>Frm (D++L.map fun t=>(t,t)) a1 a'∧∃mv h2,(∀i b,get h2 i=some b→get h' i=some b)∧qP N0 N1 mv=true∧dZ h2=true∧(∀t∈L,∀v,lk a' t=some v→aR N1 (au (mvT N0 N1 mv) v)=true)∧
    bc N1 (bF (mvT N0 N1 mv) h2)=true∧∃j,k=j+1∧∀a2,Frm (D++L.map fun t=>(t,t)) a' a2→(∀t∈L,lk a2 t=(lk a' t).map (au (mvT N0 N1 mv)))→I j a2 (bF (mvT N0 N1 mv) h2)) Q)):W P Γ (.loop c) a0 h0 N0 Q:=by
 intro F ρ w0 O w act hG m hf ha hd
 have hfn:∀i,N0≤i→ρ i=none:=fun i hi=>hf i hi (.inl rfl)
 have mono:∀n Q1 Q2 act w,(∀e a w,Q1 e a w→Q2 e a w)→Code.rounds P c Q1 n act w→Code.rounds P c Q2 n act w:=by
  intro n
  induction n with
  |zero=>intro _ _ _ _ _ h;exact h.elim
  |succ n ihn=>
   intro Q1 Q2 act w hq hr
   rw[rounds_succ] at hr ⊢
   refine wp_mono hr ?_
   intro e a w he
   cases e with
   |normal=>exact ihn Q1 Q2 a w hq he
   |exit id=>exact hq _ _ _ he
   |goto l=>exact hq _ _ _ he
   |ret=>exact hq _ _ _ he
   |panic ch=>exact hq _ _ _ he
   |outgrown=>exact hq _ _ _ he
 have hlow0:aa N0 a0=true:=RelL.low hfn _ _ ha
 have lowAt:∀t v,lk a0 t=some v→aR N0 v=true:=by
  have key:∀(l:List Val) (t:Nat) (v:Val),aa N0 l=true→l[t]?=some v→aR N0 v=true:=by
   intro l
   induction l with
   |nil=>intro t v _ h;simp at h
   |cons x l ih=>
    intro t v h1 h2
    simp only[aa,Bool.and_eq_true] at h1
    cases t with
    |zero=>simp at h2;subst h2;exact h1.1
    |succ t=>exact ih t v h1.2 (by simpa using h2)
  intro t v h
  exact key a0 t v hlow0 h
 refine wp_loop_rounds (k+1) ?_
 have key:∀n a h F ρk w act,Ext F F ρ ρk w0 O N0 N1→Frm (D++L.map fun t=>(t,t)) a0 a→I n a h→GOk F Γ→Mem P F ρk h w0 O w→RelL F ρk a act.tmps.toList→act.defers=[]→Code.rounds P c (Conc P Q F ρ w0 O N0) (n+1) act w:=by
  intro n
  induction n with
  |zero=>
   intro a h F ρk w act hx hF hi hG m ha hd
   have hfk:Fresh' ρk N1 N1 true:=fun i hi _=>by rw[hx.out i (by omega)];exact hfn i (by omega)
   rw[rounds_succ]
   refine wp_mono (jq (hI a0 (fun _ _ h=>h) rfl 0 a h hF hi) hG m hfk ha hd (next:=fun _ _=>False) ?_) ?_
   ·
    rintro F' ρ' a' h' N' act' w' g1 g2 g3 g4 g5 ⟨_,_,_,_,_,_,_,_,j,hj,_⟩
    omega
   ·
    intro e a w he
    cases e with
    |normal=>exact he.elim
    |exit id=>exact Conc.later hx hN he
    |goto l=>exact Conc.later hx hN he
    |ret=>exact Conc.later hx hN he
    |panic ch=>exact Conc.later hx hN he
    |outgrown=>exact Conc.later hx hN he
  |succ n ih=>
   intro a h F ρk w act hx hF hi hG m ha hd
   have hfk:Fresh' ρk N1 N1 true:=fun i hi _=>by rw[hx.out i (by omega)];exact hfn i (by omega)
   rw[rounds_succ]
   have fin:∀(e:Exit) (a:Act) (w:World),Exit.then (fun act w=>Code.rounds P c (Conc P Q F ρ w0 O N0) (n+1) act w) (Conc P Q F ρk w0 O N1) e a w→Exit.then (Code.rounds P c (Conc P Q F ρ w0 O N0) (n+1)) (Conc P Q F ρ w0 O N0) e a w:=by
    intro e a w he
    cases e with
    |normal=>exact he
    |exit id=>exact Conc.later hx hN he
    |goto l=>exact Conc.later hx hN he
    |ret=>exact Conc.later hx hN he
    |panic ch=>exact Conc.later hx hN he
    |outgrown=>exact Conc.later hx hN he
   refine wp_mono (jq (hI a0 (fun _ _ h=>h) rfl (n+1) a h hF hi) hG m hfk ha hd (next:=fun act w=>Code.rounds P c (Conc P Q F ρ w0 O N0) (n+1) act w) ?_) fin
   rintro F' ρ' a' h' N' act' w' g1 g2 g3 g4 g5 ⟨q1,mv,h2,q3,qok,qko,qL,q4,j,hj,q5⟩
   have hjn:j=n:=by omega
   subst hjn
   have hτ:=oN hN qok ρ'
   let ρ3:Pl:=cut (mvP N0 N1 mv ρ') N1
   have hlow3:∀i,i<N0→ρ3 i=ρ i:=by
    intro i hi
    show(if i<N1 then mvP N0 N1 mv ρ' i else none)=ρ i
    rw[if_pos (by omega),kl qok _ hi,g2.out i (by omega),hx.out i (by omega)]
   have hhigh3:∀i,N1≤i→ρ3 i=none:=by
    intro i hi
    show(if i<N1 then mvP N0 N1 mv ρ' i else none)=none
    rw[if_neg (by omega)]
   have hx3:Ext F F' ρ ρ3 w0 O N0 N1:=by
    refine⟨g2.f,fun i L hi=>?_,fun b c hb=>g2.new b c hb,fun i hi=>?_⟩
    ·
     have hi':i<N0:=by
      rcases Nat.lt_or_ge i N0 with h|h
      ·
       exact h
      ·
       rw[hfn i h] at hi;cases hi
     rw[hlow3 i hi'];exact hi
    ·
     by_cases hi':i<N0
     ·
      exact hlow3 i hi'
     ·
      rw[hhigh3 i (by omega),hfn i (by omega)]
   have hcut:PLe (cut ρ' N0) ρ3:=by
    intro i L hi
    unfold cut at hi
    split at hi
    ·
     rename_i hi'
     rw[hlow3 i hi',←hi,g2.out i (by omega),hx.out i (by omega)]
    ·
     cases hi
   have hl3:=g3.length
   let a2:List Val:=act'.tmps.toList.mapIdx fun t x=>if L.contains t=true then au (mvT N0 N1 mv) ((a'[t]?).getD uv) else if inM D t=true then .jk x else (a'[t]?).getD uv
   have hl2:a2.length=act'.tmps.toList.length:=by simp[a2]
   have hat:∀t v,a2[t]?=some v→∃x,act'.tmps.toList[t]?=some x∧v=if L.contains t=true then au (mvT N0 N1 mv) ((a'[t]?).getD uv) else if inM D t=true then .jk x else (a'[t]?).getD uv:=by
    intro t v hv
    simp only[a2,List.getElem?_mapIdx] at hv
    cases hx:act'.tmps.toList[t]? with
    |none=>rw[hx] at hv;cases hv
    |some x=>rw[hx] at hv;simp only[Option.map_some,Option.some.injEq] at hv;exact⟨x,rfl,hv.symm⟩
   have hlt':∀t x,act'.tmps.toList[t]?=some x→t<a'.length:=by
    intro t x hx
    rw[←hl3]
    rcases Nat.lt_or_ge t act'.tmps.toList.length with h|h
    ·
     exact h
    ·
     rw[List.getElem?_eq_none h] at hx;cases hx
   have hF2:Frm (D++L.map fun t=>(t,t)) a' a2:=by
    refine⟨by rw[hl2,hl3],fun t ht=>?_⟩
    rw[gI,kD,Bool.or_eq_false_iff] at ht
    unfold lk
    cases hv:a2[t]? with
    |none=>
     rw[List.getElem?_eq_none_iff] at hv
     exact(List.getElem?_eq_none_iff.2 (by omega)).symm
    |some v=>
     obtain⟨x,hx,rfl⟩:=hat t v hv
     rw[if_neg (by simp[-List.contains_eq_mem,ht.2]),if_neg (by simp[ht.1]),List.getElem?_eq_getElem (hlt' t x hx)]
     rfl
   have hFL:∀t∈L,lk a2 t=(lk a' t).map (au (mvT N0 N1 mv)):=by
    intro t ht
    unfold lk
    cases hv:a2[t]? with
    |none=>
     rw[List.getElem?_eq_none_iff] at hv
     rw[List.getElem?_eq_none_iff.2 (by omega)]
     rfl
    |some v=>
     obtain⟨x,hx,rfl⟩:=hat t v hv
     rw[if_pos (by simpa using ht),List.getElem?_eq_getElem (hlt' t x hx)]
     rfl
   have hr2:RelL F' ρ3 a2 act'.tmps.toList:=by
    refine RelL.of_get hl2 fun t v x hv hx=>?_
    obtain⟨y,hy,rfl⟩:=hat t v hv
    rw[hx] at hy;cases hy
    have hlt:=hlt' t x hx
    have hv':a'[t]?=some a'[t]:=List.getElem?_eq_getElem hlt
    obtain⟨z,hz1,hz2⟩:=g3.get hv'
    rw[hx] at hz1;cases hz1
    rw[hv']
    by_cases hL:L.contains t=true
    ·
     rw[if_pos hL]
     exact Rel.cut _ _ (qL t (by simpa using hL) _ hv') (Rel.ren hτ _ _ hz2)
    ·
     rw[if_neg hL]
     by_cases ht:inM D t=true
     ·
      rw[if_pos ht];simp[Rel]
     ·
      rw[if_neg ht]
      have hlow:aR N0 a'[t]=true:=by
       refine lowAt t _ ?_
       rw[←q1.same t (by rw[gI,kD];simp only[Bool.not_eq_true] at ht hL;rw[ht,hL];rfl)]
       exact hv'
      exact Rel.mono (FLe.refl _) hcut _ _ (Rel.cut _ _ hlow hz2)
   have hm2:Mem P F' ρ3 (bF (mvT N0 N1 mv) h2) w0 O w':=((g5.sub q3).ren hτ qko).cut q4
   have hFr:Frm (D++L.map fun t=>(t,t)) a0 a2:=q1.trans hF2 (fun t ht=>by simpa using ht)
   have hxF:Ext F' F' ρ ρ3 w0 O N0 N1:=⟨FLe.refl _,hx3.p,fun b c hb=>.inl hb,hx3.out⟩
   refine mono _ _ _ _ _ (fun e a w hc=>Conc.later ⟨g2.f,PLe.refl ρ,g2.new,fun _ _=>rfl⟩ (Nat.le_refl _) hc) (ih a2 (bF (mvT N0 N1 mv) h2) F' ρ3 w' act' hxF hFr (q5 a2 hF2 hFL) (hG.mono g2.f) hm2 hr2 g4)
 exact key k a0 h0 F ρ w act ⟨FLe.refl _,PLe.refl _,fun _ _ h=>.inl h,fun _ _=>rfl⟩ (Frm.refl _ _) hI0 hG m ha hd
end
attribute [simp] mvT qP dZ
end Go.V
end
