/-
  A part of a proof: A12 A13 N1 N2.
-/
import Derived.Test.YtkfjenbfbendhaaGreatDoorLk27
set_option linter.unusedSimpArgs false
set_option linter.unusedVariables false
section
set_option maxHeartbeats 4000000
namespace Go.V
open Go Go.Proofs
attribute [local irreducible] W bO WD aO yl aS bW
section
variable (Γ:Glo Tryz.prog)
attribute [local simp] veq bP ei V.del Bi Bj zU Bh
theorem ij {t:Ty}{m:List Lns}(h:(bC t m).2.2=0):ak m≤8:=by
 rcases Nat.lt_or_ge 8 (ak m) with h8|h8
 ·
  exfalso
  unfold bC at h
  by_cases h1:bq t=false∨t.kind≠1
  ·
   rw[if_pos h1] at h;cases h
  ·
   rw[if_neg h1] at h
   by_cases h2:64<bJ m
   ·
    rw[if_pos h2] at h;cases h
   ·
    rw[if_neg h2,if_pos h8] at h;cases h
 ·
  exact h8
theorem f32x (X:XOk Γ)(H:iO Γ)(t:Ty)(l:List Lns)(e:Int)(bk:Bool)(s:St)(w:Wlk)(f:Flds)(ht:wT t<big)(hl:wNs l<30000000000)(hs:wRs s.res+wD s.doc<20000000000)(he:(bC t (if bk then bU l else l)).2.2=0)(hr:br s.res=true)(hv:cQ t s.doc=true)(ho:okK s.doc=true)(hrun:ej e bk l 0 [] [] ⟨s.res,[],0⟩ (ofD s.doc)=some (w,f))(herr:w.err≠0) :
  PureOk Tryz.prog Γ 32 [.ag (cTy t),sls aK l,.int .i64 e,.bool bk,.ag (cSt s)] (goV da [] w.err):=by
 refine PureOk.wk (r:=goE _) ?_ (nB _)
 unfold goE
 have h75:=f75 Γ s.res (by unfold big;omega)
 rw[hr] at h75
 have h11:=H t s.doc ht (by unfold big;omega)
 rw[hv] at h11
 have h33:=f33 Γ s (by unfold big;omega)
 rw[ez] at h33
 have hdep:ak l≤8:=by
  have h0:=ij he
  cases bk
  ·
   simpa using h0
  ·
   simpa[e9] using h0
 have k76:=(oE Γ X H l hl e bk [] [] ⟨s.res,[],0⟩ s.doc w f ho (by unfold big;omega) (by simp;omega) (by simp;omega) hrun).2
 unfold plV at k76
 replace k76:=CallOk.arg Γ k76 (vs:=[.pr 0 0,sls aK l,.ag (aH s.doc),.ag [.nils,.nils]]) ⟨Wk.refl _,Wk.refl _,Wk.refl _,Wk.ag ⟨Wk.nils,Wk.nils,trivial⟩,trivial⟩
 have hsm:d9 w f=true:=by cases bk;exact(gl hrun).2.1;exact(gk hrun).2.1
 have hsm':wRs w.res+wRs w.needs+wF f<10000000000:=by unfold d9 lim at hsm;exact of_decide_eq_true hsm
 have j75:=f75 Γ w.res (by unfold big;omega)
 have j77:=f77 Γ (ar f) (by rw[gA];unfold big;omega)
 have hd5:List.take 5 (aH s.doc++[sls ac s.res])=aH s.doc:=List.take_left' (bS s.doc)
 have hd6:List.take 6 (aH s.doc++[sls ac s.res])=aH s.doc++[sls ac s.res]:=List.take_of_length_le (by simp)
 have hdr6:List.drop 6 (aH s.doc++[sls ac s.res])=[]:=List.drop_eq_nil_of_le (by simp)
 have hf5:List.take 5 (aH (ar f))=aH (ar f):=List.take_of_length_le (by simp)
 have h74:=f74' Γ l (by unfold big;omega)
 have h9:=f9 Γ H t (if bk then bU l else l) ht (by cases bk<;>simp[gB]<;>omega)
 unfold i8 at h9
 have ht6:List.take 6 (cTy t)=cTy t:=List.take_of_length_le (by rw[bH];omega)
 rw[he] at h9
 generalize (bC t (if bk then bU l else l)).1=u at *
 generalize (bC t (if bk then bU l else l)).2.1=kk at *
 have hnc:(gR ac w.needs).closed=true:=by cases w.needs<;>simp[gR,Val.closed,sls]
 unfold cW at k76
 rw[show gR ac (⟨s.res,[],0⟩:Wlk).needs=Val.nils from rfl] at k76
 simp only at k76
 generalize gR ac w.needs=nd at *
 rw[ez]
 clear he hr hv ho hrun hdep hsm hsm' hs
 cases bk
 ·
  have k:=k76.ren [37] 44 rfl (by simp[cm,fU,aa,aR,aD]) (by simp) (by simp)
  simp[bF,b9,bu,au,tau,aJ,cg _ _ hnc] at k
  clear k76
  simp only[Bool.false_eq_true,if_false,if_true] at h9
  refine Y5 96 Tryz.func32 rfl rfl fun a hl g0 g1 g2 g3 g4=>?_
  repeat' first|refine G1 ?_|(refine G2 ?_ ?_<;>intro hc hd<;>try exact hd.elim)|fail
  all_goals (try (refine aC h74 ?_))
  repeat' first|refine G1 ?_|(refine G2 ?_ ?_<;>intro hc hd<;>try exact hd.elim)|fail
  all_goals (try (refine aC h9 ?_))
  repeat' first|refine G1 ?_|(refine G2 ?_ ?_<;>intro hc hd<;>try exact hd.elim)|fail
  all_goals (try (refine aC h75 ?_))
  repeat' first|refine G1 ?_|(refine G2 ?_ ?_<;>intro hc hd<;>try exact hd.elim)|fail
  all_goals (try (refine aC h11 ?_))
  repeat' first|refine G1 ?_|(refine G2 ?_ ?_<;>intro hc hd<;>try exact hd.elim)|fail
  all_goals (try (refine aC h33 ?_))
  repeat' first|refine G1 ?_|(refine G2 ?_ ?_<;>intro hc hd<;>try exact hd.elim)|fail
  refine av k ?_
  repeat' first|refine G1 ?_|(refine G2 ?_ ?_<;>intro hc hd<;>try exact hd.elim)|fail
  exact⟨by simp,.tp [.ag [.int .i64 0,.int .i64 0,.str [],.nils,.nils,.nils],.nils,.int .i64 w.err],5,by simp[Tryz.f32,V.get, *],by simp[vw,Val.closed,aE]⟩
 ·
  have k:=k76.ren [39] 46 rfl (by simp[cm,fU,aa,aR,aD]) (by simp) (by simp)
  simp[bF,b9,bu,au,tau,aJ,cg _ _ hnc] at k
  clear k76
  simp only[Bool.false_eq_true,if_false,if_true] at h9
  refine Y5 96 Tryz.func32 rfl rfl fun a hl g0 g1 g2 g3 g4=>?_
  repeat' first|refine G1 ?_|(refine G2 ?_ ?_<;>intro hc hd<;>try exact hd.elim)|fail
  all_goals (try (refine aC h74 ?_))
  repeat' first|refine G1 ?_|(refine G2 ?_ ?_<;>intro hc hd<;>try exact hd.elim)|fail
  all_goals (try (refine aC h9 ?_))
  repeat' first|refine G1 ?_|(refine G2 ?_ ?_<;>intro hc hd<;>try exact hd.elim)|fail
  all_goals (try (refine aC h75 ?_))
  repeat' first|refine G1 ?_|(refine G2 ?_ ?_<;>intro hc hd<;>try exact hd.elim)|fail
  all_goals (try (refine aC h11 ?_))
  repeat' first|refine G1 ?_|(refine G2 ?_ ?_<;>intro hc hd<;>try exact hd.elim)|fail
  all_goals (try (refine aC h33 ?_))
  repeat' first|refine G1 ?_|(refine G2 ?_ ?_<;>intro hc hd<;>try exact hd.elim)|fail
  refine av k ?_
  repeat' first|refine G1 ?_|(refine G2 ?_ ?_<;>intro hc hd<;>try exact hd.elim)|fail
  exact⟨by simp,.tp [.ag [.int .i64 0,.int .i64 0,.str [],.nils,.nils,.nils],.nils,.int .i64 w.err],5,by simp[Tryz.f32,V.get, *],by simp[vw,Val.closed,aE]⟩
theorem f32y (X:XOk Γ)(H:iO Γ)(t:Ty)(l:List Lns)(e:Int)(bk:Bool)(s:St)(w:Wlk)(f:Flds)(ht:wT t<big)(hl:wNs l<30000000000)(hs:wRs s.res+wD s.doc<20000000000)(he:(bC t (if bk then bU l else l)).2.2=0)(hr:br s.res=true)(hv:cQ t s.doc=true)(ho:okK s.doc=true)(hrun:ej e bk l 0 [] [] ⟨s.res,[],0⟩ (ofD s.doc)=some (w,f))(herr:w.err=0)(hq:br w.res=false) :
  PureOk Tryz.prog Γ 32 [.ag (cTy t),sls aK l,.int .i64 e,.bool bk,.ag (cSt s)] (goV da [] 1):=by
 refine PureOk.wk (r:=goE _) ?_ (nB _)
 unfold goE
 have h75:=f75 Γ s.res (by unfold big;omega)
 rw[hr] at h75
 have h11:=H t s.doc ht (by unfold big;omega)
 rw[hv] at h11
 have h33:=f33 Γ s (by unfold big;omega)
 rw[ez] at h33
 have hdep:ak l≤8:=by
  have h0:=ij he
  cases bk
  ·
   simpa using h0
  ·
   simpa[e9] using h0
 have k76:=(oE Γ X H l hl e bk [] [] ⟨s.res,[],0⟩ s.doc w f ho (by unfold big;omega) (by simp;omega) (by simp;omega) hrun).2
 unfold plV at k76
 replace k76:=CallOk.arg Γ k76 (vs:=[.pr 0 0,sls aK l,.ag (aH s.doc),.ag [.nils,.nils]]) ⟨Wk.refl _,Wk.refl _,Wk.refl _,Wk.ag ⟨Wk.nils,Wk.nils,trivial⟩,trivial⟩
 have hsm:d9 w f=true:=by cases bk;exact(gl hrun).2.1;exact(gk hrun).2.1
 have hsm':wRs w.res+wRs w.needs+wF f<10000000000:=by unfold d9 lim at hsm;exact of_decide_eq_true hsm
 have j75:=f75 Γ w.res (by unfold big;omega)
 have j77:=f77 Γ (ar f) (by rw[gA];unfold big;omega)
 have hd5:List.take 5 (aH s.doc++[sls ac s.res])=aH s.doc:=List.take_left' (bS s.doc)
 have hd6:List.take 6 (aH s.doc++[sls ac s.res])=aH s.doc++[sls ac s.res]:=List.take_of_length_le (by simp)
 have hdr6:List.drop 6 (aH s.doc++[sls ac s.res])=[]:=List.drop_eq_nil_of_le (by simp)
 have hf5:List.take 5 (aH (ar f))=aH (ar f):=List.take_of_length_le (by simp)
 have h74:=f74' Γ l (by unfold big;omega)
 have h9:=f9 Γ H t (if bk then bU l else l) ht (by cases bk<;>simp[gB]<;>omega)
 unfold i8 at h9
 have ht6:List.take 6 (cTy t)=cTy t:=List.take_of_length_le (by rw[bH];omega)
 rw[he] at h9
 generalize (bC t (if bk then bU l else l)).1=u at *
 generalize (bC t (if bk then bU l else l)).2.1=kk at *
 have hnc:(gR ac w.needs).closed=true:=by cases w.needs<;>simp[gR,Val.closed,sls]
 unfold cW at k76
 rw[show gR ac (⟨s.res,[],0⟩:Wlk).needs=Val.nils from rfl] at k76
 simp only at k76
 generalize gR ac w.needs=nd at *
 rw[ez]
 rw[hq] at j75
 clear he hr hv ho hrun hdep hsm hsm' hs
 cases bk
 ·
  have k:=k76.ren [37] 44 rfl (by simp[cm,fU,aa,aR,aD]) (by simp) (by simp)
  simp[bF,b9,bu,au,tau,aJ,cg _ _ hnc] at k
  clear k76
  simp only[Bool.false_eq_true,if_false,if_true] at h9
  refine Y5 96 Tryz.func32 rfl rfl fun a hl g0 g1 g2 g3 g4=>?_
  repeat' first|refine G1 ?_|(refine G2 ?_ ?_<;>intro hc hd<;>try exact hd.elim)|fail
  all_goals (try (refine aC h74 ?_))
  repeat' first|refine G1 ?_|(refine G2 ?_ ?_<;>intro hc hd<;>try exact hd.elim)|fail
  all_goals (try (refine aC h9 ?_))
  repeat' first|refine G1 ?_|(refine G2 ?_ ?_<;>intro hc hd<;>try exact hd.elim)|fail
  all_goals (try (refine aC h75 ?_))
  repeat' first|refine G1 ?_|(refine G2 ?_ ?_<;>intro hc hd<;>try exact hd.elim)|fail
  all_goals (try (refine aC h11 ?_))
  repeat' first|refine G1 ?_|(refine G2 ?_ ?_<;>intro hc hd<;>try exact hd.elim)|fail
  all_goals (try (refine aC h33 ?_))
  repeat' first|refine G1 ?_|(refine G2 ?_ ?_<;>intro hc hd<;>try exact hd.elim)|fail
  refine av k ?_
  repeat' first|refine G1 ?_|(refine G2 ?_ ?_<;>intro hc hd<;>try exact hd.elim)|fail
  all_goals (try (refine aC j75 ?_))
  repeat' first|refine G1 ?_|(refine G2 ?_ ?_<;>intro hc hd<;>try exact hd.elim)|fail
  exact⟨by simp,.tp [.ag [.int .i64 0,.int .i64 0,.str [],.nils,.nils,.nils],.nils,.int .i64 1],5,by simp[Tryz.f32,V.get, *],by simp[vw,Val.closed,aE]⟩
 ·
  have k:=k76.ren [39] 46 rfl (by simp[cm,fU,aa,aR,aD]) (by simp) (by simp)
  simp[bF,b9,bu,au,tau,aJ,cg _ _ hnc] at k
  clear k76
  simp only[Bool.false_eq_true,if_false,if_true] at h9
  refine Y5 96 Tryz.func32 rfl rfl fun a hl g0 g1 g2 g3 g4=>?_
  repeat' first|refine G1 ?_|(refine G2 ?_ ?_<;>intro hc hd<;>try exact hd.elim)|fail
  all_goals (try (refine aC h74 ?_))
  repeat' first|refine G1 ?_|(refine G2 ?_ ?_<;>intro hc hd<;>try exact hd.elim)|fail
  all_goals (try (refine aC h9 ?_))
  repeat' first|refine G1 ?_|(refine G2 ?_ ?_<;>intro hc hd<;>try exact hd.elim)|fail
  all_goals (try (refine aC h75 ?_))
  repeat' first|refine G1 ?_|(refine G2 ?_ ?_<;>intro hc hd<;>try exact hd.elim)|fail
  all_goals (try (refine aC h11 ?_))
  repeat' first|refine G1 ?_|(refine G2 ?_ ?_<;>intro hc hd<;>try exact hd.elim)|fail
  all_goals (try (refine aC h33 ?_))
  repeat' first|refine G1 ?_|(refine G2 ?_ ?_<;>intro hc hd<;>try exact hd.elim)|fail
  refine av k ?_
  repeat' first|refine G1 ?_|(refine G2 ?_ ?_<;>intro hc hd<;>try exact hd.elim)|fail
  all_goals (try (refine aC j75 ?_))
  repeat' first|refine G1 ?_|(refine G2 ?_ ?_<;>intro hc hd<;>try exact hd.elim)|fail
  exact⟨by simp,.tp [.ag [.int .i64 0,.int .i64 0,.str [],.nils,.nils,.nils],.nils,.int .i64 1],5,by simp[Tryz.f32,V.get, *],by simp[vw,Val.closed,aE]⟩
theorem f32z (X:XOk Γ)(H:iO Γ)(t:Ty)(l:List Lns)(e:Int)(bk:Bool)(s:St)(w:Wlk)(f:Flds)(ht:wT t<big)(hl:wNs l<30000000000)(hs:wRs s.res+wD s.doc<20000000000)(he:(bC t (if bk then bU l else l)).2.2=0)(hr:br s.res=true)(hv:cQ t s.doc=true)(ho:okK s.doc=true)(hrun:ej e bk l 0 [] [] ⟨s.res,[],0⟩ (ofD s.doc)=some (w,f))(herr:w.err=0)(hq:br w.res=true)(hd:dH (ar f)=false) :
  PureOk Tryz.prog Γ 32 [.ag (cTy t),sls aK l,.int .i64 e,.bool bk,.ag (cSt s)] (goV da [] 2):=by
 refine PureOk.wk (r:=goE _) ?_ (nB _)
 unfold goE
 have h75:=f75 Γ s.res (by unfold big;omega)
 rw[hr] at h75
 have h11:=H t s.doc ht (by unfold big;omega)
 rw[hv] at h11
 have h33:=f33 Γ s (by unfold big;omega)
 rw[ez] at h33
 have hdep:ak l≤8:=by
  have h0:=ij he
  cases bk
  ·
   simpa using h0
  ·
   simpa[e9] using h0
 have k76:=(oE Γ X H l hl e bk [] [] ⟨s.res,[],0⟩ s.doc w f ho (by unfold big;omega) (by simp;omega) (by simp;omega) hrun).2
 unfold plV at k76
 replace k76:=CallOk.arg Γ k76 (vs:=[.pr 0 0,sls aK l,.ag (aH s.doc),.ag [.nils,.nils]]) ⟨Wk.refl _,Wk.refl _,Wk.refl _,Wk.ag ⟨Wk.nils,Wk.nils,trivial⟩,trivial⟩
 have hsm:d9 w f=true:=by cases bk;exact(gl hrun).2.1;exact(gk hrun).2.1
 have hsm':wRs w.res+wRs w.needs+wF f<10000000000:=by unfold d9 lim at hsm;exact of_decide_eq_true hsm
 have j75:=f75 Γ w.res (by unfold big;omega)
 have j77:=f77 Γ (ar f) (by rw[gA];unfold big;omega)
 have hd5:List.take 5 (aH s.doc++[sls ac s.res])=aH s.doc:=List.take_left' (bS s.doc)
 have hd6:List.take 6 (aH s.doc++[sls ac s.res])=aH s.doc++[sls ac s.res]:=List.take_of_length_le (by simp)
 have hdr6:List.drop 6 (aH s.doc++[sls ac s.res])=[]:=List.drop_eq_nil_of_le (by simp)
 have hf5:List.take 5 (aH (ar f))=aH (ar f):=List.take_of_length_le (by simp)
 have h74:=f74' Γ l (by unfold big;omega)
 have h9:=f9 Γ H t (if bk then bU l else l) ht (by cases bk<;>simp[gB]<;>omega)
 unfold i8 at h9
 have ht6:List.take 6 (cTy t)=cTy t:=List.take_of_length_le (by rw[bH];omega)
 rw[he] at h9
 generalize (bC t (if bk then bU l else l)).1=u at *
 generalize (bC t (if bk then bU l else l)).2.1=kk at *
 have hnc:(gR ac w.needs).closed=true:=by cases w.needs<;>simp[gR,Val.closed,sls]
 unfold cW at k76
 rw[show gR ac (⟨s.res,[],0⟩:Wlk).needs=Val.nils from rfl] at k76
 simp only at k76
 generalize gR ac w.needs=nd at *
 rw[ez]
 rw[hq] at j75
 rw[hd] at j77
 clear he hr hv ho hrun hdep hsm hsm' hs
 cases bk
 ·
  have k:=k76.ren [37] 44 rfl (by simp[cm,fU,aa,aR,aD]) (by simp) (by simp)
  simp[bF,b9,bu,au,tau,aJ,cg _ _ hnc] at k
  clear k76
  simp only[Bool.false_eq_true,if_false,if_true] at h9
  refine Y5 96 Tryz.func32 rfl rfl fun a hl g0 g1 g2 g3 g4=>?_
  repeat' first|refine G1 ?_|(refine G2 ?_ ?_<;>intro hc hd<;>try exact hd.elim)|fail
  all_goals (try (refine aC h74 ?_))
  repeat' first|refine G1 ?_|(refine G2 ?_ ?_<;>intro hc hd<;>try exact hd.elim)|fail
  all_goals (try (refine aC h9 ?_))
  repeat' first|refine G1 ?_|(refine G2 ?_ ?_<;>intro hc hd<;>try exact hd.elim)|fail
  all_goals (try (refine aC h75 ?_))
  repeat' first|refine G1 ?_|(refine G2 ?_ ?_<;>intro hc hd<;>try exact hd.elim)|fail
  all_goals (try (refine aC h11 ?_))
  repeat' first|refine G1 ?_|(refine G2 ?_ ?_<;>intro hc hd<;>try exact hd.elim)|fail
  all_goals (try (refine aC h33 ?_))
  repeat' first|refine G1 ?_|(refine G2 ?_ ?_<;>intro hc hd<;>try exact hd.elim)|fail
  refine av k ?_
  repeat' first|refine G1 ?_|(refine G2 ?_ ?_<;>intro hc hd<;>try exact hd.elim)|fail
  all_goals (try (refine aC j75 ?_))
  repeat' first|refine G1 ?_|(refine G2 ?_ ?_<;>intro hc hd<;>try exact hd.elim)|fail
  all_goals (try (refine aC j77 ?_))
  repeat' first|refine G1 ?_|(refine G2 ?_ ?_<;>intro hc hd<;>try exact hd.elim)|fail
  exact⟨by simp,.tp [.ag [.int .i64 0,.int .i64 0,.str [],.nils,.nils,.nils],.nils,.int .i64 2],5,by simp[Tryz.f32,V.get, *],by simp[vw,Val.closed,aE]⟩
 ·
  have k:=k76.ren [39] 46 rfl (by simp[cm,fU,aa,aR,aD]) (by simp) (by simp)
  simp[bF,b9,bu,au,tau,aJ,cg _ _ hnc] at k
  clear k76
  simp only[Bool.false_eq_true,if_false,if_true] at h9
  refine Y5 96 Tryz.func32 rfl rfl fun a hl g0 g1 g2 g3 g4=>?_
  repeat' first|refine G1 ?_|(refine G2 ?_ ?_<;>intro hc hd<;>try exact hd.elim)|fail
  all_goals (try (refine aC h74 ?_))
  repeat' first|refine G1 ?_|(refine G2 ?_ ?_<;>intro hc hd<;>try exact hd.elim)|fail
  all_goals (try (refine aC h9 ?_))
  repeat' first|refine G1 ?_|(refine G2 ?_ ?_<;>intro hc hd<;>try exact hd.elim)|fail
  all_goals (try (refine aC h75 ?_))
  repeat' first|refine G1 ?_|(refine G2 ?_ ?_<;>intro hc hd<;>try exact hd.elim)|fail
  all_goals (try (refine aC h11 ?_))
  repeat' first|refine G1 ?_|(refine G2 ?_ ?_<;>intro hc hd<;>try exact hd.elim)|fail
  all_goals (try (refine aC h33 ?_))
  repeat' first|refine G1 ?_|(refine G2 ?_ ?_<;>intro hc hd<;>try exact hd.elim)|fail
  refine av k ?_
  repeat' first|refine G1 ?_|(refine G2 ?_ ?_<;>intro hc hd<;>try exact hd.elim)|fail
  all_goals (try (refine aC j75 ?_))
  repeat' first|refine G1 ?_|(refine G2 ?_ ?_<;>intro hc hd<;>try exact hd.elim)|fail
  all_goals (try (refine aC j77 ?_))
  repeat' first|refine G1 ?_|(refine G2 ?_ ?_<;>intro hc hd<;>try exact hd.elim)|fail
  exact⟨by simp,.tp [.ag [.int .i64 0,.int .i64 0,.str [],.nils,.nils,.nils],.nils,.int .i64 2],5,by simp[Tryz.f32,V.get, *],by simp[vw,Val.closed,aE]⟩
theorem f32w (X:XOk Γ)(H:iO Γ)(t:Ty)(l:List Lns)(e:Int)(bk:Bool)(s:St)(w:Wlk)(f:Flds)(ht:wT t<big)(hl:wNs l<30000000000)(hs:wRs s.res+wD s.doc<20000000000)(he:(bC t (if bk then bU l else l)).2.2=0)(hr:br s.res=true)(hv:cQ t s.doc=true)(ho:okK s.doc=true)(hrun:ej e bk l 0 [] [] ⟨s.res,[],0⟩ (ofD s.doc)=some (w,f))(herr:w.err=0)(hq:br w.res=true)(hd:dH (ar f)=true) :
  PureOk Tryz.prog Γ 32 [.ag (cTy t),sls aK l,.int .i64 e,.bool bk,.ag (cSt s)] (goV ⟨ar f,w.res⟩ w.needs 0):=by
 refine PureOk.wk (r:=.tp [.ag (aH (ar f)++[sls ac w.res]),gR ac w.needs,.int .i64 0]) ?_ (Wk.tp ⟨Wk.refl _,qs ac _,Wk.refl _,trivial⟩)
 have h75:=f75 Γ s.res (by unfold big;omega)
 rw[hr] at h75
 have h11:=H t s.doc ht (by unfold big;omega)
 rw[hv] at h11
 have h33:=f33 Γ s (by unfold big;omega)
 rw[ez] at h33
 have hdep:ak l≤8:=by
  have h0:=ij he
  cases bk
  ·
   simpa using h0
  ·
   simpa[e9] using h0
 have k76:=(oE Γ X H l hl e bk [] [] ⟨s.res,[],0⟩ s.doc w f ho (by unfold big;omega) (by simp;omega) (by simp;omega) hrun).2
 unfold plV at k76
 replace k76:=CallOk.arg Γ k76 (vs:=[.pr 0 0,sls aK l,.ag (aH s.doc),.ag [.nils,.nils]]) ⟨Wk.refl _,Wk.refl _,Wk.refl _,Wk.ag ⟨Wk.nils,Wk.nils,trivial⟩,trivial⟩
 have hsm:d9 w f=true:=by cases bk;exact(gl hrun).2.1;exact(gk hrun).2.1
 have hsm':wRs w.res+wRs w.needs+wF f<10000000000:=by unfold d9 lim at hsm;exact of_decide_eq_true hsm
 have j75:=f75 Γ w.res (by unfold big;omega)
 have j77:=f77 Γ (ar f) (by rw[gA];unfold big;omega)
 have hd5:List.take 5 (aH s.doc++[sls ac s.res])=aH s.doc:=List.take_left' (bS s.doc)
 have hd6:List.take 6 (aH s.doc++[sls ac s.res])=aH s.doc++[sls ac s.res]:=List.take_of_length_le (by simp)
 have hdr6:List.drop 6 (aH s.doc++[sls ac s.res])=[]:=List.drop_eq_nil_of_le (by simp)
 have hf5:List.take 5 (aH (ar f))=aH (ar f):=List.take_of_length_le (by simp)
 have h74:=f74' Γ l (by unfold big;omega)
 have h9:=f9 Γ H t (if bk then bU l else l) ht (by cases bk<;>simp[gB]<;>omega)
 unfold i8 at h9
 have ht6:List.take 6 (cTy t)=cTy t:=List.take_of_length_le (by rw[bH];omega)
 rw[he] at h9
 generalize (bC t (if bk then bU l else l)).1=u at *
 generalize (bC t (if bk then bU l else l)).2.1=kk at *
 have hnc:(gR ac w.needs).closed=true:=by cases w.needs<;>simp[gR,Val.closed,sls]
 unfold cW at k76
 rw[show gR ac (⟨s.res,[],0⟩:Wlk).needs=Val.nils from rfl] at k76
 simp only at k76
 generalize gR ac w.needs=nd at *
 rw[ez]
 rw[hq] at j75
 rw[hd] at j77
 clear he hr hv ho hrun hdep hsm hsm' hs
 cases bk
 ·
  have k:=k76.ren [37] 44 rfl (by simp[cm,fU,aa,aR,aD]) (by simp) (by simp)
  simp[bF,b9,bu,au,tau,aJ,cg _ _ hnc] at k
  clear k76
  simp only[Bool.false_eq_true,if_false,if_true] at h9
  refine Y5 96 Tryz.func32 rfl rfl fun a hl g0 g1 g2 g3 g4=>?_
  repeat' first|refine G1 ?_|(refine G2 ?_ ?_<;>intro hc hd<;>try exact hd.elim)|fail
  all_goals (try (refine aC h74 ?_))
  repeat' first|refine G1 ?_|(refine G2 ?_ ?_<;>intro hc hd<;>try exact hd.elim)|fail
  all_goals (try (refine aC h9 ?_))
  repeat' first|refine G1 ?_|(refine G2 ?_ ?_<;>intro hc hd<;>try exact hd.elim)|fail
  all_goals (try (refine aC h75 ?_))
  repeat' first|refine G1 ?_|(refine G2 ?_ ?_<;>intro hc hd<;>try exact hd.elim)|fail
  all_goals (try (refine aC h11 ?_))
  repeat' first|refine G1 ?_|(refine G2 ?_ ?_<;>intro hc hd<;>try exact hd.elim)|fail
  all_goals (try (refine aC h33 ?_))
  repeat' first|refine G1 ?_|(refine G2 ?_ ?_<;>intro hc hd<;>try exact hd.elim)|fail
  refine av k ?_
  repeat' first|refine G1 ?_|(refine G2 ?_ ?_<;>intro hc hd<;>try exact hd.elim)|fail
  all_goals (try (refine aC j75 ?_))
  repeat' first|refine G1 ?_|(refine G2 ?_ ?_<;>intro hc hd<;>try exact hd.elim)|fail
  all_goals (try (refine aC j77 ?_))
  repeat' first|refine G1 ?_|(refine G2 ?_ ?_<;>intro hc hd<;>try exact hd.elim)|fail
  exact⟨by simp,.tp [.ag (aH (ar f)++[sls ac w.res]),nd,.int .i64 0],5,by simp[Tryz.f32,V.get, *],aG (by simp[Val.closed,aE,aw,hnc])⟩
 ·
  have k:=k76.ren [39] 46 rfl (by simp[cm,fU,aa,aR,aD]) (by simp) (by simp)
  simp[bF,b9,bu,au,tau,aJ,cg _ _ hnc] at k
  clear k76
  simp only[Bool.false_eq_true,if_false,if_true] at h9
  refine Y5 96 Tryz.func32 rfl rfl fun a hl g0 g1 g2 g3 g4=>?_
  repeat' first|refine G1 ?_|(refine G2 ?_ ?_<;>intro hc hd<;>try exact hd.elim)|fail
  all_goals (try (refine aC h74 ?_))
  repeat' first|refine G1 ?_|(refine G2 ?_ ?_<;>intro hc hd<;>try exact hd.elim)|fail
  all_goals (try (refine aC h9 ?_))
  repeat' first|refine G1 ?_|(refine G2 ?_ ?_<;>intro hc hd<;>try exact hd.elim)|fail
  all_goals (try (refine aC h75 ?_))
  repeat' first|refine G1 ?_|(refine G2 ?_ ?_<;>intro hc hd<;>try exact hd.elim)|fail
  all_goals (try (refine aC h11 ?_))
  repeat' first|refine G1 ?_|(refine G2 ?_ ?_<;>intro hc hd<;>try exact hd.elim)|fail
  all_goals (try (refine aC h33 ?_))
  repeat' first|refine G1 ?_|(refine G2 ?_ ?_<;>intro hc hd<;>try exact hd.elim)|fail
  refine av k ?_
  repeat' first|refine G1 ?_|(refine G2 ?_ ?_<;>intro hc hd<;>try exact hd.elim)|fail
  all_goals (try (refine aC j75 ?_))
  repeat' first|refine G1 ?_|(refine G2 ?_ ?_<;>intro hc hd<;>try exact hd.elim)|fail
  all_goals (try (refine aC j77 ?_))
  repeat' first|refine G1 ?_|(refine G2 ?_ ?_<;>intro hc hd<;>try exact hd.elim)|fail
  exact⟨by simp,.tp [.ag (aH (ar f)++[sls ac w.res]),nd,.int .i64 0],5,by simp[Tryz.f32,V.get, *],aG (by simp[Val.closed,aE,aw,hnc])⟩
end
end Go.V
end
section
set_option maxHeartbeats 4000000
namespace Go.V
open Go Go.Proofs
attribute [local irreducible] W bO WD aO yl aS bW
section
variable (Γ:Glo Tryz.prog)
attribute [local simp] veq bP ei V.del
theorem f32 (X:XOk Γ)(H:iO Γ)(t:Ty)(l:List Lns)(e:Int)(bk:Bool)(s:St)(s1:St)(needs:List Res)(err:Int)(ht:wT t<big)(hl:wNs l<30000000000)(hs:wRs s.res+wD s.doc<20000000000)(hg:mN t l e bk s=some (s1,needs,err)) :
  PureOk Tryz.prog Γ 32 [.ag (cTy t),sls aK l,.int .i64 e,.bool bk,.ag (cSt s)] (goV s1 needs err)∧wRs s1.res+wD s1.doc<20000000000:=by
 have hz:wRs da.res+wD da.doc<20000000000:=by simp[da,zeroDoc,wRs,wD,dD,wDs]
 unfold mN at hg
 simp only at hg
 by_cases he:(bC t (if bk then bU l else l)).2.2=0
 case neg=>
  rw[if_pos he] at hg
  cases hg
  exact⟨f32e Γ H t l e bk s ht hl he,hz⟩
 rw[if_neg (fun h=>h he)] at hg
 by_cases hr:br s.res=false
 ·
  rw[if_pos hr] at hg
  cases hg
  exact⟨f32r Γ H t l e bk s ht hl (by unfold big;omega) he hr,hz⟩
 rw[if_neg hr] at hg
 have hr':br s.res=true:=by simpa using hr
 by_cases hv:cQ t s.doc=false
 ·
  rw[if_pos hv] at hg
  cases hg
  exact⟨f32v Γ H t l e bk s ht hl (by unfold big;omega) he hr' hv,hz⟩
 rw[if_neg hv] at hg
 have hv':cQ t s.doc=true:=by simpa using hv
 by_cases ho:okK s.doc=true
 case neg=>rw[if_neg ho] at hg;cases hg
 rw[if_pos ho] at hg
 cases hrun:ej e bk l 0 [] [] ⟨s.res,[],0⟩ (ofD s.doc) with
 |none=>rw[hrun] at hg;cases hg
 |some p=>
  obtain⟨w,f⟩:=p
  rw[hrun] at hg
  simp only at hg
  by_cases herr:w.err=0
  case neg=>
   rw[if_pos herr] at hg
   cases hg
   exact⟨f32x Γ X H t l e bk s w f ht hl hs he hr' hv' ho hrun herr,hz⟩
  rw[if_neg (fun h=>h herr)] at hg
  by_cases hq:br w.res=false
  ·
   rw[if_pos hq] at hg
   cases hg
   exact⟨f32y Γ X H t l e bk s w f ht hl hs he hr' hv' ho hrun herr hq,hz⟩
  rw[if_neg hq] at hg
  have hq':br w.res=true:=by simpa using hq
  by_cases hd:dH (ar f)=false
  ·
   rw[if_pos hd] at hg
   cases hg
   exact⟨f32z Γ X H t l e bk s w f ht hl hs he hr' hv' ho hrun herr hq' hd,hz⟩
  rw[if_neg hd] at hg
  have hd':dH (ar f)=true:=by simpa using hd
  cases hg
  refine⟨f32w Γ X H t l e bk s w f ht hl hs he hr' hv' ho hrun herr hq' hd',?_⟩
  have hsm:d9 w f=true:=by cases bk;exact(gl hrun).2.1;exact(gk hrun).2.1
  unfold d9 lim at hsm
  have:=of_decide_eq_true hsm
  simp only[gA]
  omega
theorem f10 (X:XOk Γ)(H:iO Γ)(t:Ty)(l:List Lns)(e:Int)(bk:Bool)(s:St)(s1:St)(err:Int)(ht:wT t<big)(hl:wNs l<30000000000)(hs:wRs s.res+wD s.doc<20000000000)(hg:goB t l e bk s=some (s1,err)) :
  PureOk Tryz.prog Γ 10 [.ag (cTy t),sls aK l,.int .i64 e,.bool bk,.ag (cSt s)] (.tp [.ag (cSt s1),.int .i64 err])∧wRs s1.res+wD s1.doc<20000000000:=by
 obtain⟨needs,hg'⟩:∃needs,mN t l e bk s=some (s1,needs,err):=by
  unfold goB at hg
  cases h:mN t l e bk s with
  |none=>rw[h] at hg;cases hg
  |some p=>obtain⟨a,b,c⟩:=p;rw[h] at hg;cases hg;exact⟨b,rfl⟩
 obtain⟨h32,hb⟩:=f32 Γ X H t l e bk s s1 needs err ht hl hs hg'
 refine⟨?_,hb⟩
 have h33:=f33 Γ s1 (by unfold big;omega)
 have ht6:List.take 6 (cTy t)=cTy t:=List.take_of_length_le (by rw[bH];omega)
 have hd6:List.take 6 (cSt s)=cSt s:=List.take_of_length_le (by rw[ez];simp)
 have hd61:List.take 6 (cSt s1)=cSt s1:=List.take_of_length_le (by rw[ez];simp)
 have hl6:(cSt s).length=6:=by rw[ez];simp
 have hl61:(cSt s1).length=6:=by rw[ez];simp
 have hc1:aE (cSt s1)=true:=by rw[ez];simp
 unfold goV at h32
 clear hg hg' hb
 refine Y5 28 Tryz.func10 rfl rfl fun a hl g0 g1 g2 g3 g4=>?_
 repeat' first|refine G1 ?_|(refine G2 ?_ ?_<;>intro hc hd<;>try exact hd.elim)|fail
 all_goals (try (refine aC h32 ?_))
 repeat' first|refine G1 ?_|(refine G2 ?_ ?_<;>intro hc hd<;>try exact hd.elim)|fail
 all_goals (try (refine aC h33 ?_))
 repeat' first|refine G1 ?_|(refine G2 ?_ ?_<;>intro hc hd<;>try exact hd.elim)|fail
 exact⟨by simp,.tp [.ag (cSt s1),.int .i64 err],5,by simp[Tryz.f10,V.get, *],aG (by simp[Val.closed,aE,hc1])⟩
end
end Go.V
end
section
set_option maxHeartbeats 4000000
namespace Go.V
open Go Go.Proofs
attribute [local irreducible] W bO WD aO yl aS bW
section
variable (Γ:Glo Tryz.prog)
attribute [local simp] veq bP ei V.del
def dj {α:Type}(c:Int)(g:α→Int):List α→Int→Option Int
 |[],b=>some b
 |t::r,b=>if g t=0∨b-c+g t≤1 then none else dj c g r (b-c+g t)
def eW:Nat→Ty→Int
 |0,_=>0
 |n+1,t=>if 60<t.fields.length∨60<t.of.length∨60<t.names.length then 0
  else if t.names.any (fun s=>decide (300<s.length)) then 0
  else if t.fields.any (fun f=>decide (100<f.name.length)) then 0
  else match dj 200 (eW n) (t.fields.map (·.ty)++t.of) 200 with
   |some b=>b-1
   |none=>0
theorem jF {α:Type}{c:Int}{g:α→Int}:∀{a b:List α}{n m:Int},dj c g a n=some m→dj c g (a++b) n=dj c g b m
 |[],b,n,m,h=>by cases h;rfl
 |x::a,b,n,m,h=>by
  rw[dj] at h
  rw[List.cons_append,dj]
  split at h
  ·
   cases h
  ·
   rename_i hc;rw[if_neg hc];exact jF h
theorem jy {α:Type}{c:Int}{g:α→Int}(hg:∀x,g x≤c):∀{a:List α}{n m:Int},dj c g a n=some m→m≤n∧(1<n→1<m)
 |[],n,m,h=>by cases h;exact⟨by omega,fun h=>h⟩
 |x::a,n,m,h=>by
  rw[dj] at h
  split at h
  ·
   cases h
  ·
   rename_i hc
   have h1:=jy hg h
   have h2:=hg x
   exact⟨by omega,fun _=>h1.2 (by omega)⟩
theorem mA:∀(n:Nat)(t:Ty),eW n t≤199∧0≤eW n t
 |0,t=>by simp[eW]
 |n+1,t=>by
  rw[eW]
  split
  ·
   omega
  ·
   split
   ·
    omega
   ·
    split
    ·
     omega
    ·
     cases h:dj 200 (eW n) (t.fields.map (·.ty)++t.of) 200 with
     |none=>simp
     |some b=>
      have hh:=jy (fun x=>by have:=(mA n x).1;omega) h
      have h1:=hh.2 (by omega)
      have h2:=hh.1
      simp only;omega
theorem f24z (t:Ty):PureOk Tryz.prog Γ 24 [.ag (cTy t),.int .i64 0] (.int .i64 0):=by
 refine Y2 111 Tryz.func24 rfl rfl fun a hl g0 g1=>?_
 repeat' first|refine G1 ?_|(refine G2 ?_ ?_<;>intro hc hd<;>try exact hd.elim)|fail
 all_goals exact⟨by simp,.int .i64 0,1,by simp[Tryz.f24, *],rfl⟩
theorem f24a (t:Ty)(n:Int)(hn:0<n)(h:60<t.fields.length∨60<t.of.length∨60<t.names.length):PureOk Tryz.prog Γ 24 [.ag (cTy t),.int .i64 n] (.int .i64 0):=by
 have hn':¬n≤0:=by omega
 by_cases h1:(60:Int)<t.fields.length
 ·
  refine Y2 111 Tryz.func24 rfl rfl fun a hl g0 g1=>?_
  repeat' first|refine G1 ?_|(refine G2 ?_ ?_<;>intro hc hd<;>try exact hd.elim)|fail
  all_goals exact⟨by simp,.int .i64 0,1,by simp[Tryz.f24, *],rfl⟩
 by_cases h2:(60:Int)<t.of.length
 ·
  refine Y2 111 Tryz.func24 rfl rfl fun a hl g0 g1=>?_
  repeat' first|refine G1 ?_|(refine G2 ?_ ?_<;>intro hc hd<;>try exact hd.elim)|fail
  all_goals exact⟨by simp,.int .i64 0,1,by simp[Tryz.f24, *],rfl⟩
 have h3:(60:Int)<t.names.length:=by omega
 refine Y2 111 Tryz.func24 rfl rfl fun a hl g0 g1=>?_
 repeat' first|refine G1 ?_|(refine G2 ?_ ?_<;>intro hc hd<;>try exact hd.elim)|fail
 all_goals exact⟨by simp,.int .i64 0,1,by simp[Tryz.f24, *],rfl⟩
theorem f24n (n:Nat)(hn0:n<1000)(t:Ty)(hs:¬(60<t.fields.length∨60<t.of.length∨60<t.names.length))(ih:∀x,PureOk Tryz.prog Γ 24 [.ag (cTy x),.int .i64 n] (.int .i64 (eW n x))):PureOk Tryz.prog Γ 24 [.ag (cTy t),.int .i64 ((n:Int)+1)] (.int .i64 (eW (n+1) t)):=by
 obtain⟨v,hv⟩:∃v,v=eW (n+1) t:=⟨_,rfl⟩
 rw[←hv]
 rw[eW,if_neg hs] at hv
 have hn':¬(n:Int)+1≤0:=by omega
 have hwn:=ad ((n:Int)+1-1) (by omega) (by omega)
 rw[show(n:Int)+1-1=n by omega] at hwn
 have h1:¬(60:Int)<t.fields.length:=by omega
 have h2:¬(60:Int)<t.of.length:=by omega
 have h3:¬(60:Int)<t.names.length:=by omega
 have h4:t.fields.length≤60:=by omega
 have h5:t.of.length≤60:=by omega
 have h6:t.names.length≤60:=by omega
 have ht6:List.take 6 (cTy t)=cTy t:=List.take_of_length_le (by rw[bH];omega)
 clear hs
 refine Y2 111 Tryz.func24 rfl rfl fun a hl g0 g1=>?_
 repeat' first|refine G1 ?_|(refine G2 ?_ ?_<;>intro hc hd<;>try exact hd.elim)|fail
 refine am [(4,4),(30,43)] [5] (fun k a h=>∃pre rest,t.names=pre++rest∧pre.any (fun s=>decide (300<s.length))=false∧k=rest.length∧lk a 5=some (.int .i64 pre.length)∧h=[(0,.cells (cTy t) 26 false)]) ⟨[],t.names,rfl,rfl,rfl,by simp[*],rfl⟩ ?_
 intro a1 hk hk0 k a h hF hI
 replace g1:=hF.a hk 1
 replace g2:=hF.a hk 2
 replace hl:a.length=111:=hF.len.trans (hk0.trans (by simp[*]))
 clear hk hk0
 obtain⟨pre,rest,hl1,hp,rfl,hix,rfl⟩:=hI
 cases rest with
 |cons s r=>
  have z1:(pre.length:Int)<t.names.length:=by rw[hl1];simp<;>omega
  have z2:pre.length<t.names.length:=by omega
  have z3:pre.length≤t.names.length:=by omega
  have hrd:(row aW t.names).drop pre.length=.str s::row aW r:=by rw[hl1];exact fH pre r s
  have hk0:(row aW t.names)[pre.length]?=some (.str s):=by
   have h:=congrArg (fun l:List Val=>l[0]?) hrd
   simpa using h
  have hw:=ad ((pre.length:Int)+1) (by omega) (by omega)
  have hlR:(row aW t.names).length=t.names.length:=fl _
  by_cases hsl:(300:Int)<s.length
  ·
   have hv0:v=0:=by
    rw[hv,if_pos]
    rw[hl1,List.any_append,List.any_cons]
    have:300<s.length:=by omega
    simp[this]
   clear hv hl1 hlR
   rw[hv0]
   clear hv0
   repeat' first|refine G1 ?_|(refine G2 ?_ ?_<;>intro hc hd<;>try exact hd.elim)|fail
   exact⟨by simp,.int .i64 0,1,by simp[Tryz.f24, *],rfl⟩
  ·
   have hp':(pre++[s]).any (fun s=>decide (300<s.length))=false:=by
    rw[List.any_append,hp]
    have:¬300<s.length:=by omega
    simp[this]
   have q1:t.names=(pre++[s])++r:=by rw[hl1];simp
   replace q1:Hid t.names ((pre++[s])++r):=q1
   replace hp':Hid ((pre++[s]).any (fun s=>decide (300<s.length))) false:=hp'
   clear hv hl1 hp hlR
   repeat' first|refine G1 ?_|(refine G2 ?_ ?_<;>intro hc hd<;>try exact hd.elim)|fail
   exact NX [(0,.cells (cTy t) 26 false)] fun a2 hF2=>⟨pre++[s],r,q1,hp',rfl,(hF2.q 5),rfl⟩
 |nil=>
  rw[List.append_nil] at hl1
  have hge:¬(pre.length:Int)<t.names.length:=by rw[hl1];omega
  rw[hl1,if_neg (by rw[hp];simp)] at hv
  clear hp
  repeat' first|refine G1 ?_|(refine G2 ?_ ?_<;>intro hc hd<;>try exact hd.elim)|fail
  refine am [(4,4),(44,58)] [6] (fun k a h=>∃pre rest,t.fields=pre++rest∧pre.any (fun f=>decide (100<f.name.length))=false∧k=rest.length∧lk a 6=some (.int .i64 pre.length)∧h=[(0,.cells (cTy t) 26 false)]) ⟨[],t.fields,rfl,rfl,rfl,by simp[*],rfl⟩ ?_
  intro a1 hk hk0 k a h hF hI
  replace g1:=hF.a hk 1
  replace g2:=hF.a hk 2
  replace hl:a.length=111:=hF.len.trans (hk0.trans (by simp[*]))
  clear hk hk0
  obtain⟨pref,rest,hl2,hp,rfl,hix2,rfl⟩:=hI
  cases rest with
  |cons f r=>
   have z1:(pref.length:Int)<t.fields.length:=by rw[hl2];simp<;>omega
   have z2:pref.length<t.fields.length:=by omega
   have z3:pref.length≤t.fields.length:=by omega
   have z4:pref.length*8≤t.fields.length*8:=by omega
   have hrd:(row aZ t.fields).drop (pref.length*8)=.str f.name :: .bool f.opt::(cTy f.ty++row aZ r):=by rw[hl2,lg pref r f,dR];rfl
   have hw:=ad ((pref.length:Int)+1) (by omega) (by omega)
   by_cases hsl:(100:Int)<f.name.length
   ·
    have hv0:v=0:=by
     rw[hv,if_pos]
     rw[hl2,List.any_append,List.any_cons]
     have:100<f.name.length:=by omega
     simp[this]
    rw[hv0]
    clear hv hl2 hv0 hl1
    repeat' first|refine G1 ?_|(refine G2 ?_ ?_<;>intro hc hd<;>try exact hd.elim)|fail
    exact⟨by simp,.int .i64 0,1,by simp[Tryz.f24, *],rfl⟩
   ·
    have hp':(pref++[f]).any (fun f=>decide (100<f.name.length))=false:=by
     rw[List.any_append,hp]
     have:¬100<f.name.length:=by omega
     simp[this]
    have q1:t.fields=(pref++[f])++r:=by rw[hl2];simp
    replace q1:Hid t.fields ((pref++[f])++r):=q1
    replace hp':Hid ((pref++[f]).any (fun f=>decide (100<f.name.length))) false:=hp'
    clear hv hl2 hp hl1
    repeat' first|refine G1 ?_|(refine G2 ?_ ?_<;>intro hc hd<;>try exact hd.elim)|fail
    exact NX [(0,.cells (cTy t) 26 false)] fun a2 hF2=>⟨pref++[f],r,q1,hp',rfl,(hF2.q 6),rfl⟩
  |nil=>
   rw[List.append_nil] at hl2
   have hge2:¬(pref.length:Int)<t.fields.length:=by rw[hl2];omega
   rw[←hl2] at hp
   rw[if_neg (by rw[hp];simp)] at hv
   clear hp hl1 hge
   repeat' first|refine G1 ?_|(refine G2 ?_ ?_<;>intro hc hd<;>try exact hd.elim)|fail
   obtain⟨C,hC⟩:∃C,C=t.fields.map (·.ty)++t.of:=⟨_,rfl⟩
   rw[←hC] at hv
   have hCl:C.length=t.fields.length+t.of.length:=by rw[hC];simp
   have hws:=ad ((t.fields.length:Int)+t.of.length) (by omega) (by omega)
   clear hix hl2 hge2 hix2
   refine am [(4,4),(9,9),(59,108)] [8,7] (fun k a h=>∃pre rest b,C=pre++rest∧dj 200 (eW n) pre 200=some b∧k=rest.length∧lk a 7=some (.int .i64 b)∧lk a 8=some (.int .i64 pre.length)∧h=[(0,.cells (cTy t) 26 false)]) ⟨[],C,200,rfl,rfl,rfl,by simp[*],by simp[*],rfl⟩ ?_
   intro a1 hk hk0 k a h hF hI
   replace g1:=hF.a hk 1
   replace g2:=hF.a hk 2
   replace hl:a.length=111:=hF.len.trans (hk0.trans (by simp[*]))
   clear hk hk0
   obtain⟨pc,rest,b,hl3,hgo,rfl,h7,h8,rfl⟩:=hI
   have hb1:=jy (fun x=>by have:=(mA n x).1;omega) hgo
   have hb2:=hb1.2 (by omega)
   have hb3:=hb1.1
   cases rest with
   |nil=>
    rw[List.append_nil] at hl3
    have hge3:¬(pc.length:Int)<t.fields.length+t.of.length:=by rw[←hl3,hCl];omega
    rw[←hl3] at hgo
    rw[hgo] at hv
    simp only at hv
    have hwb:=ad (b-1) (by omega) (by omega)
    rw[hv]
    clear hv ih
    repeat' first|refine G1 ?_|(refine G2 ?_ ?_<;>intro hc hd<;>try exact hd.elim)|fail
    exact⟨by simp,.int .i64 (b-1),1,by simp[Tryz.f24, *],rfl⟩
   |cons x r=>
    have hx:=ih x
    have hx0:=(mA n x).1
    have hx1:=(mA n x).2
    have hpl:pc.length<t.fields.length+t.of.length:=by rw[←hCl,hl3];simp
    have z0:(pc.length:Int)<t.fields.length+t.of.length:=by omega
    have hw:=ad ((pc.length:Int)+1) (by omega) (by omega)
    have hwb:=ad (b-200) (by omega) (by omega)
    have hwc:=ad (b-200+eW n x) (by omega) (by omega)
    have hsn:dj 200 (eW n) C 200=dj 200 (eW n) (x::r) b:=by rw[hl3];exact jF hgo
    rw[dj] at hsn
    rw[hsn] at hv
    have hnx:dj 200 (eW n) (pc++[x]) 200=if eW n x=0∨b-200+eW n x≤1 then none else some (b-200+eW n x):=by
     rw[jF hgo,dj]
     split
     ·
      rfl
     ·
      rfl
    have hq:C=(pc++[x])++r:=by rw[hl3];simp
    replace hq:Hid C ((pc++[x])++r):=hq
    generalize eW n x=k at *
    by_cases hf:pc.length<t.fields.length
    ·
     have hfi:(pc.length:Int)<t.fields.length:=by omega
     obtain⟨fp,f,fr,hfl,hfp⟩:∃fp f fr,t.fields=fp++f::fr∧fp.length=pc.length:=⟨t.fields.take pc.length,t.fields[pc.length],t.fields.drop (pc.length+1),by rw[List.getElem_cons_drop];simp,by simp;omega⟩
     have hfx:f.ty=x:=by
      have e1:C=(fp.map (·.ty))++f.ty::(fr.map (·.ty)++t.of):=by rw[hC,hfl];simp
      rw[hl3] at e1
      have:=List.append_inj e1 (by simp[hfp])
      simp at this
      exact this.2.1.symm
     subst hfx
     have hrd:(row aZ t.fields).drop (pc.length*8)=.str f.name :: .bool f.opt::(cTy f.ty++row aZ fr):=by rw[hfl,←hfp,lg fp fr f,dR];rfl
     have hta:List.take 6 (cTy f.ty++row aZ fr)=cTy f.ty:=List.take_left' (bH _)
     have z3:pc.length≤t.fields.length:=by omega
     have z4:pc.length*8≤t.fields.length*8:=by omega
     clear hfl hfp hl3 hC hCl hgo hb1 hsn
     by_cases hk0:k=0
     ·
      rw[if_pos (.inl hk0)] at hv
      simp only at hv
      rw[hv]
      clear hv hnx
      subst hk0
      repeat' first|refine G1 ?_|(refine G2 ?_ ?_<;>intro hc hd<;>try exact hd.elim)|fail
      all_goals (try (refine aC hx ?_))
      repeat' first|refine G1 ?_|(refine G2 ?_ ?_<;>intro hc hd<;>try exact hd.elim)|fail
      exact⟨by simp,.int .i64 0,1,by simp[Tryz.f24, *],rfl⟩
     by_cases hk1:b-200+k≤1
     ·
      rw[if_pos (.inr hk1)] at hv
      simp only at hv
      rw[hv]
      clear hv hnx
      repeat' first|refine G1 ?_|(refine G2 ?_ ?_<;>intro hc hd<;>try exact hd.elim)|fail
      all_goals (try (refine aC hx ?_))
      repeat' first|refine G1 ?_|(refine G2 ?_ ?_<;>intro hc hd<;>try exact hd.elim)|fail
      exact⟨by simp,.int .i64 0,1,by simp[Tryz.f24, *],rfl⟩
     rw[if_neg (by omega)] at hnx
     replace hnx:Hid (dj 200 (eW n) (pc++[f.ty]) 200) (some (b-200+k)):=hnx
     clear hv
     repeat' first|refine G1 ?_|(refine G2 ?_ ?_<;>intro hc hd<;>try exact hd.elim)|fail
     all_goals (try (refine aC hx ?_))
     repeat' first|refine G1 ?_|(refine G2 ?_ ?_<;>intro hc hd<;>try exact hd.elim)|fail
     exact NX [(0,.cells (cTy t) 26 false)] fun a2 hF2=>⟨pc++[f.ty],r,b-200+k,hq,hnx,rfl,(hF2.q 7),(hF2.q 8),rfl⟩
    ·
     have hfi:¬(pc.length:Int)<t.fields.length:=by omega
     obtain⟨j,hj⟩:∃j:Nat,pc.length=t.fields.length+j:=⟨pc.length-t.fields.length,by omega⟩
     have hjl:j<t.of.length:=by omega
     obtain⟨op,y,orr,hol,hop⟩:∃op y orr,t.of=op++y::orr∧op.length=j:=⟨t.of.take j,t.of[j],t.of.drop (j+1),by rw[List.getElem_cons_drop];simp,by simp;omega⟩
     have hyx:y=x:=by
      have e1:C=(t.fields.map (·.ty)++op)++y::orr:=by rw[hC,hol];simp
      rw[hl3] at e1
      have:=List.append_inj e1 (by simp[hop,hj])
      simp at this
      exact this.2.1.symm
     subst hyx
     have hrd:(row cTy t.of).drop (j*6)=cTy y++row cTy orr:=by rw[hol,←hop];exact xn op orr y
     have hta:List.take 6 (cTy y++row cTy orr)=cTy y:=List.take_left' (bH _)
     have hwj:IntKind.i64.wrap ((pc.length:Int)-t.fields.length)=j:=by rw[ad _ (by omega) (by omega)];omega
     have z3:j≤t.of.length:=by omega
     have z4:j*6≤t.of.length*6:=by omega
     have z5:(j:Int)<t.of.length:=by omega
     have z6:(0:Int)≤j:=by omega
     clear hol hop hl3 hC hCl hgo hb1 hsn hj
     by_cases hk0:k=0
     ·
      rw[if_pos (.inl hk0)] at hv
      simp only at hv
      rw[hv]
      clear hv hnx
      subst hk0
      repeat' first|refine G1 ?_|(refine G2 ?_ ?_<;>intro hc hd<;>try exact hd.elim)|fail
      all_goals (try (refine aC hx ?_))
      repeat' first|refine G1 ?_|(refine G2 ?_ ?_<;>intro hc hd<;>try exact hd.elim)|fail
      exact⟨by simp,.int .i64 0,1,by simp[Tryz.f24, *],rfl⟩
     by_cases hk1:b-200+k≤1
     ·
      rw[if_pos (.inr hk1)] at hv
      simp only at hv
      rw[hv]
      clear hv hnx
      repeat' first|refine G1 ?_|(refine G2 ?_ ?_<;>intro hc hd<;>try exact hd.elim)|fail
      all_goals (try (refine aC hx ?_))
      repeat' first|refine G1 ?_|(refine G2 ?_ ?_<;>intro hc hd<;>try exact hd.elim)|fail
      exact⟨by simp,.int .i64 0,1,by simp[Tryz.f24, *],rfl⟩
     rw[if_neg (by omega)] at hnx
     replace hnx:Hid (dj 200 (eW n) (pc++[y]) 200) (some (b-200+k)):=hnx
     clear hv
     repeat' first|refine G1 ?_|(refine G2 ?_ ?_<;>intro hc hd<;>try exact hd.elim)|fail
     all_goals (try (refine aC hx ?_))
     repeat' first|refine G1 ?_|(refine G2 ?_ ?_<;>intro hc hd<;>try exact hd.elim)|fail
     exact NX [(0,.cells (cTy t) 26 false)] fun a2 hF2=>⟨pc++[y],r,b-200+k,hq,hnx,rfl,(hF2.q 7),(hF2.q 8),rfl⟩
end
end Go.V
end
section
set_option maxHeartbeats 4000000
namespace Go.V
open Go Go.Proofs
attribute [local irreducible] W bO WD aO yl aS bW
section
variable (Γ:Glo Tryz.prog)
attribute [local simp] veq bP ei V.del
theorem f24:∀(n:Nat),n<1000→∀t:Ty,PureOk Tryz.prog Γ 24 [.ag (cTy t),.int .i64 n] (.int .i64 (eW n t))
 |0,_,t=>f24z Γ t
 |n+1,hn,t=>by
  by_cases hs:60<t.fields.length∨60<t.of.length∨60<t.names.length
  ·
   have h:=f24a Γ t ((n:Int)+1) (by omega) hs
   rw[eW,if_pos hs]
   exact h
  ·
   exact f24n Γ n (by omega) t hs fun x=>f24 n (by omega) x
theorem f6 (t:Ty):PureOk Tryz.prog Γ 6 [.ag (cTy t)] (.bool (decide (0<eW 20 t))):=by
 have h:=f24 Γ 20 (by omega) t
 simp only[Int.cast_ofNat_Int] at h
 have ht6:List.take 6 (cTy t)=cTy t:=List.take_of_length_le (by rw[bH];omega)
 generalize eW 20 t=k at *
 by_cases hk:0<k
 ·
  refine Y1 6 Tryz.func6 rfl rfl fun a hl g0=>?_
  repeat' first|refine G1 ?_|(refine G2 ?_ ?_<;>intro hc hd<;>try exact hd.elim)|fail
  all_goals (try (refine aC h ?_))
  repeat' first|refine G1 ?_|(refine G2 ?_ ?_<;>intro hc hd<;>try exact hd.elim)|fail
  exact⟨by simp,.bool true,1,by simp[Tryz.f6, *],by simp[vw,Val.closed,hk]⟩
 ·
  refine Y1 6 Tryz.func6 rfl rfl fun a hl g0=>?_
  repeat' first|refine G1 ?_|(refine G2 ?_ ?_<;>intro hc hd<;>try exact hd.elim)|fail
  all_goals (try (refine aC h ?_))
  repeat' first|refine G1 ?_|(refine G2 ?_ ?_<;>intro hc hd<;>try exact hd.elim)|fail
  exact⟨by simp,.bool false,1,by simp[Tryz.f6, *],by simp[vw,Val.closed,hk]⟩
theorem qo {g:Ty→Int}{c:Int}{wt:Ty→Nat}{K:Nat}(hg:∀x,0<g x→(wt x:Int)≤K*(c-g x))(h0:∀x,0≤g x):∀{l:List Ty}{b m:Int},dj c g l b=some m→((l.map wt).sum:Int)≤K*(b-m)
 |[],b,m,h=>by cases h;simp
 |x::l,b,m,h=>by
  rw[dj] at h
  split at h
  ·
   cases h
  ·
   rename_i hc
   have h1:=qo hg h0 h
   have h2:=hg x (by have:=h0 x;omega)
   have h3:(K:Int)*(b-m)=K*(b-c+g x-m)+K*(c-g x):=by rw[←Int.mul_add];congr 1;omega
   rw[List.map_cons,List.sum_cons,h3]
   omega
theorem wl:∀l:List Fld,(∀f∈l,f.name.length≤100)→wFs l≤101*l.length+((l.map (·.ty)).map wT).sum
 |[],_=>by simp[wFs]
 |f::l,h=>by
  rw[cO,List.map_cons,List.map_cons,List.sum_cons,List.length_cons]
  have h1:=h f (by simp)
  have h2:=wl l fun g hg=>h g (by simp[hg])
  omega
theorem wo:∀l:List Ty,wTs l=(l.map wT).sum
 |[]=>rfl
 |t::l=>by rw[wTs,List.map_cons,List.sum_cons,wo l]
theorem uz:∀(n:Nat)(t:Ty),0<eW n t→(wT t:Int)≤25000*(200-eW n t)
 |0,t,h=>by simp[eW] at h
 |n+1,t,h=>by
  rw[eW] at h ⊢
  split at h
  ·
   cases h
  rename_i h1
  rw[if_neg h1]
  split at h
  ·
   cases h
  rename_i h2
  rw[if_neg h2]
  split at h
  ·
   cases h
  rename_i h3
  rw[if_neg h3]
  cases hg:dj 200 (eW n) (t.fields.map (·.ty)++t.of) 200 with
  |none=>rw[hg] at h;cases h
  |some b=>
   simp only
   have hs:=qo (K:=25000) (wt:=wT) (fun x hx=>uz n x hx) (fun x=>(mA n x).2) hg
   rw[List.map_append,List.sum_append] at hs
   have hn:dD t.names≤t.names.length*301:=kX fun s hs=>by
    rcases Nat.lt_or_ge 300 s.length with h4|h4
    ·
     exfalso;apply h2;rw[List.any_eq_true];exact⟨s,hs,by simpa using h4⟩
    ·
     exact h4
   have hf:=wl t.fields fun f hf=>by
    rcases Nat.lt_or_ge 100 f.name.length with h4|h4
    ·
     exfalso;apply h3;rw[List.any_eq_true];exact⟨f,hf,by simpa using h4⟩
    ·
     exact h4
   rw[go,wo]
   have e1:t.names.length≤60:=by omega
   have e2:t.fields.length≤60:=by omega
   have e3:t.names.length*301≤60*301:=Nat.mul_le_mul_right _ e1
   have e4:101*t.fields.length≤101*60:=Nat.mul_le_mul_left _ e2
   have e5:(((t.fields.map (·.ty)).map wT).sum+(t.of.map wT).sum:Nat)=((((t.fields.map (·.ty)).map wT).sum:Nat):Int)+(((t.of.map wT).sum:Nat):Int):=by simp
   omega
end
end Go.V
end
