/-
  TopTranslate: for every input true, and the input reads behind the call as it read before: the card. It has no conditions.
-/
import Derived.Test.YtkfjenbfbendhaaGreatDoorPk44
import Derived.Test.YtkfjenbfbendhaaGreatDoorPk50
set_option linter.unusedSimpArgs false
set_option linter.unusedVariables false
section
namespace Go.Proofs.YtkfjenbfbendhaaGreatDoor
open Go Go.ChangeShapes Go.WideShapes Go.RowKit Go.V
theorem over (G:PureOk Tryz.prog ΓT 5 [] (.bool true)):Rows.topTranslateRow.holds Tryz.pinned (OpenSpec.ofChange Rows.topTranslateSpec):=
 OpenClaim.holds_of_wide 4 Tryz.f4 rfl rfl rfl rfl rfl rfl rfl ⟨rfl,rfl,rfl,rfl,rfl⟩ rfl rfl rfl rfl rfl (by as_aux_lemma=>kernel_rfl) Tryz.func4 closed
  (of_decide_eq_true (by as_aux_lemma=>kernel_rfl)) (by unfold Func.isWrapper;first|(rw[if_pos (by decide +kernel)];kernel_rfl)|(rw[if_neg (by decide +kernel)];exact⟨rfl,rfl⟩))
  (fun os started H enc _=>Fj G os started H enc)
theorem Js (G:PureOk Tryz.prog ΓT 5 [] (.bool true)):Rows.TopTranslateCardSaid:=
 Claim7.holds_tied_plain_at .later [] [.data,.data,.data,.sentinel,.sentinel,.listed,.data] true (true,"3115c4713b2c8b95cec64f5d8a50bf8bc099b036091840519f83e3ff95024db0") true
  (over G) (fun _ h=>by cases h) (by as_aux_lemma=>kernel_rfl) (fun _ h=>by cases h) topTranslate_row_tie rfl ⟨rfl,rfl⟩ (by as_aux_lemma=>kernel_rfl) rfl
  (fun f fn hf hfn=>by
   obtain rfl:f=4:=Option.some.inj ((show Tryz.prog.funcNamed "cabochon/cabochontop.TopTranslate"=some 4 by as_aux_lemma=>kernel_rfl).symm.trans hf) |>.symm
   obtain rfl:fn=Tryz.f4:=(Option.some.inj (Tryz.func4.symm.trans hfn)).symm;exact⟨by as_aux_lemma=>kernel_rfl,fun j t ht=>by
    rw[Tryz.params4] at ht;have h3:t=50∨t=3∨t=30:=by
     rcases j with _|_|_|_|_|j
     ·left;simpa using ht.symm
     ·right;left;simpa using ht.symm
     ·right;left;simpa using ht.symm
     ·right;left;simpa using ht.symm
     ·right;right;simpa using ht.symm
     ·simp at ht
    rcases h3 with rfl|rfl|rfl
    ·exact(show Tryz.prog.wantsStandIn 50=false by as_aux_lemma=>kernel_rfl)
    ·exact(show Tryz.prog.wantsStandIn 3=false by as_aux_lemma=>kernel_rfl)
    ·exact(show Tryz.prog.wantsStandIn 30=false by as_aux_lemma=>kernel_rfl)⟩)
  (by as_aux_lemma=>kernel_rfl)
end Go.Proofs.YtkfjenbfbendhaaGreatDoor
namespace Go.Proofs.YtkfjenbfbendhaaGreatDoor
open Go Go.V
theorem topTranslate_holds:Rows.TopTranslateCardSaid:=Js g5
#print axioms topTranslate_holds
end Go.Proofs.YtkfjenbfbendhaaGreatDoor
end
