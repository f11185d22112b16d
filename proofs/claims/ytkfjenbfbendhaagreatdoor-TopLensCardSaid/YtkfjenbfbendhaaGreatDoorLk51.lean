/-
  A part of a proof: U8.
-/
import Derived.Test.YtkfjenbfbendhaaGreatDoorLk50
set_option linter.unusedSimpArgs false
set_option linter.unusedVariables false
namespace Go.Proofs.YtkfjenbfbendhaaGreatDoor
open Go Go.ChangeShapes Go.WideShapes Go.RowKit Go.V
theorem nE (G:PureOk Tryz.prog ΓT 5 [] (.bool true)):Rows.topLensRow.holds Tryz.pinned (OpenSpec.ofChange Rows.topLensSpec):=
 OpenClaim.holds_of_wide 3 Tryz.f3 rfl rfl rfl rfl rfl rfl rfl ⟨rfl,rfl,rfl,rfl,rfl⟩ rfl rfl rfl rfl rfl (by as_aux_lemma=>kernel_rfl) Tryz.func3 closed
  (of_decide_eq_true (by as_aux_lemma=>kernel_rfl)) (by unfold Func.isWrapper;first|(rw[if_pos (by decide +kernel)];kernel_rfl)|(rw[if_neg (by decide +kernel)];exact⟨rfl,rfl⟩))
  (fun os started H enc _=>CN G os started H enc)
end Go.Proofs.YtkfjenbfbendhaaGreatDoor
