/-
  A part of a proof: T7.
-/
import Derived.Test.YtkfjenbfbendhaaGreatDoorPk49
set_option linter.unusedSimpArgs false
set_option linter.unusedVariables false
section
namespace Go.Proofs.YtkfjenbfbendhaaGreatDoor
open Go Go.ChangeShapes Go.WideShapes Go.RowKit Go.V
set_option maxHeartbeats 8000000 in
set_option maxRecDepth 100000 in
theorem closed:joinedFacts Tryz.pinned.checked.prog 4 Tryz.f4 Rows.topTranslateSpec Rows.topTranslateRow=true:=by
 unfold joinedFacts;simp only[Bool.and_eq_true];repeat' (with_reducible refine And.intro ?_ ?_)
 all_goals (as_aux_lemma=>kernel_rfl)
end Go.Proofs.YtkfjenbfbendhaaGreatDoor
end
