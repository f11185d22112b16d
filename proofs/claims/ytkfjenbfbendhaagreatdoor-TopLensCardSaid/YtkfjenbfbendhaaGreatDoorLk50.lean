/-
  A part of a proof: U7.
-/
import Derived.Test.YtkfjenbfbendhaaGreatDoorLk49
set_option linter.unusedSimpArgs false
set_option linter.unusedVariables false
namespace Go.Proofs.YtkfjenbfbendhaaGreatDoor
open Go Go.ChangeShapes Go.WideShapes Go.RowKit Go.V
set_option maxHeartbeats 8000000 in
set_option maxRecDepth 100000 in
theorem closed:joinedFacts Tryz.pinned.checked.prog 3 Tryz.f3 Rows.topLensSpec Rows.topLensRow=true:=by
 unfold joinedFacts
 simp only[Bool.and_eq_true]
 repeat' (with_reducible refine And.intro ?_ ?_)
 all_goals (as_aux_lemma=>kernel_rfl)
end Go.Proofs.YtkfjenbfbendhaaGreatDoor
