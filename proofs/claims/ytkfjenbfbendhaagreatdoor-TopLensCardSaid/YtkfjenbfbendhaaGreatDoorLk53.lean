/-
  TopLens: for every input true, and the input reads behind the call as it read before: the card.
-/
import Derived.Test.YtkfjenbfbendhaaGreatDoorLk46
import Derived.Test.YtkfjenbfbendhaaGreatDoorLk52
set_option linter.unusedSimpArgs false
set_option linter.unusedVariables false
namespace Go.Proofs.YtkfjenbfbendhaaGreatDoor
open Go Go.V
theorem topLens_holds:Rows.TopLensCardSaid:=XQ g5
#print axioms topLens_holds
end Go.Proofs.YtkfjenbfbendhaaGreatDoor
