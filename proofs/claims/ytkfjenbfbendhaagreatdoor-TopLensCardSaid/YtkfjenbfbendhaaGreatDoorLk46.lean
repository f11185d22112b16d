/-
  A part of a proof: U29.
-/
import Derived.Test.YtkfjenbfbendhaaGreatDoorLk45
set_option linter.unusedSimpArgs false
set_option linter.unusedVariables false
namespace Go.V
open Go Go.Proofs
def kS5 (f:FuncId)(vs:List Val):Option Val:=match f,vs with
 |19,[]=>some texts19
 |_,_=>kS4 f vs
theorem CM:∀f vs r,kS5 f vs=some r→PureOk Tryz.prog ΓT f vs r:=by
 intro f vs r h
 unfold kS5 at h
 split at h
 ·
  cases h;exact g19
 ·
  exact yV f vs r h
theorem F5:(m8 (CT kS5) 100000 (.pure 5 [])).map (·.v)=some (.bool true):=by kernel_rfl
theorem g5:PureOk Tryz.prog ΓT 5 [] (.bool true):=ran CM F5
end Go.V
