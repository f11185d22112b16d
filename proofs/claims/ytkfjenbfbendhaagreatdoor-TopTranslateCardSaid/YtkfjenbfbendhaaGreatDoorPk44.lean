/-
  A part of a proof: U29.
-/
import Derived.Test.YtkfjenbfbendhaaGreatDoorPk43
set_option linter.unusedSimpArgs false
set_option linter.unusedVariables false
section
namespace Go.V
open Go Go.Proofs
def kS5 (f:FuncId)(vs:List Val):Option Val:=match f,vs with
 |19,[]=>some texts19
 |_,_=>kS4 f vs
theorem Fi:∀f vs r,kS5 f vs=some r→PureOk Tryz.prog ΓT f vs r:=by
 intro f vs r h;unfold kS5 at h;split at h
 ·cases h;exact g19
 ·exact By f vs r h
theorem KJ:(oU (CT kS5) 100000 (.pure 5 [])).map (·.v)=some (.bool true):=by kernel_rfl
theorem g5:PureOk Tryz.prog ΓT 5 [] (.bool true):=ran Fi KJ
end Go.V
end
