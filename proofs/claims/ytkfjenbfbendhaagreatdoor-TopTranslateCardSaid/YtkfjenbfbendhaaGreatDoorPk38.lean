/-
  A part of a proof: U23.
-/
import Derived.Test.YtkfjenbfbendhaaGreatDoorPk35
import Derived.Test.YtkfjenbfbendhaaGreatDoorPk36
import Derived.Test.YtkfjenbfbendhaaGreatDoorPk37
set_option linter.unusedSimpArgs false
set_option linter.unusedVariables false
section
namespace Go.V
open Go Go.Proofs
def kS3 (f:FuncId)(vs:List Val):Option Val:=match f,vs with
 |95,[.str s]=>match mL s uY with
  |true=>some lex1
  |false=>match mL s uZ with
  |true=>some lex2
  |false=>match mL s u0 with
  |true=>some lex3
  |false=>kS2 f vs
 |_,_=>kS2 f vs
theorem ln:∀f vs r,kS3 f vs=some r→PureOk Tryz.prog ΓT f vs r:=by
 intro f vs r h;unfold kS3 at h;split at h
 ·split at h
  ·rename_i h1;cases h;rw[gI h1];exact Hu
  ·split at h
   ·rename_i h1;cases h;rw[gI h1];exact Hv
   ·split at h
    ·rename_i h1;cases h;rw[gI h1];exact Hw
    ·exact rT _ _ _ h
 ·exact rT f vs r h
end Go.V
end
