/-
  A part of a proof: U23.
-/
import Derived.Test.YtkfjenbfbendhaaGreatDoorLk37
import Derived.Test.YtkfjenbfbendhaaGreatDoorLk38
import Derived.Test.YtkfjenbfbendhaaGreatDoorLk39
set_option linter.unusedSimpArgs false
set_option linter.unusedVariables false
namespace Go.V
open Go Go.Proofs
def kS3 (f:FuncId)(vs:List Val):Option Val:=match f,vs with
 |95,[.str s]=>match kT s rP with
  |true=>some lex1
  |false=>match kT s rQ with
  |true=>some lex2
  |false=>match kT s rR with
  |true=>some lex3
  |false=>kS2 f vs
 |_,_=>kS2 f vs
theorem kE:∀f vs r,kS3 f vs=some r→PureOk Tryz.prog ΓT f vs r:=by
 intro f vs r h
 unfold kS3 at h
 split at h
 ·
  split at h
  ·
   rename_i h1;cases h;rw[fO h1];exact Di
  ·
   split at h
   ·
    rename_i h1;cases h;rw[fO h1];exact Dj
   ·
    split at h
    ·
     rename_i h1;cases h;rw[fO h1];exact Dk
    ·
     exact pD _ _ _ h
 ·
  exact pD f vs r h
end Go.V
