/-
  A part of a proof: U17.
-/
import Derived.Test.YtkfjenbfbendhaaGreatDoorLk35
set_option linter.unusedSimpArgs false
set_option linter.unusedVariables false
namespace Go.V
open Go Go.Proofs
def kwV:Val:=.sl [.str [100,105,99,116],.str [108,105,115,116],.str [111,102],.str [105,110,116],.str [98,111,111,108],.str [98,121,116,101,115],.str [101,110,117,109],.str [114,101,110,97,109,101],.str [116,111],.str [97,100,100],.str [114,101,109,111,118,101],.str [104,111,105,115,116],.str [112,108,117,110,103,101],.str [119,114,97,112],.str [104,101,97,100],.str [99,111,110,118,101,114,116],.str [105,110],.str [109,97,112],.str [111,117,116]] 19 (some 19)
theorem CZ:(m8 (CT kS1) 100000 (.pure 323 [.str kwS])).map (·.v)=some kwV:=by kernel_rfl
theorem f323:PureOk Tryz.prog ΓT 323 [.str kwS] kwV:=ran yU CZ
def kS2 (f:FuncId)(vs:List Val):Option Val:=match f,vs with
 |323,[.str s]=>match kT s kwS with
  |true=>some kwV
  |false=>none
 |_,_=>kS1 f vs
theorem pD:∀f vs r,kS2 f vs=some r→PureOk Tryz.prog ΓT f vs r:=by
 intro f vs r h
 unfold kS2 at h
 split at h
 ·
  split at h
  ·
   rename_i h1
   cases h
   rw[fO h1]
   exact f323
  ·
   cases h
 ·
  exact yU f vs r h
end Go.V
