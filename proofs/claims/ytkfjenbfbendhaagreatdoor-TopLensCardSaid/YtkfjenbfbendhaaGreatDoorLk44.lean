/-
  A part of a proof: U27.
-/
import Derived.Test.YtkfjenbfbendhaaGreatDoorLk40
set_option linter.unusedSimpArgs false
set_option linter.unusedVariables false
namespace Go.V
open Go Go.Proofs
def doc4:Val:=.tp [.ag [.int .i64 1,.int .i64 0,.str [],.sl [.str [104,111,115,116,115],.str [112,111,114,116],.str [116,108,115]] 3 none,.sl [.int .i64 2,.int .i64 0,.str [],.sl [.str [104]] 1 none,.sl [.int .i64 1,.int .i64 0,.str [],.sl [.str [105,112],.str [111,108,100]] 2 none,.sl [.int .i64 6,.int .i64 0,.str [120],.nils,.nils,.int .i64 5,.int .i64 1,.str [],.nils,.nils] 2 none] 1 none,.int .i64 4,.int .i64 5,.str [],.nils,.nils,.int .i64 1,.int .i64 0,.str [],.sl [.str [111,110]] 1 none,.sl [.int .i64 5,.int .i64 1,.str [],.nils,.nils] 1 none] 3 none],.int .i64 68,.int .i64 0]
theorem Ao:(m8 (CT kS3) 100000 (.pure 52 [.str zP])).map (·.v)=some doc4:=by kernel_rfl
theorem Dh:PureOk Tryz.prog ΓT 52 [.str zP] doc4:=ran kE Ao
end Go.V
