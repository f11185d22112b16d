/-
  A part of a proof: U24.
-/
import Derived.Test.YtkfjenbfbendhaaGreatDoorLk40
set_option linter.unusedSimpArgs false
set_option linter.unusedVariables false
namespace Go.V
open Go Go.Proofs
def typ1:Val:=.tp [.ag [.int .i64 1,.int .i64 0,.int .i64 0,.nils,.sl [.str [104,111,115,116,115],.bool false,.int .i64 2,.int .i64 0,.int .i64 4,.nils,.nils,.sl [.int .i64 1,.int .i64 0,.int .i64 0,.nils,.sl [.str [105,112],.bool false,.int .i64 6,.int .i64 0,.int .i64 8,.nils,.nils,.nils,.str [111,108,100],.bool false,.int .i64 5,.int .i64 0,.int .i64 0,.nils,.nils,.nils] 2 none,.nils] 1 (some 1),.str [112,111,114,116],.bool false,.int .i64 4,.int .i64 0,.int .i64 9,.nils,.nils,.nils,.str [116,108,115],.bool false,.int .i64 1,.int .i64 0,.int .i64 0,.nils,.sl [.str [111,110],.bool false,.int .i64 5,.int .i64 0,.int .i64 0,.nils,.nils,.nils] 1 none,.nils] 3 none,.nils],.int .i64 94,.int .i64 0]
theorem Al:(m8 (CT kS3) 100000 (.pure 50 [.str rP])).map (·.v)=some typ1:=by kernel_rfl
theorem De:PureOk Tryz.prog ΓT 50 [.str rP] typ1:=ran kE Al
end Go.V
