/-
  A part of a proof: U25.
-/
import Derived.Test.YtkfjenbfbendhaaGreatDoorLk40
set_option linter.unusedSimpArgs false
set_option linter.unusedVariables false
namespace Go.V
open Go Go.Proofs
def typ2:Val:=.tp [.ag [.int .i64 1,.int .i64 0,.int .i64 0,.nils,.sl [.str [104,111,115,116,115],.bool false,.int .i64 2,.int .i64 0,.int .i64 4,.nils,.nils,.sl [.int .i64 1,.int .i64 0,.int .i64 0,.nils,.sl [.str [105,112],.bool false,.int .i64 6,.int .i64 0,.int .i64 8,.nils,.nils,.nils,.str [107,105,110,100],.bool false,.int .i64 7,.int .i64 0,.int .i64 0,.sl [.str [97],.str [98]] 2 none,.nils,.nils] 2 none,.nils] 1 (some 1),.str [110,117,109,98,101,114],.bool false,.int .i64 3,.int .i64 1,.int .i64 1,.nils,.nils,.sl [.int .i64 4,.int .i64 0,.int .i64 9,.nils,.nils,.nils] 1 (some 1),.str [111,110],.bool false,.int .i64 5,.int .i64 0,.int .i64 0,.nils,.nils,.nils,.str [116,108,115],.bool false,.int .i64 1,.int .i64 0,.int .i64 0,.nils,.nils,.nils] 4 none,.nils],.int .i64 127,.int .i64 0]
theorem Am:(m8 (CT kS3) 100000 (.pure 50 [.str rQ])).map (·.v)=some typ2:=by kernel_rfl
theorem Df:PureOk Tryz.prog ΓT 50 [.str rQ] typ2:=ran kE Am
end Go.V
