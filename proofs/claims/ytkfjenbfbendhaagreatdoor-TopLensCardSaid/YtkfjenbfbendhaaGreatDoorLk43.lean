/-
  A part of a proof: U26.
-/
import Derived.Test.YtkfjenbfbendhaaGreatDoorLk40
set_option linter.unusedSimpArgs false
set_option linter.unusedVariables false
namespace Go.V
open Go Go.Proofs
def lens3:Val:=.tp [.sl [.int .i64 1,.str [112,111,114,116],.str [110,117,109,98,101,114],.int .i64 0,.int .i64 0,.int .i64 0,.nils,.nils,.nils,.int .i64 0,.int .i64 0,.str [],.nils,.nils,.nils,.nils,.int .i64 6,.str [110,117,109,98,101,114],.str [],.int .i64 0,.int .i64 0,.int .i64 0,.nils,.nils,.nils,.int .i64 0,.int .i64 0,.str [],.nils,.nils,.nils,.nils,.int .i64 4,.str [116,108,115],.str [111,110],.int .i64 0,.int .i64 0,.int .i64 0,.nils,.nils,.nils,.int .i64 0,.int .i64 0,.str [],.nils,.nils,.nils,.nils,.int .i64 10,.str [104,111,115,116,115],.str [],.int .i64 0,.int .i64 0,.int .i64 0,.nils,.nils,.nils,.int .i64 0,.int .i64 0,.str [],.nils,.nils,.nils,.sl [.int .i64 3,.str [111,108,100],.str [],.int .i64 5,.int .i64 0,.int .i64 0,.nils,.nils,.nils,.int .i64 5,.int .i64 0,.str [],.nils,.nils,.nils,.nils,.int .i64 2,.str [107,105,110,100],.str [],.int .i64 7,.int .i64 0,.int .i64 0,.sl [.str [97],.str [98]] 2 none,.nils,.nils,.int .i64 6,.int .i64 0,.str [98],.nils,.nils,.nils,.nils] 2 none] 4 none,.int .i64 128,.int .i64 0]
theorem An:(m8 (CT kS3) 100000 (.pure 51 [.str rR])).map (·.v)=some lens3:=by kernel_rfl
theorem Dg:PureOk Tryz.prog ΓT 51 [.str rR] lens3:=ran kE An
end Go.V
