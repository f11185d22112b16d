/-
  A part of a proof: U22.
-/
import Derived.Test.YtkfjenbfbendhaaGreatDoorLk36
set_option linter.unusedSimpArgs false
set_option linter.unusedVariables false
namespace Go.V
open Go Go.Proofs
def lex3:Val:=.tp [.sl [.int .i64 1,.str [114,101,110,97,109,101],.int .i64 0,.int .i64 1,.str [112,111,114,116],.int .i64 7,.int .i64 1,.str [116,111],.int .i64 12,.int .i64 1,.str [110,117,109,98,101,114],.int .i64 15,.int .i64 4,.str [59],.int .i64 21,.int .i64 1,.str [119,114,97,112],.int .i64 23,.int .i64 1,.str [110,117,109,98,101,114],.int .i64 28,.int .i64 4,.str [59],.int .i64 34,.int .i64 1,.str [104,111,105,115,116],.int .i64 36,.int .i64 1,.str [111,110],.int .i64 42,.int .i64 1,.str [111,117,116],.int .i64 45,.int .i64 1,.str [111,102],.int .i64 49,.int .i64 1,.str [116,108,115],.int .i64 52,.int .i64 4,.str [59],.int .i64 55,.int .i64 1,.str [109,97,112],.int .i64 57,.int .i64 1,.str [104,111,115,116,115],.int .i64 61,.int .i64 4,.str [123],.int .i64 67,.int .i64 1,.str [114,101,109,111,118,101],.int .i64 68,.int .i64 1,.str [111,108,100],.int .i64 75,.int .i64 4,.str [58],.int .i64 78,.int .i64 1,.str [98,111,111,108],.int .i64 80,.int .i64 4,.str [61],.int .i64 85,.int .i64 1,.str [102,97,108,115,101],.int .i64 87,.int .i64 4,.str [59],.int .i64 92,.int .i64 1,.str [97,100,100],.int .i64 94,.int .i64 1,.str [107,105,110,100],.int .i64 98,.int .i64 4,.str [58],.int .i64 102,.int .i64 1,.str [101,110,117,109],.int .i64 104,.int .i64 4,.str [40],.int .i64 109,.int .i64 3,.str [34,97,34],.int .i64 110,.int .i64 4,.str [44],.int .i64 113,.int .i64 3,.str [34,98,34],.int .i64 115,.int .i64 4,.str [41],.int .i64 118,.int .i64 4,.str [61],.int .i64 120,.int .i64 3,.str [34,98,34],.int .i64 122,.int .i64 4,.str [59],.int .i64 125,.int .i64 4,.str [125],.int .i64 126,.int .i64 4,.str [59],.int .i64 127] 38 none,.int .i64 128,.int .i64 0]
theorem Ar:(m8 (CT kS2) 100000 (.pure 95 [.str rR])).map (·.v)=some lex3:=by kernel_rfl
theorem Dk:PureOk Tryz.prog ΓT 95 [.str rR] lex3:=ran pD Ar
end Go.V
