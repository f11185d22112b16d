/-
  A part of a proof: U20.
-/
import Derived.Test.YtkfjenbfbendhaaGreatDoorLk36
set_option linter.unusedSimpArgs false
set_option linter.unusedVariables false
namespace Go.V
open Go Go.Proofs
def lex1:Val:=.tp [.sl [.int .i64 4,.str [123],.int .i64 0,.int .i64 1,.str [112,111,114,116],.int .i64 1,.int .i64 4,.str [58],.int .i64 5,.int .i64 1,.str [105,110,116],.int .i64 7,.int .i64 4,.str [40],.int .i64 11,.int .i64 2,.str [48],.int .i64 12,.int .i64 4,.str [46,46],.int .i64 14,.int .i64 2,.str [57],.int .i64 17,.int .i64 4,.str [41],.int .i64 18,.int .i64 4,.str [44],.int .i64 19,.int .i64 1,.str [116,108,115],.int .i64 21,.int .i64 4,.str [58],.int .i64 24,.int .i64 4,.str [123],.int .i64 26,.int .i64 1,.str [111,110],.int .i64 27,.int .i64 4,.str [58],.int .i64 29,.int .i64 1,.str [98,111,111,108],.int .i64 31,.int .i64 4,.str [125],.int .i64 35,.int .i64 4,.str [44],.int .i64 36,.int .i64 1,.str [104,111,115,116,115],.int .i64 38,.int .i64 4,.str [58],.int .i64 43,.int .i64 1,.str [100,105,99,116],.int .i64 45,.int .i64 4,.str [40],.int .i64 50,.int .i64 2,.str [48],.int .i64 51,.int .i64 4,.str [46,46],.int .i64 53,.int .i64 2,.str [52],.int .i64 56,.int .i64 4,.str [41],.int .i64 57,.int .i64 1,.str [111,102],.int .i64 59,.int .i64 4,.str [123],.int .i64 62,.int .i64 1,.str [105,112],.int .i64 63,.int .i64 4,.str [58],.int .i64 65,.int .i64 1,.str [98,121,116,101,115],.int .i64 67,.int .i64 4,.str [40],.int .i64 73,.int .i64 2,.str [48],.int .i64 74,.int .i64 4,.str [46,46],.int .i64 76,.int .i64 2,.str [56],.int .i64 79,.int .i64 4,.str [41],.int .i64 80,.int .i64 4,.str [44],.int .i64 81,.int .i64 1,.str [111,108,100],.int .i64 83,.int .i64 4,.str [58],.int .i64 86,.int .i64 1,.str [98,111,111,108],.int .i64 88,.int .i64 4,.str [125],.int .i64 92,.int .i64 4,.str [125],.int .i64 93] 42 none,.int .i64 94,.int .i64 0]
theorem Ap:(m8 (CT kS2) 100000 (.pure 95 [.str rP])).map (·.v)=some lex1:=by kernel_rfl
theorem Di:PureOk Tryz.prog ΓT 95 [.str rP] lex1:=ran pD Ap
end Go.V
