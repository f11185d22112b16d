/-
  A part of a proof: U21.
-/
import Derived.Test.YtkfjenbfbendhaaGreatDoorPk34
set_option linter.unusedSimpArgs false
set_option linter.unusedVariables false
section
namespace Go.V
open Go Go.Proofs
def lex2:Val:=.tp [.sl [.int .i64 4,.str [123],.int .i64 0,.int .i64 1,.str [110,117,109,98,101,114],.int .i64 1,.int .i64 4,.str [58],.int .i64 7,.int .i64 1,.str [108,105,115,116],.int .i64 9,.int .i64 4,.str [40],.int .i64 14,.int .i64 2,.str [49],.int .i64 15,.int .i64 4,.str [46,46],.int .i64 17,.int .i64 2,.str [49],.int .i64 20,.int .i64 4,.str [41],.int .i64 21,.int .i64 1,.str [111,102],.int .i64 23,.int .i64 1,.str [105,110,116],.int .i64 26,.int .i64 4,.str [40],.int .i64 30,.int .i64 2,.str [48],.int .i64 31,.int .i64 4,.str [46,46],.int .i64 33,.int .i64 2,.str [57],.int .i64 36,.int .i64 4,.str [41],.int .i64 37,.int .i64 4,.str [44],.int .i64 38,.int .i64 1,.str [111,110],.int .i64 40,.int .i64 4,.str [58],.int .i64 42,.int .i64 1,.str [98,111,111,108],.int .i64 44,.int .i64 4,.str [44],.int .i64 48,.int .i64 1,.str [116,108,115],.int .i64 50,.int .i64 4,.str [58],.int .i64 53,.int .i64 4,.str [123],.int .i64 55,.int .i64 4,.str [125],.int .i64 56,.int .i64 4,.str [44],.int .i64 57,.int .i64 1,.str [104,111,115,116,115],.int .i64 59,.int .i64 4,.str [58],.int .i64 64,.int .i64 1,.str [100,105,99,116],.int .i64 66,.int .i64 4,.str [40],.int .i64 71,.int .i64 2,.str [48],.int .i64 72,.int .i64 4,.str [46,46],.int .i64 74,.int .i64 2,.str [52],.int .i64 77,.int .i64 4,.str [41],.int .i64 78,.int .i64 1,.str [111,102],.int .i64 80,.int .i64 4,.str [123],.int .i64 83,.int .i64 1,.str [105,112],.int .i64 84,.int .i64 4,.str [58],.int .i64 86,.int .i64 1,.str [98,121,116,101,115],.int .i64 88,.int .i64 4,.str [40],.int .i64 94,.int .i64 2,.str [48],.int .i64 95,.int .i64 4,.str [46,46],.int .i64 97,.int .i64 2,.str [56],.int .i64 100,.int .i64 4,.str [41],.int .i64 101,.int .i64 4,.str [44],.int .i64 102,.int .i64 1,.str [107,105,110,100],.int .i64 104,.int .i64 4,.str [58],.int .i64 108,.int .i64 1,.str [101,110,117,109],.int .i64 110,.int .i64 4,.str [40],.int .i64 115,.int .i64 3,.str [34,97,34],.int .i64 116,.int .i64 4,.str [44],.int .i64 119,.int .i64 3,.str [34,98,34],.int .i64 121,.int .i64 4,.str [41],.int .i64 124,.int .i64 4,.str [125],.int .i64 125,.int .i64 4,.str [125],.int .i64 126] 55 none,.int .i64 127,.int .i64 0]
theorem EO:(oU (CT kS2) 100000 (.pure 95 [.str uZ])).map (·.v)=some lex2:=by kernel_rfl
theorem Hv:PureOk Tryz.prog ΓT 95 [.str uZ] lex2:=ran rT EO
end Go.V
end
