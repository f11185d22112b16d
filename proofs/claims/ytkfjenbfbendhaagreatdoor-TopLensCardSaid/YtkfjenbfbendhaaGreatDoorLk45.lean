/-
  A part of a proof: U28.
-/
import Derived.Test.YtkfjenbfbendhaaGreatDoorLk41
import Derived.Test.YtkfjenbfbendhaaGreatDoorLk42
import Derived.Test.YtkfjenbfbendhaaGreatDoorLk43
import Derived.Test.YtkfjenbfbendhaaGreatDoorLk44
set_option linter.unusedSimpArgs false
set_option linter.unusedVariables false
namespace Go.V
open Go Go.Proofs
def texts19:Val:=.tp [.ag [.int .i64 1,.int .i64 0,.int .i64 0,.nils,.sl [.str [104,111,115,116,115],.bool false,.int .i64 2,.int .i64 0,.int .i64 4,.nils,.nils,.sl [.int .i64 1,.int .i64 0,.int .i64 0,.nils,.sl [.str [105,112],.bool false,.int .i64 6,.int .i64 0,.int .i64 8,.nils,.nils,.nils,.str [111,108,100],.bool false,.int .i64 5,.int .i64 0,.int .i64 0,.nils,.nils,.nils] 2 none,.nils] 1 (some 1),.str [112,111,114,116],.bool false,.int .i64 4,.int .i64 0,.int .i64 9,.nils,.nils,.nils,.str [116,108,115],.bool false,.int .i64 1,.int .i64 0,.int .i64 0,.nils,.sl [.str [111,110],.bool false,.int .i64 5,.int .i64 0,.int .i64 0,.nils,.nils,.nils] 1 none,.nils] 3 none,.nils],.ag [.int .i64 1,.int .i64 0,.int .i64 0,.nils,.sl [.str [104,111,115,116,115],.bool false,.int .i64 2,.int .i64 0,.int .i64 4,.nils,.nils,.sl [.int .i64 1,.int .i64 0,.int .i64 0,.nils,.sl [.str [105,112],.bool false,.int .i64 6,.int .i64 0,.int .i64 8,.nils,.nils,.nils,.str [107,105,110,100],.bool false,.int .i64 7,.int .i64 0,.int .i64 0,.sl [.str [97],.str [98]] 2 none,.nils,.nils] 2 none,.nils] 1 (some 1),.str [110,117,109,98,101,114],.bool false,.int .i64 3,.int .i64 1,.int .i64 1,.nils,.nils,.sl [.int .i64 4,.int .i64 0,.int .i64 9,.nils,.nils,.nils] 1 (some 1),.str [111,110],.bool false,.int .i64 5,.int .i64 0,.int .i64 0,.nils,.nils,.nils,.str [116,108,115],.bool false,.int .i64 1,.int .i64 0,.int .i64 0,.nils,.nils,.nils] 4 none,.nils],.sl [.int .i64 1,.str [112,111,114,116],.str [110,117,109,98,101,114],.int .i64 0,.int .i64 0,.int .i64 0,.nils,.nils,.nils,.int .i64 0,.int .i64 0,.str [],.nils,.nils,.nils,.nils,.int .i64 6,.str [110,117,109,98,101,114],.str [],.int .i64 0,.int .i64 0,.int .i64 0,.nils,.nils,.nils,.int .i64 0,.int .i64 0,.str [],.nils,.nils,.nils,.nils,.int .i64 4,.str [116,108,115],.str [111,110],.int .i64 0,.int .i64 0,.int .i64 0,.nils,.nils,.nils,.int .i64 0,.int .i64 0,.str [],.nils,.nils,.nils,.nils,.int .i64 10,.str [104,111,115,116,115],.str [],.int .i64 0,.int .i64 0,.int .i64 0,.nils,.nils,.nils,.int .i64 0,.int .i64 0,.str [],.nils,.nils,.nils,.sl [.int .i64 3,.str [111,108,100],.str [],.int .i64 5,.int .i64 0,.int .i64 0,.nils,.nils,.nils,.int .i64 5,.int .i64 0,.str [],.nils,.nils,.nils,.nils,.int .i64 2,.str [107,105,110,100],.str [],.int .i64 7,.int .i64 0,.int .i64 0,.sl [.str [97],.str [98]] 2 none,.nils,.nils,.int .i64 6,.int .i64 0,.str [98],.nils,.nils,.nils,.nils] 2 none] 4 none,.ag [.int .i64 1,.int .i64 0,.str [],.sl [.str [104,111,115,116,115],.str [112,111,114,116],.str [116,108,115]] 3 none,.sl [.int .i64 2,.int .i64 0,.str [],.sl [.str [104]] 1 none,.sl [.int .i64 1,.int .i64 0,.str [],.sl [.str [105,112],.str [111,108,100]] 2 none,.sl [.int .i64 6,.int .i64 0,.str [120],.nils,.nils,.int .i64 5,.int .i64 1,.str [],.nils,.nils] 2 none] 1 none,.int .i64 4,.int .i64 5,.str [],.nils,.nils,.int .i64 1,.int .i64 0,.str [],.sl [.str [111,110]] 1 none,.sl [.int .i64 5,.int .i64 1,.str [],.nils,.nils] 1 none] 3 none],.bool true]
def kS4 (f:FuncId)(vs:List Val):Option Val:=match f,vs with
 |50,[.str s]=>match kT s rP with
  |true=>some typ1
  |false=>match kT s rQ with
  |true=>some typ2
  |false=>kS3 f vs
 |51,[.str s]=>match kT s rR with
  |true=>some lens3
  |false=>kS3 f vs
 |52,[.str s]=>match kT s zP with
  |true=>some doc4
  |false=>kS3 f vs
 |_,_=>kS3 f vs
theorem yV:∀f vs r,kS4 f vs=some r→PureOk Tryz.prog ΓT f vs r:=by
 intro f vs r h
 unfold kS4 at h
 split at h
 ·
  split at h
  ·
   rename_i h1;cases h;rw[fO h1];exact De
  ·
   split at h
   ·
    rename_i h1;cases h;rw[fO h1];exact Df
   ·
    exact kE _ _ _ h
 ·
  split at h
  ·
   rename_i h1;cases h;rw[fO h1];exact Dg
  ·
   exact kE _ _ _ h
 ·
  split at h
  ·
   rename_i h1;cases h;rw[fO h1];exact Dh
  ·
   exact kE _ _ _ h
 ·
  exact kE f vs r h
theorem EC:(m8 (CT kS4) 100000 (.pure 19 [])).map (·.v)=some texts19:=by kernel_rfl
theorem g19:PureOk Tryz.prog ΓT 19 [] texts19:=ran yV EC
end Go.V
