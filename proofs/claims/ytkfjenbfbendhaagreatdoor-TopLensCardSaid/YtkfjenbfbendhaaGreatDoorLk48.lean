/-
  A part of a proof: U5.
-/
import Derived.Test.YtkfjenbfbendhaaGreatDoorLk23
import Derived.Test.YtkfjenbfbendhaaGreatDoorLk29
import Derived.Test.YtkfjenbfbendhaaGreatDoorLk47
import Derived.Test.YtkfjenbfbendhaaGreatDoorTie
import Derived.Test.YtkfjenbfbendhaaGreatDoorCards
import Derived.ChangeSame
import Derived.ChangeVars
import Derived.JoinedOf
import Derived.RowKit
import Derived.RowKitTokens
import Derived.LaidLaws
import Derived.Lib.LaidTab
import Derived.OpenShut
import Derived.Below
import Derived.Carry
import Derived.SevenTiedAt
set_option linter.unusedSimpArgs false
set_option linter.unusedVariables false
namespace Go.Proofs.YtkfjenbfbendhaaGreatDoor
open Go Go.ChangeShapes Go.WideShapes Go.RowKit Go.V
theorem own:ownKnob Tryz.prog.godebug=none:=by kernel_rfl
theorem sH:laidOutB Tryz.prog=true:=by kernel_rfl
noncomputable def qz (os:Os):World:=
 let N:=(World.settled Tryz.prog os).heap.size
 let w0:=World.holding Tryz.prog os ⟨#[.cells #[.string ⟨#[118,97,108,117,101,32,111,117,116,32,111,102,32,114,97,110,103,101]⟩] 388,.cells #[.string ⟨#[105,110,118,97,108,105,100,32,115,121,110,116,97,120]⟩] 388,.cells (([9,13,1,32,133,101,160,5760,5600,8192,8202,1,8232,8233,1,8239,8287,48,12288,12288,1]:List Int).map fun z=>Value.int .u16 z).toArray 381,.cells #[.slice (some ⟨N+2,0,none⟩) 7 7,.slice none 0 0,.int .i64 2] 378],#[],[]⟩
 let put (h:Array Obj) (g:Nat) (cs:Array Value):Array Obj:=h.modify g fun
  |.cells _ t frozen=>.cells cs t frozen
  |o=>o
 let h1:=put w0.heap 1 (Lib.pow10Tab.map fun z=>Value.int .u64 z).toArray
 let h2:=put h1 2 (spaceTab.map fun z=>Value.int .u8 z).toArray
 let h3:=put h2 3 (([0,1,28,2,29,14,24,3,30,22,20,15,25,17,4,8,31,27,13,23,21,19,16,7,26,12,18,6,11,5,10,9]:List Int).map fun z=>Value.int .u8 z).toArray
 let h4:=put h3 4 (([0,1,56,2,57,49,28,3,61,58,42,50,38,29,17,4,62,47,59,36,45,43,51,22,53,39,33,30,24,18,12,5,63,55,48,27,60,41,37,16,46,35,44,21,52,32,23,11,54,26,40,15,34,20,31,10,25,14,19,9,13,8,7,6]:List Int).map fun z=>Value.int .u8 z).toArray
 let h5:=put h4 5 #[.pointer (some ⟨N+3,0,none⟩)]
 let h6:=put h5 6 #[.iface 386 (.pointer (some ⟨N+1,0,none⟩))]
 let h7:=put h6 7 #[.iface 386 (.pointer (some ⟨N,0,none⟩))]
 {w0 with heap:=h7}
set_option maxRecDepth 100000 in
theorem qO (os:Os)(args:Array Value):laidMet Tryz.prog Rows.topLensRow.laid ((qz os).forCall (fun _ _=>0) ⟨#[],args,[]⟩).memory:=
 laidMet_of_run' 12 (by kernel_rfl) (by kernel_rfl)
end Go.Proofs.YtkfjenbfbendhaaGreatDoor
