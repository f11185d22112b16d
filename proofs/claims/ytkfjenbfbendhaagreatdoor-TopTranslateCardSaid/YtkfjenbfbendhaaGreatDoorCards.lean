/-
  DERIVED. GIVEN WITH THE SEED: THE CARDS: each row of YtkfjenbfbendhaaGreatDoorRows.lean that lists a variable, with what it lists TIED to the program's text (the seventh form; the later family's looks); each row that meets fmt, with fmt's text TOLD by the authors' own Lean function (tested against real Go, not proved from fmt's source: count such statements apart). THE CARD IS WHAT COUNTS. Prove the row's statement (the work); the ties are given (YtkfjenbfbendhaaGreatDoorTie.lean); close each card by the builder's one call (the guide's Derived/Test/ToyasCard.lean, 'card_holds'). Laid BY PROGRAM, IN A SANDBOX (cutbox-door.mjs). By AI agents, Wed Nov 11 2026. No macro, syntax, notation, axiom, sorry.
-/
import Derived.Test.YtkfjenbfbendhaaGreatDoorRows
import GoSem.ClaimSeven
namespace Go.Proofs.YtkfjenbfbendhaaGreatDoor
namespace Rows

/-- THE TIED CARD OF 'cabochontop.TopLens'. -/
def topLensCard : Claim7 := { stood := { row := topLensRow, standIns := [], harness := (true, "3115c4713b2c8b95cec64f5d8a50bf8bc099b036091840519f83e3ff95024db0"), looks := true }, kinds := [], alts := [], laidByText := true, laidKinds := [.data, .data, .data, .sentinel, .sentinel, .listed, .data], laidTests := true, laidLooks := .later }
def TopLensCardSaid : Prop := Claim7.holds Tryz.pinned (.plain (OpenSpec.ofChange topLensSpec)) topLensCard

/-- THE TIED CARD OF 'cabochontop.TopTranslate'. -/
def topTranslateCard : Claim7 := { stood := { row := topTranslateRow, standIns := [], harness := (true, "3115c4713b2c8b95cec64f5d8a50bf8bc099b036091840519f83e3ff95024db0"), looks := true }, kinds := [], alts := [], laidByText := true, laidKinds := [.data, .data, .data, .sentinel, .sentinel, .listed, .data], laidTests := true, laidLooks := .later }
def TopTranslateCardSaid : Prop := Claim7.holds Tryz.pinned (.plain (OpenSpec.ofChange topTranslateSpec)) topTranslateCard

/-- THE SECOND FORM's CARD OF 'cabochontop.TopLens'. -/
def topLensUptoCard : Claim7 := { stood := { row := topLensUptoRow, standIns := [], harness := (true, "3115c4713b2c8b95cec64f5d8a50bf8bc099b036091840519f83e3ff95024db0"), looks := true }, kinds := [], alts := [], laidByText := true, laidKinds := [.data, .data, .data, .sentinel, .sentinel, .listed, .data], laidTests := true, laidLooks := .later }
def TopLensUptoCardSaid : Prop := Claim7.holds Tryz.pinned (.plain (OpenSpec.upto topLensSpec)) topLensUptoCard

/-- THE SECOND FORM's CARD OF 'cabochontop.TopTranslate'. -/
def topTranslateUptoCard : Claim7 := { stood := { row := topTranslateUptoRow, standIns := [], harness := (true, "3115c4713b2c8b95cec64f5d8a50bf8bc099b036091840519f83e3ff95024db0"), looks := true }, kinds := [], alts := [], laidByText := true, laidKinds := [.data, .data, .data, .sentinel, .sentinel, .listed, .data], laidTests := true, laidLooks := .later }
def TopTranslateUptoCardSaid : Prop := Claim7.holds Tryz.pinned (.plain (OpenSpec.upto topTranslateSpec)) topTranslateUptoCard
end Rows
end Go.Proofs.YtkfjenbfbendhaaGreatDoor
