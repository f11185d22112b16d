/-
  The law package's small (layer 18): it returns true and changes nothing that was there. No condition.
-/
import Derived.Test.YtbdencfgiemliaaWal22
namespace Go.Proofs.Ytbdencfgiemliaa
open Go.RowKit
set_option linter.unusedVariables false
def d18a : DSt := DSt.new (newSize 200)
def d18b : DSt := d18a.openD
def x18b : LSt := d18a.openL
def d18c : DSt := d18b.steps (appendOps 100 0 10 [97])
def d18d : DSt := d18c.steps (compactOps 100 1 2 [99])
def d18e : DSt := d18d.steps (appendOps 100 1 11 [100])
theorem d18_0 : d18a.openE = 0 ∧ d18a.kept.length = 200 := by constructor <;> decide +kernel
theorem d18_1 : x18b = ⟨0, 1, 10, [], [], false⟩ := (d18a.openL_none (by decide +kernel)).1
theorem d18_2 : d18b.stepsE (appendOps 100 0 10 [97]) = 0 ∧ d18b.kept.length = 200 := by constructor <;> decide +kernel
theorem d18_3 : d18c.stepsE (compactOps 100 1 2 [99]) = 0 ∧ d18c.kept.length = 200 := by constructor <;> decide +kernel
theorem d18_4 : d18d.stepsE (appendOps 100 1 11 [100]) = 0 ∧ d18d.kept.length = 200 := by constructor <;> decide +kernel
theorem d18_5 : d18e.openE = 0 ∧ d18e.kept.length = 200 := by constructor <;> decide +kernel
theorem d18_6 : d18e.openL.base = [99] ∧ d18e.openL.recs = [[100]] ∧ d18e.openL.turn = 2 ∧ d18e.openL.stop = 17 ∧ d18e.openL.broken = false := by refine ⟨?_, ?_, ?_, ?_, ?_⟩ <;> decide +kernel
theorem d18_7 : d18e.openD.kept.length = 200 := by decide +kernel
end Go.Proofs.Ytbdencfgiemliaa
