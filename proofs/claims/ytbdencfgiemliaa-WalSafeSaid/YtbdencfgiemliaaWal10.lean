/-
  What a half's bytes hold: its frames, and what stands behind them. Plain; no program. No condition.
-/
import Derived.Test.YtbdencfgiemliaaWal9
import Derived.Test.YtbdencfgiemliaaWal6
namespace Go.Proofs.Ytbdencfgiemliaa
open Go.RowKit
set_option linter.unusedVariables false
/-- The frames ahead, and what stands behind them; k bounds how many. -/
def framesF : Nat → List UInt8 → List (List UInt8) × List UInt8
  | 0, l => ([], l)
  | k + 1, l => if isFirst l then (heldL l :: (framesF k (restL l)).1, (framesF k (restL l)).2) else ([], l)
/-- A half's frames, and what stands behind them. -/
def framesOf (l : List UInt8) : List (List UInt8) × List UInt8 := framesF l.length (l.drop 5)
theorem framesF_no {k : Nat} {l : List UInt8} (h : isFirst l = false) : framesF k l = ([], l) := by
  cases k with
  | zero => rfl
  | succ k => unfold framesF; rw [h]; rfl
theorem framesF_yes {k : Nat} {l : List UInt8} (h : isFirst l = true) : framesF (k + 1) l = (heldL l :: (framesF k (restL l)).1, (framesF k (restL l)).2) := by
  rw [framesF, if_pos h]
theorem isFirst_has {l : List UInt8} (h : isFirst l = true) : hasFrame l := by
  unfold isFirst at h
  split at h
  · assumption
  · cases h
theorem restL_lt {l : List UInt8} (h : isFirst l = true) : (restL l).length + 5 ≤ l.length := by
  have hf := isFirst_has h
  unfold restL
  rw [if_pos hf, List.length_drop]
  have := hf.2.2.1
  omega
theorem heldL_le (l : List UInt8) : (heldL l).length ≤ l.length := by
  unfold heldL
  split
  · unfold wholeL midL
    split
    · simp; omega
    · simp
  · simp
theorem framesF_rest_le (k : Nat) : ∀ l : List UInt8, (framesF k l).2.length ≤ l.length := by
  induction k with
  | zero => intro l; exact Nat.le_refl _
  | succ k ih =>
    intro l
    by_cases h : isFirst l = true
    · rw [framesF_yes h]
      have := restL_lt h
      have := ih (restL l)
      simp only
      omega
    · rw [framesF_no (by simpa using h)]
      exact Nat.le_refl _
/-- More rounds than bytes make no difference. -/
theorem framesF_more (k : Nat) : ∀ (l : List UInt8) (j : Nat), l.length ≤ k → l.length ≤ j → framesF k l = framesF j l := by
  induction k with
  | zero =>
    intro l j h1 h2
    have hl : l = [] := List.eq_nil_of_length_eq_zero (by omega)
    subst hl
    rw [framesF_no (k := j) (by decide)]
    rfl
  | succ k ih =>
    intro l j h1 h2
    by_cases h : isFirst l = true
    · have hlt := restL_lt h
      obtain ⟨j', rfl⟩ : ∃ j', j = j' + 1 := ⟨j - 1, by omega⟩
      rw [framesF_yes h, framesF_yes h, ih (restL l) j' (by omega) (by omega)]
    · rw [framesF_no (by simpa using h), framesF_no (by simpa using h)]
end Go.Proofs.Ytbdencfgiemliaa
