/-
  Plain facts on disks: what each call leaves of the size, of down and of armed. No program. No condition.
-/
import Derived.Test.YtbdencfgiemliaaDisk0
namespace Go.Proofs.Ytbdencfgiemliaa
theorem DSt.stop_down (s : DSt) : s.stop.down = decide (s.armed = 1) := rfl
theorem DSt.stop_kept (s : DSt) : s.stop.kept = s.kept := rfl
theorem DSt.flush_len (s : DSt) (n : Nat) : (s.flush n).kept.length = s.kept.length := layAll_len _ _ _
theorem DSt.sync_len (s : DSt) : s.sync.kept.length = s.kept.length := by
  unfold DSt.sync
  split
  · rfl
  · split
    · rfl
    · exact DSt.flush_len _ _
theorem DSt.put_len (s : DSt) (a : Nat) (b : List UInt8) : (s.put a b).kept.length = s.kept.length := rfl
theorem DSt.write_len (s : DSt) (a : Int) (b : List UInt8) : (s.write a b).kept.length = s.kept.length := by
  unfold DSt.write
  split
  · rfl
  · rfl
theorem DSt.restart_len (s : DSt) (k : Int) : (s.restart k).kept.length = s.kept.length := DSt.flush_len _ _
/-- What a call that would tell OK tells, and leaves of down and armed. -/
theorem DSt.sync_up (s : DSt) (h : s.down = false) : s.syncE = (if s.armed = 1 then 15 else 0) ∧ s.sync.down = decide (s.armed = 1) ∧ s.sync.armed = s.armed - 1 := by
  unfold DSt.syncE DSt.sync DSt.errno
  rw [h, DSt.stop_down]
  by_cases h1 : s.armed = 1
  · simp [h1, DSt.stop]
  · simp [h1, DSt.stop, DSt.flush]
theorem DSt.sync_down (s : DSt) (h : s.down = true) : s.syncE = 15 ∧ s.sync = s := by
  unfold DSt.syncE DSt.sync
  rw [h]; simp
theorem DSt.write_up (s : DSt) (a : Int) (b : List UInt8) (h : s.ask a b.length = 0) : s.writeE a b = (if s.armed = 1 then 15 else 0) ∧ (s.write a b).down = decide (s.armed = 1) ∧ (s.write a b).armed = s.armed - 1 ∧ s.write a b = s.put a.toNat b := by
  unfold DSt.writeE DSt.write DSt.errno
  rw [if_pos h, if_pos h]
  refine ⟨?_, rfl, rfl, rfl⟩
  show (if decide (s.armed = 1) = true then (15 : Int) else 0) = _
  simp
theorem DSt.ask_down (s : DSt) (a n : Int) (h : s.down = true) : s.ask a n = 15 := by unfold DSt.ask; rw [h]; rfl
theorem DSt.write_down (s : DSt) (a : Int) (b : List UInt8) (h : s.down = true) : s.writeE a b = 15 ∧ s.write a b = s := by
  unfold DSt.writeE DSt.write
  rw [DSt.ask_down s _ _ h]; simp
theorem DSt.ask_ok (s : DSt) (a n : Nat) (h : s.down = false) (hn : a + n ≤ s.kept.length) : s.ask (a : Int) (n : Int) = 0 := by
  unfold DSt.ask
  rw [if_neg (by simp [h]), if_neg (by omega), if_neg (by omega)]
end Go.Proofs.Ytbdencfgiemliaa
