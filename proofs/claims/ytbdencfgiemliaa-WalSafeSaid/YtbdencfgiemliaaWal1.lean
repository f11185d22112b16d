/-
  The log's block, and contracts of its small calls: size, Room, Turn, Broken, Base, may. No condition beyond that the log lies so.
-/
import Derived.Test.YtbdencfgiemliaaWal0
namespace Go.Proofs.Ytbdencfgiemliaa
open Go.RowKit
/-- The log's seven cells, by their values. -/
def logCells (D : Nat) (half turn stop : Int) (B R : Value) (broken : Bool) : Array Value := #[.pointer (some ⟨D, 0, none⟩), .int .i64 half, .int .i64 turn, .int .i64 stop, B, R, .bool broken]
section
variable {F : Nat → Prop} {w : World} {D G m : Nat} {s : DSt} {half turn stop : Int} {B R : Value} {broken : Bool}
theorem log_cells (h : Blk w G 86 (logCells D half turn stop B R broken)) : w.cell? ⟨G, 0, none⟩ = some (.pointer (some ⟨D, 0, none⟩)) ∧ w.cell? ⟨G, 1, none⟩ = some (.int .i64 half) ∧ w.cell? ⟨G, 2, none⟩ = some (.int .i64 turn) ∧ w.cell? ⟨G, 3, none⟩ = some (.int .i64 stop) ∧ w.cell? ⟨G, 4, none⟩ = some B ∧ w.cell? ⟨G, 5, none⟩ = some R ∧ w.cell? ⟨G, 6, none⟩ = some (.bool broken) ∧ ∀ i, w.frozen? ⟨G, i, none⟩ = false :=
  ⟨h.cell 0, h.cell 1, h.cell 2, h.cell 3, h.cell 4, h.cell 5, h.cell 6, h.frozen⟩
set_option maxRecDepth 20000
set_option maxHeartbeats 400000
theorem logTurn_any (h : Blk w G 86 (logCells D half turn stop B R broken)) : Calls Try.prog 45 #[.pointer (some ⟨G, 0, none⟩)] w fun e w' => e = .returned (.int .i64 turn) ∧ w = w' := by
  obtain ⟨c0, c1, c2, c3, c4, c5, c6, _⟩ := log_cells h
  clear h
  go_enter Try.func45, Try.ntmps45
  go_wp2
  go_ret
  exact ⟨rfl, rfl⟩
theorem broken_any (h : Blk w G 86 (logCells D half turn stop B R broken)) : Calls Try.prog 49 #[.pointer (some ⟨G, 0, none⟩)] w fun e w' => e = .returned (.bool broken) ∧ w = w' := by
  obtain ⟨c0, c1, c2, c3, c4, c5, c6, _⟩ := log_cells h
  clear h
  go_enter Try.func49, Try.ntmps49
  go_wp2
  go_ret
  exact ⟨rfl, rfl⟩
theorem logSize_any (hd : Dsk w D s m F) (h : Blk w G 86 (logCells D half turn stop B R broken)) : Calls Try.prog 67 #[.pointer (some ⟨G, 0, none⟩)] w fun e w' => e = .returned (.int .i64 ((s.kept.length / 2 : Nat) : Int)) ∧ w = w' := by
  have hs := hd.ok.size
  obtain ⟨c0, c1, c2, c3, c4, c5, c6, _⟩ := log_cells h
  have HD := Lib.hid hd
  clear h hd
  go_enter Try.func67, Try.ntmps67
  go_wp2_with fail
  refine (size_any HD.out).mono ?_
  rintro e w' ⟨rfl, rfl⟩
  go_wp2
  go_ret
  exact ⟨rfl, rfl⟩
theorem may_any (A : Option Addr) (n c : Nat) (room : Int) (hn : n ≤ 1073741824) (h : Blk w G 86 (logCells D half turn stop B R broken)) :
    Calls Try.prog 63 #[.pointer (some ⟨G, 0, none⟩), .slice A n c, .int .i64 room] w fun e w' => e = .returned (.int .i64 (if broken = true then 15 else if 8192 < n then 1 else if room < (n : Int) + 5 then 2 else 0)) ∧ w = w' := by
  obtain ⟨c0, c1, c2, c3, c4, c5, c6, _⟩ := log_cells h
  clear h
  cases broken with
  | true =>
    rw [if_pos rfl]
    go_enter Try.func63, Try.ntmps63
    go_wp2
    go_ret
    exact ⟨rfl, rfl⟩
  | false =>
    rw [if_neg (by simp)]
    by_cases h1 : 8192 < n
    · rw [if_pos h1]
      go_enter Try.func63, Try.ntmps63
      go_wp2
      go_ret
      exact ⟨rfl, rfl⟩
    · rw [if_neg h1]
      by_cases h2 : room < (n : Int) + 5
      · rw [if_pos h2]
        go_enter Try.func63, Try.ntmps63
        go_wp2
        go_ret
        exact ⟨rfl, rfl⟩
      · rw [if_neg h2]
        go_enter Try.func63, Try.ntmps63
        go_wp2
        go_ret
        exact ⟨rfl, rfl⟩
theorem base_any (l : List UInt8) (F : Nat → Prop) (A : Option Addr) (n c : Nat) (hsl : Sl w F A n c l) (hm : n ≤ 140737488355328) (h : Blk w G 86 (logCells D half turn stop (.slice A n c) R broken)) :
    Calls Try.prog 46 #[.pointer (some ⟨G, 0, none⟩)] w fun e w' => ∃ A' c', e = .returned (.slice A' n c') ∧ Own w' w.heap.size 5 A' n c' (l.map bv) ∧ Keep0 w w' := by
  obtain ⟨c0, c1, c2, c3, c4, c5, c6, _⟩ := log_cells h
  have HS := Lib.hid hsl
  clear h hsl
  go_enter Try.func46, Try.ntmps46
  go_wp2_with fail
  refine (clone_any l F A n c w HS.out hm).mono ?_
  rintro e w1 ⟨A1, c1, rfl, hown1, hk1⟩
  go_wp2
  go_ret
  exact ⟨A1, c1, rfl, hown1, hk1⟩
end
end Go.Proofs.Ytbdencfgiemliaa
