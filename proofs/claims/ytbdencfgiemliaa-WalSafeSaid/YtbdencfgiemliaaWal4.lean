/-
  The log's makers of steps: write and zeroes hand back a closure whose variables lie in new blocks. No condition but, at zeroes, that the places stand in order and below 65536.
-/
import Derived.Test.YtbdencfgiemliaaWal3
namespace Go.Proofs.Ytbdencfgiemliaa
open Go.RowKit
set_option linter.unusedVariables false
set_option linter.unusedSimpArgs false
set_option maxRecDepth 20000
set_option maxHeartbeats 1000000
/-- The step that writes; its four variables lie from block b on. -/
def wstp (b : Nat) : Stp := ⟨74, #[], #[.pointer (some ⟨b, 0, none⟩), .pointer (some ⟨b + 1, 0, none⟩), .pointer (some ⟨b + 2, 0, none⟩), .pointer (some ⟨b + 3, 0, none⟩)]⟩
/-- The step that syncs the disk. -/
def sstp (D : Nat) : Stp := ⟨26, #[.pointer (some ⟨D, 0, none⟩)], #[]⟩
/-- The four variables of a step that writes. -/
def Boxes (w : World) (b G : Nat) (half at' : Int) (A : Option Addr) (n c : Nat) : Prop :=
  w.cell? ⟨b, 0, none⟩ = some (.pointer (some ⟨G, 0, none⟩)) ∧ w.cell? ⟨b + 1, 0, none⟩ = some (.int .i64 half) ∧ w.cell? ⟨b + 2, 0, none⟩ = some (.int .i64 at') ∧ w.cell? ⟨b + 3, 0, none⟩ = some (.slice A n c)
theorem Boxes.keep {S : Nat → Prop} {w w' : World} {b G : Nat} {half at' : Int} {A : Option Addr} {n c : Nat} (h : Boxes w b G half at' A n c) (hk : Keep S w w') (h0 : ¬ S b) (h1 : ¬ S (b + 1)) (h2 : ¬ S (b + 2)) (h3 : ¬ S (b + 3)) : Boxes w' b G half at' A n c :=
  ⟨hk.cell_some h.1 h0, hk.cell_some h.2.1 h1, hk.cell_some h.2.2.1 h2, hk.cell_some h.2.2.2 h3⟩
section
variable {w : World} {G : Nat}
theorem boxes_new (w : World) (G : Nat) (half at' : Int) (A : Option Addr) (n c : Nat) :
    Boxes ((((w.alloc (.cells #[.pointer (some ⟨G, 0, none⟩)] 58)).alloc (.cells #[.int .i64 half] 3)).alloc (.cells #[.int .i64 at'] 3)).alloc (.cells #[.slice A n c] 22)) w.heap.size G half at' A n c := by
  have k1 := (((Keep.alloc (w.alloc (.cells #[.pointer (some ⟨G, 0, none⟩)] 58)) (.cells #[.int .i64 half] 3)).alloc' (.cells #[.int .i64 at'] 3)).alloc' (.cells #[.slice A n c] 22))
  have h0 := (Blk.new w 58 #[.pointer (some ⟨G, 0, none⟩)]).keep0 k1
  have h1 := (Blk.new (w.alloc (.cells #[.pointer (some ⟨G, 0, none⟩)] 58)) 3 #[.int .i64 half]).keep0 ((Keep.alloc _ (.cells #[.int .i64 at'] 3)).alloc' (.cells #[.slice A n c] 22))
  have h2 := (Blk.new ((w.alloc (.cells #[.pointer (some ⟨G, 0, none⟩)] 58)).alloc (.cells #[.int .i64 half] 3)) 3 #[.int .i64 at']).keep0 (Keep.alloc _ (.cells #[.slice A n c] 22))
  have h3 := Blk.new (((w.alloc (.cells #[.pointer (some ⟨G, 0, none⟩)] 58)).alloc (.cells #[.int .i64 half] 3)).alloc (.cells #[.int .i64 at'] 3)) 22 #[.slice A n c]
  refine ⟨h0.cell 0, ?_, ?_, ?_⟩
  · have := h1.cell 0; simpa using this
  · have := h2.cell 0; simpa using this
  · have := h3.cell 0; simpa using this
theorem mkwrite_any (G : Nat) (half at' : Int) (A : Option Addr) (n c : Nat) (w : World) :
    Calls Try.prog 66 #[.pointer (some ⟨G, 0, none⟩), .int .i64 half, .int .i64 at', .slice A n c] w fun e w' => e = .returned (wstp w.heap.size).val ∧ Boxes w' w.heap.size G half at' A n c ∧ Keep0 w w' ∧ w'.heap.size = w.heap.size + 4 := by
  have hb := boxes_new w G half at' A n c
  have HB := Lib.hid hb
  clear hb
  go_enter Try.func66, Try.ntmps66
  go_wp2
  go_ret
  refine ⟨?_, HB.out, (((Keep.alloc w _).alloc' _).alloc' _).alloc' _, by simp⟩
  simp [wstp, Stp.val]
theorem Own.slAt' {w : World} {base n c g : Nat} {l : List UInt8} (h : Own w base 5 (some ⟨g, 0, none⟩) n c (l.map bv)) : Sl w (fun b => b = g) (some ⟨g, 0, none⟩) n c l := by
  have h1 := h.sl
  refine ⟨h1.len, h1.cap, h1.max, h1.nil, ?_⟩
  rcases h1.rd with h2 | ⟨b, o, hA, _, hc⟩
  · exact .inl h2
  · injection hA with hA
    injection hA with hA hB
    subst hA
    subst hB
    exact .inr ⟨_, _, rfl, rfl, hc⟩
theorem mkzeroes_any (G : Nat) (half : Int) (a k : Nat) (to' : Int) (ht : to' = (a : Int) + k) (hk : k ≤ 65536) (ha : a ≤ 65536) (w : World) :
    Calls Try.prog 72 #[.pointer (some ⟨G, 0, none⟩), .int .i64 half, .int .i64 (a : Int), .int .i64 to'] w fun e w' => e = .returned (wstp (w.heap.size + 1)).val ∧ Boxes w' (w.heap.size + 1) G half a (some ⟨w.heap.size, 0, none⟩) k k ∧
      Sl w' (fun b => b = w.heap.size) (some ⟨w.heap.size, 0, none⟩) k k (List.replicate k 0) ∧ Keep0 w w' ∧ w'.heap.size = w.heap.size + 5 := by
  obtain ⟨w1, hmk, hown1, hk1, hs1⟩ := make_zeros (w := w) (to' - (a : Int)) k (by omega) hk
  have HO := Lib.hid hown1
  have HK := Lib.hid hk1
  have HS := Lib.hid hs1
  have hr1 : -9223372036854775808 ≤ to' - (a : Int) := by omega
  have hr2 : to' - (a : Int) ≤ 9223372036854775807 := by omega
  clear hown1 hk1 hs1 ht
  go_enter Try.func72, Try.ntmps72
  go_wp2_with fail
  refine (mkwrite_any G half (a : Int) (some ⟨w.heap.size, 0, none⟩) k k w1).mono ?_
  rintro e w2 ⟨rfl, hb2, hk2, hs2⟩
  rw [HS.out] at hb2 hs2 ⊢
  go_wp2
  go_ret
  exact ⟨rfl, hb2, (HO.out.keep0 hk2).slAt', HK.out.and0 hk2, hs2⟩
end
end Go.Proofs.Ytbdencfgiemliaa
