/-
  Contract of the closure in a disk's lay: one byte is laid over the bytes that it has captured.
-/
import Derived.Test.YtbdencfgiemliaaDisk2
namespace Go.Proofs.Ytbdencfgiemliaa
open Go.RowKit
def BlkOf (A : Option Addr) : Nat → Prop := fun b => ∃ a, A = some a ∧ b = a.block
set_option maxRecDepth 20000
set_option maxHeartbeats 400000
theorem lay1_any {w : World} {base n c b3 b22 : Nat} {A : Option Addr} {o : List UInt8} (p start : Nat) (x : UInt8) (hp : p < 4611686018427387904) (hst : start < 4611686018427387904) (h3 : w.cell? ⟨b3, 0, none⟩ = some (.int .i64 (start : Int))) (h22 : w.cell? ⟨b22, 0, none⟩ = some (.slice A n c)) (hown : Own w base 5 A n c (o.map bv)) :
    Calls Try.prog 69 #[.int .i64 (p : Int), .int .u8 (x.toNat : Int), .pointer (some ⟨b3, 0, none⟩), .pointer (some ⟨b22, 0, none⟩)] w fun e w' => e = .returned (.tuple #[]) ∧ Own w' base 5 A n c ((layOne start o (p, x)).map bv) ∧ Keep (BlkOf A) w w' := by
  have hl := hown.len
  rw [List.length_map] at hl
  by_cases h1 : start ≤ p
  · obtain ⟨k, rfl⟩ : ∃ k, p = start + k := ⟨p - start, by omega⟩
    by_cases h2 : k < n
    · have e : layOne start o (start + k, x) = o.set k x := by
        unfold layOne
        simp only [Nat.add_sub_cancel_left, Nat.le_add_right, true_and]
        rw [if_pos (by omega)]
      rw [e]
      obtain ⟨g, rfl, hb, hg, ⟨u, hcu, _⟩, hfz, hset⟩ := hown.set_ h2
      have hfin := hset (bv x)
      rw [← List.map_set] at hfin
      have hk := Keep.setCell (S := BlkOf (some ⟨g, 0, none⟩)) w ⟨g, k, none⟩ (bv x) ⟨_, rfl, rfl⟩
      unfold bv at hk
      have e2 : bv x = .int .u8 (x.toNat : Int) := rfl
      rw [e2] at hfin
      have HF := Lib.hid hfin
      have HK := Lib.hid hk
      clear hfin hk hset e e2 hown h1 hl
      go_enter Try.func69, Try.ntmps69
      go_wp2
      go_end0
      exact ⟨rfl, HF.out, HK.out⟩
    · have e : layOne start o (start + k, x) = o := by
        unfold layOne
        simp only [Nat.add_sub_cancel_left, Nat.le_add_right, true_and]
        rw [if_neg (by omega)]
      rw [e]
      have HF := Lib.hid hown
      clear hown e h1 hl
      go_enter Try.func69, Try.ntmps69
      go_wp2
      go_end0
      exact ⟨rfl, HF.out, Keep.refl _ _⟩
  · have e : layOne start o (p, x) = o := by
      unfold layOne
      rw [if_neg (by simp; omega)]
    rw [e]
    have HF := Lib.hid hown
    clear hown e hl
    go_enter Try.func69, Try.ntmps69
    go_wp2
    go_end0
    exact ⟨rfl, HF.out, Keep.refl _ _⟩
end Go.Proofs.Ytbdencfgiemliaa
