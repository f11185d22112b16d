/-
  Contract of sum.Whole: the bytes that were stamped, in a new slice; for slices of at most 2^47 bytes.
-/
import Derived.Test.YtbdencfgiemliaaSum2
namespace Go.Proofs.Ytbdencfgiemliaa
open Go.RowKit
def isWhole (l : List UInt8) : Bool := decide (2 ≤ l.length) && decide ((crc l).toNat = 0)
def wholeL (l : List UInt8) : List UInt8 := if isWhole l then l.take (l.length - 2) else []
theorem Sl.take {w : World} {F : Nat → Prop} {A : Option Addr} {n c : Nat} {l : List UInt8} (h : Sl w F A n c l) (k : Nat) (hk : k ≤ n) : Sl w F A k c (l.take k) :=
  ⟨by rw [List.length_take, h.len]; omega, Nat.le_trans hk h.cap, h.max, (fun hA => by have := h.nil hA; omega), by rw [List.map_take]; exact h.rd.take k⟩
theorem isWhole_no {l : List UInt8} (h : l.length < 2 ∨ (crc l).toNat ≠ 0) : isWhole l = false ∧ wholeL l = [] := by
  have e : isWhole l = false := by
    unfold isWhole
    rcases h with h | h
    · rw [decide_eq_false (by omega)]; rfl
    · simp [h]
  exact ⟨e, by unfold wholeL; rw [e]; rfl⟩
theorem isWhole_yes {l : List UInt8} (h : 2 ≤ l.length) (h' : (crc l).toNat = 0) : isWhole l = true ∧ wholeL l = l.take (l.length - 2) := by
  have e : isWhole l = true := by unfold isWhole; simp [h, h']
  exact ⟨e, by unfold wholeL; rw [e]; rfl⟩
set_option maxRecDepth 20000 in
set_option maxHeartbeats 400000 in
theorem whole_any (l : List UInt8) (F : Nat → Prop) (A : Option Addr) (n c : Nat) (w : World) (h : Sl w F A n c l) (hm : n ≤ 140737488355320) :
    Calls Try.prog 15 #[.slice A n c] w fun e w' => ∃ A' n' c', e = .returned (.tuple #[.slice A' n' c', .bool (isWhole l)]) ∧ Own w' w.heap.size 5 A' n' c' ((wholeL l).map bv) ∧ Keep0 w w' := by
  have HH := Lib.hid h
  have hn := h.len
  by_cases h2 : n < 2
  · obtain ⟨e1, e2⟩ := isWhole_no (l := l) (.inl (by omega))
    rw [e1, e2]
    clear e1 e2 h hn
    go_enter Try.func15, Try.ntmps15
    go_wp2
    go_ret2
    exact ⟨none, 0, 0, rfl, own_nil _ _ _, Keep.refl _ _⟩
  · have hc := h.cap
    by_cases hq0 : (crc l).toNat = 0
    · obtain ⟨e1, e2⟩ := isWhole_yes (l := l) (by omega) hq0
      rw [e1, e2, hn]
      have hs := h.take (n - 2) (by omega)
      have HQ := Lib.hid hq0
      have HS := Lib.hid hs
      have hnc : n - 2 ≤ c := by omega
      have hnd : ((n : Int) - 2) = ((n - 2 : Nat) : Int) := by omega
      have HND := Lib.hid hnd
      clear e1 e2 h hn hs hq0 hnd
      go_enter Try.func15, Try.ntmps15
      go_wp2_with fail
      refine (sum_any l F A n c w HH.out).mono ?_
      rintro e w' ⟨rfl, rfl⟩
      rw [HQ.out]
      go_wp2_with fail
      refine (clone_any (l.take (n - 2)) F A (n - 2) c w HS.out (by omega)).mono ?_
      rintro e w1 ⟨A1, c1, rfl, hown1, hk1⟩
      go_wp2
      go_ret2
      exact ⟨A1, n - 2, c1, rfl, hown1, hk1⟩
    · obtain ⟨e1, e2⟩ := isWhole_no (l := l) (.inr hq0)
      rw [e1, e2]
      have hd : (((crc l).toNat : Int) == 0) = false := by simp; omega
      have hd' : (((crc l).toNat : Int) != 0) = true := by simp; omega
      clear e1 e2 h hn
      go_enter Try.func15, Try.ntmps15
      go_wp2_with fail
      refine (sum_any l F A n c w HH.out).mono ?_
      rintro e w' ⟨rfl, rfl⟩
      go_wp2_with fail
      go_ret2
      exact ⟨none, 0, 0, rfl, own_nil _ _ _, Keep.refl _ _⟩
end Go.Proofs.Ytbdencfgiemliaa
