/-
  Contract of a disk's Read. Conditions: the disk lies so in memory, and its count of pending writes is below 2^30.
-/
import Derived.Test.YtbdencfgiemliaaDisk5
namespace Go.Proofs.Ytbdencfgiemliaa
open Go.RowKit
def DSt.readL (s : DSt) (a n : Int) : List UInt8 := if s.ask a n = 0 then s.read a.toNat n.toNat else []
theorem ask_cases (s : DSt) (a n : Int) : s.ask a n = 0 → s.down = false ∧ ∃ i k : Nat, a = i ∧ n = k ∧ i + k ≤ s.kept.length := by
  unfold DSt.ask
  intro h
  by_cases h1 : s.down = true
  · rw [if_pos h1] at h; cases h
  · rw [if_neg h1] at h
    by_cases h2 : a < 0 ∨ n < 0
    · rw [if_pos h2] at h; cases h
    · rw [if_neg h2] at h
      by_cases h3 : (s.kept.length : Int) < a ∨ (s.kept.length : Int) - a < n
      · rw [if_pos h3] at h; cases h
      · exact ⟨by simpa using h1, a.toNat, n.toNat, by omega, by omega, by omega⟩
section
variable {F : Nat → Prop} {w : World} {D m : Nat} {s : DSt}
set_option maxRecDepth 20000
set_option maxHeartbeats 400000
theorem read_any (a n : Int) (ha : -9223372036854775808 ≤ a ∧ a ≤ 9223372036854775807) (hm : m ≤ 1073741824) (hd : Dsk w D s m F) : Calls Try.prog 35 #[.pointer (some ⟨D, 0, none⟩), .int .i64 a, .int .i64 n] w fun e w' =>
    ∃ A k c, e = .returned (.tuple #[.slice A k c, .int .i64 (s.ask a n)]) ∧ Own w' w.heap.size 5 A k c ((s.readL a n).map bv) ∧ Keep0 w w' := by
  have HD := Lib.hid hd
  by_cases hz : s.ask a n = 0
  · obtain ⟨hdn, i, k, rfl, rfl, hik⟩ := ask_cases s a n hz
    have e : s.readL (i : Int) (k : Int) = s.read i k := by unfold DSt.readL; rw [if_pos hz]; rfl
    rw [e, hz]
    obtain ⟨K, P, pn, pc, ents, h⟩ := hd
    obtain ⟨c0, c1, c2, c3, c4, hf⟩ := h.cells
    have hsz := h.ok.size
    have H := Lib.hid h
    have HZ := Lib.hid hz
    clear h hz e c1 c3 c4 hf hdn
    obtain ⟨L, hL⟩ : ∃ L, L = s.kept.length := ⟨_, rfl⟩
    rw [← hL] at c0 hik hsz
    have HLL := Lib.hid hL
    clear hL
    have hsl : ∀ o : Nat, o = i ∨ k = 0 → Sl w (fun b => b < w.heap.size) (some ⟨K, o, none⟩) k (L - i) ((s.kept.drop i).take k) := by
      intro o ho
      refine ⟨by rw [List.length_take, List.length_drop, ← HLL.out]; omega, by omega, by simp only [maxLen]; omega, (fun e => by cases e), ?_⟩
      rcases ho with rfl | rfl
      · refine .inr ⟨K, o, rfl, H.out.ltK, fun j u hu => ?_⟩
        rcases Own.form H.out.kept with ⟨h1, _⟩ | ⟨g, cur, hA, _, hg, _, _, _, ht⟩
        · cases h1
        · injection hA with hA; injection hA with hA; subst hA
          rw [hg.cell, ← hu, List.map_take, List.map_drop, ← ht]
          have hj : j < k := by
            rcases Nat.lt_or_ge j k with h2 | h2
            · exact h2
            · rw [List.map_take, List.getElem?_take, if_neg (by omega)] at hu; cases hu
          rw [List.getElem?_take, if_pos hj, List.getElem?_drop, List.getElem?_take, if_pos (by rw [← HLL.out]; omega)]
          simp
      · exact .inl (by simp)
    have HSL := Lib.hid hsl
    clear hsl
    have hlay : ∀ (w1 : World) (A1 : Option Addr) (c1 : Nat), Own w1 w.heap.size 5 A1 k c1 (((s.kept.drop i).take k).map bv) → Keep0 w w1 →
        w1.cell? ⟨D, 2, none⟩ = some (.int .i64 (s.waits.length : Int)) ∧ Calls Try.prog 59 #[.pointer (some ⟨D, 0, none⟩), .slice A1 k c1, .int .i64 (i : Int), .int .i64 (s.waits.length : Int)] w1 fun e w' => e = .returned (.tuple #[]) ∧ Own w' w.heap.size 5 A1 k c1 ((s.read i k).map bv) ∧ Keep0 w w' := by
      intro w1 A1 c1 hown hk1
      have h1 := H.out.keep hk1 fun _ _ hb => hb
      have hbl : ∀ b, BlkOf A1 b → w.heap.size ≤ b := by
        rintro b ⟨a, rfl, rfl⟩
        exact (hown.row a.block rfl).1
      have hfew := H.out.few
      have hcnt := H.out.cnt
      refine ⟨h1.cells.2.2.1, (lay_any (w := w1) (D := D) (G := fun b => b < w.heap.size) i s.waits.length (by omega) (by omega) h1.cells.2.1 h1.pend
        (fun e he => ((H.out.each e he).mono (G := fun b => b < w.heap.size) fun b hb _ => hb).keep0 hk1) hown (fun b hb hx => by have := hbl b hx; omega)
        (fun g hg hx => by have := hbl g hx; have := (H.out.pend.lt g hg).2; omega) (fun e he => by have := H.out.bd e he; omega) (by omega)).mono ?_⟩
      rintro e w2 ⟨he, ho, hk⟩
      refine ⟨he, ?_, hk1.trans (hk.mono (T := fun b => w.heap.size ≤ b) fun b _ hb => hbl b hb) fun b hb hx => by omega⟩
      rw [← H.out.waits, List.take_of_length_le (Nat.le_refl _)] at ho
      have hlp := lay_part i k s.waits s.kept (by rw [← HLL.out]; exact hik) H.out.ok.pend
      rw [hlp] at ho
      exact ho
    have HLAY := Lib.hid hlay
    clear hlay c2
    by_cases hLi : L = i
    · subst hLi
      obtain rfl : k = 0 := by omega
      go_enter Try.func35, Try.ntmps35
      go_wp2_with fail
      refine (ask_any L 0 (by omega) HD.out).mono ?_
      rintro e w' ⟨rfl, rfl⟩
      have hz0 := HZ.out
      simp only [Int.natCast_zero] at hz0
      rw [hz0]
      clear hz0
      go_wp2_with fail
      refine (clone_any ((s.kept.drop L).take 0) (fun b => b < w.heap.size) _ 0 _ w ?hs1 (by omega)).mono ?_
      case hs1 => first | exact HSL.out _ (by simp) | (have h9 := HSL.out 0 (by simp); rw [Nat.sub_self] at h9; exact h9) | (have h9 := HSL.out L (by simp); rw [Nat.sub_self] at h9; exact h9)
      rintro e w1 ⟨A1, c1, rfl, hown1, hk1⟩
      obtain ⟨hc2, hcall⟩ := HLAY.out w1 A1 c1 hown1 hk1
      have HC := Lib.hid hcall
      clear hcall hown1 hk1
      go_wp2_with fail
      refine HC.out.mono ?_
      rintro e w2 ⟨rfl, hown2, hk2⟩
      go_wp2_with fail
      go_ret2
      exact ⟨A1, 0, c1, rfl, hown2, hk2⟩
    · go_enter Try.func35, Try.ntmps35
      go_wp2_with fail
      refine (ask_any i k (by omega) HD.out).mono ?_
      rintro e w' ⟨rfl, rfl⟩
      rw [HZ.out]
      go_wp2_with fail
      refine (clone_any ((s.kept.drop i).take k) (fun b => b < w.heap.size) _ k _ w ?hs2 (by omega)).mono ?_
      case hs2 => exact HSL.out i (.inl rfl)
      rintro e w1 ⟨A1, c1, rfl, hown1, hk1⟩
      obtain ⟨hc2, hcall⟩ := HLAY.out w1 A1 c1 hown1 hk1
      have HC := Lib.hid hcall
      clear hcall hown1 hk1
      go_wp2_with fail
      refine HC.out.mono ?_
      rintro e w2 ⟨rfl, hown2, hk2⟩
      go_wp2_with fail
      go_ret2
      exact ⟨A1, k, c1, rfl, hown2, hk2⟩
  · have e : s.readL a n = [] := by unfold DSt.readL; rw [if_neg hz]
    rw [e]
    have hz1 : (s.ask a n == 0) = false := by simpa using hz
    have hz2 : (s.ask a n != 0) = true := by simpa using hz
    clear e hz hd
    go_enter Try.func35, Try.ntmps35
    go_wp2_with fail
    refine (ask_any a n ha HD.out).mono ?_
    rintro e w' ⟨rfl, rfl⟩
    go_wp2_with fail
    go_ret2
    exact ⟨none, 0, 0, rfl, own_nil _ _ _, Keep.refl _ _⟩
end
end Go.Proofs.Ytbdencfgiemliaa
