/-
  The log's steps: what it does with a slice of function values, where each is known by a contract.
-/
import Derived.Test.YtbdencfgiemliaaWal1
namespace Go.Proofs.Ytbdencfgiemliaa
open Go.RowKit
set_option linter.unusedVariables false
set_option linter.unusedSimpArgs false
set_option maxRecDepth 20000
set_option maxHeartbeats 1000000
/-- A function value: the function, what is given ahead, and what it captured. -/
structure Stp where
  fn : Nat
  first : Array Value
  cap : Array Value
def Stp.val (s : Stp) : Value := .func (.func s.fn) s.first s.cap
/-- The steps done in turn, up to the first error; what is in S may turn. -/
def Runs (S : Nat → Prop) : List Stp → World → (Int → World → Prop) → Prop
  | [], w, Q => Q 0 w
  | s :: r, w, Q => Calls Try.prog s.fn (s.first ++ s.cap) w fun e w' => Keep S w w' ∧ ∃ x, e = .returned (.int .i64 x) ∧ (x ≠ 0 → Q x w') ∧ (x = 0 → Runs S r w' Q)
section
variable {S : Nat → Prop} {w : World} {D G : Nat} {half turn stop : Int} {B R : Value} {broken : Bool}
theorem steps_any (L : List Stp) (g o c : Nat) (Q : Int → World → Prop) (hlen : L.length ≤ 1000) (hfn : ∀ s ∈ L, s.fn = 74 ∨ s.fn = 26) (hrow : ∀ j s, L[j]? = some s → w.cell? ⟨g, o + j, none⟩ = some s.val) (hg : ¬ S g) (hGS : ¬ S G)
    (hG : Blk w G 86 (logCells D half turn stop B R broken)) (hr : Runs S L w Q) :
    Calls Try.prog 65 #[.pointer (some ⟨G, 0, none⟩), .slice (some ⟨g, o, none⟩) L.length c] w fun e w' => ∃ x w1, e = .returned (.int .i64 x) ∧ Q x w1 ∧ Keep S w w1 ∧ w' = if x = 0 then w1 else w1.setCell ⟨G, 6, none⟩ (.bool true) := by
  obtain ⟨n, hn⟩ : ∃ n, n = L.length := ⟨_, rfl⟩
  rw [← hn] at hlen ⊢
  have HN := Lib.hid hn
  have HR := Lib.hid hr
  have HROW := Lib.hid hrow
  have HG := Lib.hid hG
  clear hn hr hrow hG
  go_enter Try.func65, Try.ntmps65
  go_wp2_with fail
  go_loopw [10] (fun i wr => ∃ j : Nat, j ≤ n ∧ i = .int .i64 j ∧ Keep S w wr ∧ Hid (Runs S (L.drop j) wr Q)) (fun i _ => n - (intOf i).toNat)
  case atStart => exact ⟨0, Nat.zero_le _, rfl, Keep.refl _ _, HR⟩
  case round =>
    obtain ⟨j, hj, rfl, hk, hrun⟩ := hrel
    by_cases hjn : j < n
    · obtain ⟨s, hs⟩ : ∃ s, L[j]? = some s := ⟨_, List.getElem?_eq_getElem (by rw [← HN.out]; exact hjn)⟩
      have hcell : wr.cell? ⟨g, o + j, none⟩ = some (.func (.func s.fn) s.first s.cap) := hk.cell_some (HROW.out j s hs) hg
      have hfs := hfn s (List.mem_of_getElem? hs)
      have e : L.drop j = s :: L.drop (j + 1) := by
        have hjl : j < L.length := by rw [← HN.out]; exact hjn
        rw [List.drop_eq_getElem_cons hjl]
        rw [List.getElem?_eq_getElem hjl] at hs
        injection hs with hs
        rw [hs]
      have hcall := hrun.out
      rw [e] at hcall
      have HCALL := Lib.hid hcall
      have HK := Lib.hid hk
      clear e hcall hrun hk hs
      obtain ⟨fn, first, cap⟩ := s
      simp only at hfs
      rcases hfs with rfl | rfl
      all_goals
        go_wp2_with fail
        have hcall : Calls Try.prog _ (first ++ cap) wr fun e w' => Keep S wr w' ∧ ∃ x, e = .returned (.int .i64 x) ∧ (x ≠ 0 → Q x w') ∧ (x = 0 → Runs S (L.drop (j + 1)) w' Q) := HCALL.out
        refine hcall.mono ?_
        rintro e w1 ⟨hk1, x, rfl, hno, hyes⟩
        have HK1 := Lib.hid (HK.out.andThen hk1)
        clear hk1 hcall hcell
        by_cases hx : x = 0
        · subst hx
          have HY := Lib.hid (hyes rfl)
          clear hno hyes
          go_wp2_with fail
          go_roundw
          case rel => exact ⟨j + 1, by omega, by go_num, HK1.out, HY⟩
          case measure => simp [intOf]; omega
        · have HN := Lib.hid (hno hx)
          have HB := Lib.hid (HG.out.keep HK1.out hGS)
          have jb1 : (x == 0) = false := by simpa using hx
          have jb2 : (x != 0) = true := by simpa using hx
          have hfz := HB.out.frozen 6
          have hc6 := (log_cells HB.out).2.2.2.2.2.2.1
          clear hno hyes
          go_wp2_with fail
          go_ret
          exact ⟨x, w1, rfl, HN.out, HK1.out, (if_neg hx).symm⟩
    · obtain rfl : j = n := by omega
      have hq : Runs S (L.drop j) wr Q := hrun.out
      rw [List.drop_of_length_le (by rw [HN.out]; exact Nat.le_refl _)] at hq
      have HQ := Lib.hid hq
      have HK := Lib.hid hk
      clear hrun hk hq
      go_wp2_with fail
      go_ret
      exact ⟨0, wr, rfl, HQ.out, HK.out, (if_pos rfl).symm⟩
end
end Go.Proofs.Ytbdencfgiemliaa
