/-
  The reference's Rows: it tells whether two slices of slices of bytes read alike. Condition: both read as such.
-/
import Derived.Test.YtbdencfgiemliaaWal20
namespace Go.Proofs.Ytbdencfgiemliaa
open Go.RowKit
set_option linter.unusedVariables false
set_option linter.unusedSimpArgs false
theorem strB_beq (x y : List UInt8) : ((strB x).toList == (strB y).toList) = (x == y) := by
  rw [ByteArray.toList_eq, ByteArray.toList_eq]
  rfl
section
variable {Fa Fb : Nat → Prop} {w : World}
set_option maxRecDepth 20000
set_option maxHeartbeats 2000000
theorem rows_any (L M : List (List UInt8)) (A B : Option Addr) (n ca k cb : Nat) (ha : BRows w Fa A n ca L) (hb : BRows w Fb B k cb M) :
    Calls Try.prog 47 #[.slice A n ca, .slice B k cb] w fun e w' => e = .returned (.bool (decide (L = M))) ∧ Keep0 w w' := by
  have hla := ha.len
  have hlb := hb.len
  have hmax : n ≤ maxLen := by obtain ⟨rows, _, _, h3, h4, _⟩ := ha; omega
  unfold maxLen at hmax
  have HA := Lib.hid ha
  have HB := Lib.hid hb
  have HLA := Lib.hid hla
  have HLB := Lib.hid hlb
  clear ha hb
  by_cases hnk : n = k
  · subst hnk
    clear hla hlb
    go_enter Try.func47, Try.ntmps47
    go_wp2_with fail
    go_loopw [5] (fun i wr => ∃ j : Nat, j ≤ n ∧ i = .int .i64 j ∧ Hid (Keep0 w wr) ∧ Hid (L.take j = M.take j)) (fun i _ => n - (intOf i).toNat)
    case atStart => exact ⟨0, Nat.zero_le _, rfl, Keep.refl _ _, by show L.take 0 = M.take 0; simp⟩
    case round =>
      obtain ⟨j, hj, rfl, HI, HE⟩ := hrel
      by_cases hlt : j < n
      · obtain ⟨b1, o1, A1, n1, c1, rfl, _, hc1, hs1⟩ := (HA.out.keep0 (HI.out.drew')).at_ hlt
        obtain ⟨b2, o2, A2, n2, c2, rfl, _, hc2, hs2⟩ := (HB.out.keep0 (HI.out.drew')).at_ hlt
        have ht1 := hs1.str (P := Try.prog) 22 5 9 Try.underlying22 Try.underlying5 Try.underlying9
        have ht2 := hs2.str (P := Try.prog) 22 5 9 Try.underlying22 Try.underlying5 Try.underlying9
        have hgl : L[j]? = some (L.getD j []) := by rw [List.getD_eq_getElem?_getD, List.getElem?_eq_getElem (by rw [HLA.out]; exact hlt)]; rfl
        have hgm : M[j]? = some (M.getD j []) := by rw [List.getD_eq_getElem?_getD, List.getElem?_eq_getElem (by rw [HLB.out]; exact hlt)]; rfl
        have htl : L.take (j + 1) = L.take j ++ [L.getD j []] := by rw [List.take_add_one, hgl]; rfl
        have htm : M.take (j + 1) = M.take j ++ [M.getD j []] := by rw [List.take_add_one, hgm]; rfl
        obtain ⟨x, hx⟩ : ∃ x, x = L.getD j [] := ⟨_, rfl⟩
        obtain ⟨y, hy⟩ : ∃ y, y = M.getD j [] := ⟨_, rfl⟩
        rw [← hx] at ht1 hgl htl
        rw [← hy] at ht2 hgm htm
        have HGL := Lib.hid hgl
        have HGM := Lib.hid hgm
        have HTL := Lib.hid htl
        have HTM := Lib.hid htm
        clear hgl hgm htl htm hx hy hs1 hs2
        go_wp2_with fail
        refine wp_region_held_drew (S := fun W => W = wr.drew) (by kernel_rfl) rfl (fun hHeld => ?_)
        refine wpAnyH_take (i := 0) (oi := ⟨_, _, _, _, _, _⟩) (v := ?_) rfl (by kernel_rfl) (by kernel_rfl) (by kernel_rfl) (fun _ _ _ h => h) (Or.inl ⟨by rfl, ?_⟩) (by assumption) ?_
        rotate_left
        · intro W hSw; (try dsimp only at hSw); subst hSw; go_simp; try with_reducible rfl
        try simp only [Act.put, List.setIfInBounds_toArray, List.set_cons_zero, List.set_cons_succ]
        refine wpAnyH_take (i := 1) (oi := ⟨_, _, _, _, _, _⟩) (v := ?_) rfl (by kernel_rfl) (by kernel_rfl) (by kernel_rfl) (fun _ _ _ h => h) (Or.inl ⟨by rfl, ?_⟩) (by assumption) ?_
        rotate_left
        · intro W hSw; (try dsimp only at hSw); subst hSw; go_simp; try with_reducible rfl
        try simp only [Act.put, List.setIfInBounds_toArray, List.set_cons_zero, List.set_cons_succ]
        refine wpAnyH_take (i := 2) (oi := ⟨_, _, _, _, _, _⟩) (v := ?_) rfl (by kernel_rfl) (by kernel_rfl) (by kernel_rfl) (fun _ _ _ h => h) (Or.inl ⟨by rfl, ?_⟩) (by assumption) ?_
        rotate_left
        · intro W hSw; (try dsimp only at hSw); subst hSw; go_simp; try with_reducible rfl
        try simp only [Act.put, List.setIfInBounds_toArray, List.set_cons_zero, List.set_cons_succ]
        refine wpAnyH_take (i := 3) (oi := ⟨_, _, _, _, _, _⟩) (v := ?_) rfl (by kernel_rfl) (by kernel_rfl) (by kernel_rfl) (fun _ _ _ h => h) (Or.inl ⟨by rfl, ?_⟩) (by assumption) ?_
        rotate_left
        · intro W hSw; (try dsimp only at hSw); subst hSw; go_simp; try with_reducible rfl
        try simp only [Act.put, List.setIfInBounds_toArray, List.set_cons_zero, List.set_cons_succ]
        refine wpAnyH_take (i := 4) (oi := ⟨_, _, _, _, _, _⟩) (v := ?_) rfl (by kernel_rfl) (by kernel_rfl) (by kernel_rfl) (fun _ _ _ h => h) (Or.inl ⟨by rfl, ?_⟩) (by assumption) ?_
        rotate_left
        · intro W hSw; (try dsimp only at hSw); subst hSw; go_simp; try with_reducible rfl
        try simp only [Act.put, List.setIfInBounds_toArray, List.set_cons_zero, List.set_cons_succ]
        refine wpAnyH_take (i := 5) (oi := ⟨_, _, _, _, _, _⟩) (v := ?_) rfl (by kernel_rfl) (by kernel_rfl) (by kernel_rfl) (fun _ _ _ h => h) (Or.inl ⟨by rfl, ?_⟩) (by assumption) ?_
        rotate_left
        · intro W hSw; (try dsimp only at hSw); subst hSw; go_simp; try with_reducible rfl
        try simp only [Act.put, List.setIfInBounds_toArray, List.set_cons_zero, List.set_cons_succ]
        refine wpAnyH_take (i := 6) (oi := ⟨_, _, _, _, _, _⟩) (v := ?_) rfl (by kernel_rfl) (by kernel_rfl) (by kernel_rfl) (fun _ _ _ h => h) (Or.inl ⟨by rfl, ?_⟩) (by assumption) ?_
        rotate_left
        · intro W hSw; (try dsimp only at hSw); subst hSw; go_simp; try with_reducible rfl
        try simp only [Act.put, List.setIfInBounds_toArray, List.set_cons_zero, List.set_cons_succ]
        refine wpAnyH_take (i := 7) (oi := ⟨_, _, _, _, _, _⟩) (v := ?_) rfl (by kernel_rfl) (by kernel_rfl) (by kernel_rfl) (fun _ _ _ h => h) (Or.inl ⟨by rfl, ?_⟩) (by assumption) ?_
        rotate_left
        · intro W hSw; (try dsimp only at hSw); subst hSw; go_simp; try with_reducible rfl
        try simp only [Act.put, List.setIfInBounds_toArray, List.set_cons_zero, List.set_cons_succ]
        refine wpAnyH_take (i := 8) (oi := ⟨_, _, _, _, _, _⟩) (v := ?_) rfl (by kernel_rfl) (by kernel_rfl) (by kernel_rfl) (fun _ _ _ h => h) (Or.inl ⟨by rfl, ?_⟩) (by assumption) ?_
        rotate_left
        · intro W hSw; (try dsimp only at hSw); subst hSw; go_simp; try with_reducible rfl
        try simp only [Act.put, List.setIfInBounds_toArray, List.set_cons_zero, List.set_cons_succ]
        refine wpAnyH_take (i := 9) (oi := ⟨_, _, _, _, _, _⟩) (v := ?_) rfl (by kernel_rfl) (by kernel_rfl) (by kernel_rfl) (fun _ _ _ h => h) (Or.inl ⟨by rfl, ?_⟩) (by assumption) ?_
        rotate_left
        · intro W hSw; (try dsimp only at hSw); subst hSw; go_simp; try with_reducible rfl
        try simp only [Act.put, List.setIfInBounds_toArray, List.set_cons_zero, List.set_cons_succ]
        refine wpAnyH_take (i := 10) (oi := ⟨_, _, _, _, _, _⟩) (v := ?_) rfl (by kernel_rfl) (by kernel_rfl) (by kernel_rfl) (fun _ _ _ h => h) (Or.inl ⟨by rfl, ?_⟩) (by assumption) ?_
        rotate_left
        · intro W hSw; (try dsimp only at hSw); subst hSw; go_simp; try with_reducible rfl
        try simp only [Act.put, List.setIfInBounds_toArray, List.set_cons_zero, List.set_cons_succ]
        refine wpAnyH_done (by kernel_rfl) ?_ _
        by_cases hxy : x = y
        · have hsxy : ((strB x).toList == (strB y).toList) = true := by rw [strB_beq, hxy]; simp
          have hsxz : (!((strB x).toList == (strB y).toList)) = false := by rw [hsxy]; rfl
          rw [hsxz]
          have HXY := Lib.hid hxy
          clear ht1 ht2 hHeld hxy
          go_wp2_with fail
          go_roundw
          case rel => exact ⟨j + 1, by omega, by go_num, HI.out.drew', by show L.take (j + 1) = M.take (j + 1); rw [HTL.out, HTM.out, HE.out, HXY.out]⟩
          case measure => simp [intOf]; omega
        · have hsxy : ((strB x).toList == (strB y).toList) = false := by rw [strB_beq]; simpa using hxy
          have hsxz : (!((strB x).toList == (strB y).toList)) = true := by rw [hsxy]; rfl
          rw [hsxz]
          have HXY := Lib.hid hxy
          clear ht1 ht2 hHeld hxy
          go_wp2_with fail
          go_ret
          refine ⟨ret_b ?_, HI.out.drew'⟩
          rw [decide_eq_false]
          intro h
          have h1 := HGL.out
          rw [h, HGM.out] at h1
          injection h1 with h1
          exact HXY.out h1.symm
      · obtain rfl : j = n := by omega
        have he := HE.out
        rw [List.take_of_length_le (by rw [HLA.out]; exact Nat.le_refl _), List.take_of_length_le (by rw [HLB.out]; exact Nat.le_refl _)] at he
        have HF : Hid (L = M) := he
        clear he
        go_wp2_with fail
        go_ret
        exact ⟨ret_b (by rw [decide_eq_true HF.out]), HI.out⟩
  · have hne : L ≠ M := fun h => hnk (by rw [← hla, ← hlb, h])
    have HNE := Lib.hid hne
    have jb1 : ((n : Int) == (k : Int)) = false := by simpa using (fun h : (n : Int) = (k : Int) => hnk (by omega))
    have jb2 : ((n : Int) != (k : Int)) = true := by simpa using (fun h : (n : Int) = (k : Int) => hnk (by omega))
    clear hne hla hlb
    go_enter Try.func47, Try.ntmps47
    go_wp2_with fail
    go_ret
    exact ⟨ret_b (by rw [decide_eq_false HNE.out]), Keep.refl _ _⟩
end
end Go.Proofs.Ytbdencfgiemliaa
