/-
  The walk of SumTells: it returns true and changes nothing that was there; for a slice that reads as bytes.
-/
import Derived.Test.YtbdencfgiemliaaSum5
import Derived.Deep.RegionHeld3
import Derived.Deep.DeepCutAuto
namespace Go.Proofs.Ytbdencfgiemliaa
open Go.RowKit
set_option maxRecDepth 20000 in
set_option maxHeartbeats 4000000 in
theorem sumTells_walk (l : List UInt8) (F : Nat → Prop) (A : Option Addr) (n c : Nat) (q : BitVec 16) (x : UInt8) (w : World) (ha : Sl w F A n c l) (hF : ∀ b, F b → b < w.heap.size) :
    Calls Try.prog 3 #[.slice A n c, .int .u16 (q.toNat : Int), .int .u8 (x.toNat : Int)] w fun e w' => e = .returned (.bool true) ∧ Keep0 w w' := by
  obtain ⟨i0, hi0, hz0, hz1, hz2⟩ := info_parts info5
  have HA := Lib.hid ha
  have hma : n ≤ maxLen := Nat.le_trans ha.cap ha.max
  unfold maxLen at hma
  clear ha
  by_cases h1 : n ≤ 3000
  · go_enter Try.func3, Try.ntmps3
    go_wp2_with fail
    refine (small16 w).mono ?_
    rintro e w1 ⟨rfl, hk1⟩
    have HA1 := Lib.hid (HA.out.keep0 hk1)
    go_wp2_with (at_builtin; refine wpList_append_rd _ rfl (.tmp 21) (.tmp 22) _ rfl w1.heap.size 5 i0 _ 1 1 Try.underlying22 hi0 hz0 hz1 hz2 rfl (by omega) (.slice (some ⟨w1.heap.size, 0, none⟩) 0 0) 0 [] rfl (World.ownsRow_made w1 _ 0 (Nat.le_refl _) (Nat.zero_le _) rfl) F A n c (l.map bv) rfl ?qa ?qb (one_bv l) (by simp only [maxLen]; omega) (by omega) (by simp) ?qc)
    case qa => simpa using HA.out.len
    case qb => exact HA1.out.rd.keep0 (Keep.alloc _ _)
    case qc =>
      intro A2 c2 w2 hown2 hg2 _
      have hO2 : Own w2 w1.heap.size 5 A2 n c2 (l.map bv) := by unfold Own; simpa using hown2
      have hk2 : Keep0 w1 w2 := ((Keep.refl _ _).alloc' _).grown hg2 (by simp [Value.ownBlock])
      clear hown2 hg2
      have HA2 := Lib.hid (HA1.out.keep0 hk2)
      go_wp2_with fail
      refine (whole_any l (fun b => w1.heap.size ≤ b) A2 n c2 w2 ?hs1 (by omega)).mono ?_
      case hs1 => exact hO2.sl
      rintro e w3 ⟨A3, n3, c3, rfl, hO3, hk3⟩
      have HA3 := Lib.hid (HA2.out.keep0 hk3)
      go_wp2_with fail
      refine (rwhole_any l F A n c w3 ?hs2 (by omega)).mono ?_
      case hs2 => exact HA3.out
      rintro e w4 ⟨A4, n4, c4, rfl, hO4, hk4⟩
      have HA4 := Lib.hid (HA3.out.keep0 hk4)
      go_wp2_with fail
      refine (stamp_any l (fun b => w1.heap.size ≤ b) A2 n c2 w4 ?hs3 (by omega)).mono ?_
      case hs3 => exact (hO2.sl.keep0 hk3).keep0 hk4
      rintro e w5 ⟨A5, c5, rfl, hO5, hk5⟩
      have HA5 := Lib.hid (HA4.out.keep0 hk5)
      go_wp2_with fail
      generalize hss : strB (stampL l) = ss
      generalize hsw : strB (wholeL l) = sw
      have hS : ∀ W, Keep0 w5 W → (convert 22 9 (.slice A5 (n + 2) c5)).run Try.prog W = .ok (.string ss) W := fun W hW => by
        rw [← hss]; exact (hO5.keep0 hW).sl.str 22 5 9 Try.underlying22 Try.underlying5 Try.underlying9
      have hV : ∀ W, Keep0 w5 W → (convert 22 9 (.slice A3 n3 c3)).run Try.prog W = .ok (.string sw) W := fun W hW => by
        rw [← hsw]
        have h := (((hO3.keep0 hk4).keep0 hk5).keep0 hW)
        obtain rfl : n3 = (wholeL l).length := by have := h.len; simp at this; omega
        exact h.sl.str 22 5 9 Try.underlying22 Try.underlying5 Try.underlying9
      have hU : ∀ W, Keep0 w5 W → (convert 22 9 (.slice A4 n4 c4)).run Try.prog W = .ok (.string sw) W := fun W hW => by
        rw [← hsw]
        have h := ((hO4.keep0 hk5).keep0 hW)
        obtain rfl : n4 = (wholeL l).length := by have := h.len; simp at this; omega
        exact h.sl.str 22 5 9 Try.underlying22 Try.underlying5 Try.underlying9
      have HS := Lib.hid hS
      have HV := Lib.hid hV
      have HU := Lib.hid hU
      clear hS hV hU
      have hk0 : Keep0 w5 w5.drew := Keep.drew w5
      have hkeep : ∀ W, Keep0 w5 W → Keep0 w5 W ∧ (convert 22 9 (.slice A5 (n + 2) c5)).run Try.prog W = .ok (.string ss) W ∧ (convert 22 9 (.slice A3 n3 c3)).run Try.prog W = .ok (.string sw) W ∧ (convert 22 9 (.slice A4 n4 c4)).run Try.prog W = .ok (.string sw) W := fun W hW => ⟨hW, HS.out W hW, HV.out W hW, HU.out W hW⟩
      have HK := Lib.hid hkeep
      clear hkeep
      refine wp_region_held_drew (S := fun W => Keep0 w5 W ∧ (convert 22 9 (.slice A5 (n + 2) c5)).run Try.prog W = .ok (.string ss) W ∧ (convert 22 9 (.slice A3 n3 c3)).run Try.prog W = .ok (.string sw) W ∧ (convert 22 9 (.slice A4 n4 c4)).run Try.prog W = .ok (.string sw) W) (by kernel_rfl) ?_ (fun hHeld => ?_)
      · exact HK.out _ hk0
      refine wpAnyH_take (i := 0) (oi := ⟨_, _, _, _, _, _⟩) (v := ?_) rfl (by kernel_rfl) (by kernel_rfl) (by kernel_rfl) (fun _ _ _ h => h) (Or.inl ⟨by rfl, ?_⟩) (by assumption) ?_
      rotate_left
      · intro W hSw; (try dsimp only at hSw); go_simp; try with_reducible rfl
      try simp only [Act.put, List.setIfInBounds_toArray, List.set_cons_zero, List.set_cons_succ]
      refine wpAnyH_take (i := 1) (oi := ⟨_, _, _, _, _, _⟩) (v := ?_) rfl (by kernel_rfl) (by kernel_rfl) (by kernel_rfl) (fun _ _ _ h => h) (Or.inl ⟨by rfl, ?_⟩) (by assumption) ?_
      rotate_left
      · intro W hSw; (try dsimp only at hSw); go_simp; try with_reducible rfl
      try simp only [Act.put, List.setIfInBounds_toArray, List.set_cons_zero, List.set_cons_succ]
      refine wpAnyH_take (i := 2) (oi := ⟨_, _, _, _, _, _⟩) (v := ?_) rfl (by kernel_rfl) (by kernel_rfl) (by kernel_rfl) (fun _ _ _ h => h) (Or.inl ⟨by rfl, ?_⟩) (by assumption) ?_
      rotate_left
      · intro W hSw; (try dsimp only at hSw); go_simp; try with_reducible rfl
      try simp only [Act.put, List.setIfInBounds_toArray, List.set_cons_zero, List.set_cons_succ]
      refine wpAnyH_ready (rs := [3]) (by kernel_rfl) (by simp) ?_
      refine AllReadyH.cons (o := ⟨_, _, _, _, _, _⟩) rfl (fun K hK => ?_) AllReadyH.nil
      go_simp
      refine (rstamp_any l F A n c _ ?_ (by omega)).mono ?_
      · exact HA5.out.keep0 hk0
      rintro e w6 ⟨A6, c6, rfl, hO6, hk6⟩
      have hk56 := hk0.and0 hk6
      have h6 := hO6.sl.str (P := Try.prog) 22 5 9 Try.underlying22 Try.underlying5 Try.underlying9
      rw [hss] at h6
      refine hK.out _ _ ?_ (fun hHeld => ?_)
      · exact HK.out _ hk56
      clear hK K
      try simp only [Act.put, List.setIfInBounds_toArray, List.set_cons_zero, List.set_cons_succ]
      refine wpAnyH_ready (rs := [4]) (by kernel_rfl) (by simp) ?_
      refine AllReadyH.cons (o := ⟨_, _, _, _, _, _⟩) rfl (fun K hK => ?_) AllReadyH.nil
      go_simp
      refine hK.out _ _ ?_ (fun hHeld => ?_)
      · exact HK.out _ hk56
      clear hK K
      try simp only [Act.put, List.setIfInBounds_toArray, List.set_cons_zero, List.set_cons_succ]
      refine wpAnyH_take (i := 5) (oi := ⟨_, _, _, _, _, _⟩) (v := ?_) rfl (by kernel_rfl) (by kernel_rfl) (by kernel_rfl) (fun _ _ _ h => h) (Or.inl ⟨by rfl, ?_⟩) (by assumption) ?_
      rotate_left
      · intro W hSw; (try dsimp only at hSw); go_simp; try with_reducible rfl
      try simp only [Act.put, List.setIfInBounds_toArray, List.set_cons_zero, List.set_cons_succ]
      refine wpAnyH_take (i := 6) (oi := ⟨_, _, _, _, _, _⟩) (v := ?_) rfl (by kernel_rfl) (by kernel_rfl) (by kernel_rfl) (fun _ _ _ h => h) (Or.inl ⟨by rfl, ?_⟩) (by assumption) ?_
      rotate_left
      · intro W hSw; (try dsimp only at hSw); go_simp; try with_reducible rfl
      try simp only [Act.put, List.setIfInBounds_toArray, List.set_cons_zero, List.set_cons_succ]
      refine wpAnyH_take (i := 7) (oi := ⟨_, _, _, _, _, _⟩) (v := ?_) rfl (by kernel_rfl) (by kernel_rfl) (by kernel_rfl) (fun _ _ _ h => h) (Or.inl ⟨by rfl, ?_⟩) (by assumption) ?_
      rotate_left
      · intro W hSw; (try dsimp only at hSw); go_simp; try with_reducible rfl
      try simp only [Act.put, List.setIfInBounds_toArray, List.set_cons_zero, List.set_cons_succ]
      refine wpAnyH_take (i := 8) (oi := ⟨_, _, _, _, _, _⟩) (v := ?_) rfl (by kernel_rfl) (by kernel_rfl) (by kernel_rfl) (fun _ _ _ h => h) (Or.inl ⟨by rfl, ?_⟩) (by assumption) ?_
      rotate_left
      · intro W hSw; (try dsimp only at hSw); go_simp; try with_reducible rfl
      try simp only [Act.put, List.setIfInBounds_toArray, List.set_cons_zero, List.set_cons_succ]
      refine wpAnyH_take (i := 9) (oi := ⟨_, _, _, _, _, _⟩) (v := ?_) rfl (by kernel_rfl) (by kernel_rfl) (by kernel_rfl) (fun _ _ _ h => h) (Or.inl ⟨by rfl, ?_⟩) (by assumption) ?_
      rotate_left
      · intro W hSw; (try dsimp only at hSw); go_simp; try with_reducible rfl
      try simp only [Act.put, List.setIfInBounds_toArray, List.set_cons_zero, List.set_cons_succ]
      refine wpAnyH_take (i := 10) (oi := ⟨_, _, _, _, _, _⟩) (v := ?_) rfl (by kernel_rfl) (by kernel_rfl) (by kernel_rfl) (fun _ _ _ h => h) (Or.inl ⟨by rfl, ?_⟩) (by assumption) ?_
      rotate_left
      · intro W hSw; (try dsimp only at hSw); go_simp; try with_reducible rfl
      try simp only [Act.put, List.setIfInBounds_toArray, List.set_cons_zero, List.set_cons_succ]
      refine wpAnyH_take (i := 11) (oi := ⟨_, _, _, _, _, _⟩) (v := ?_) rfl (by kernel_rfl) (by kernel_rfl) (by kernel_rfl) (fun _ _ _ h => h) (Or.inl ⟨by rfl, ?_⟩) (by assumption) ?_
      rotate_left
      · intro W hSw; (try dsimp only at hSw); go_simp; try with_reducible rfl
      try simp only [Act.put, List.setIfInBounds_toArray, List.set_cons_zero, List.set_cons_succ]
      refine wpAnyH_take (i := 12) (oi := ⟨_, _, _, _, _, _⟩) (v := ?_) rfl (by kernel_rfl) (by kernel_rfl) (by kernel_rfl) (fun _ _ _ h => h) (Or.inl ⟨by rfl, ?_⟩) (by assumption) ?_
      rotate_left
      · intro W hSw; (try dsimp only at hSw); go_simp; try with_reducible rfl
      try simp only [Act.put, List.setIfInBounds_toArray, List.set_cons_zero, List.set_cons_succ]
      refine wpAnyH_take (i := 13) (oi := ⟨_, _, _, _, _, _⟩) (v := ?_) rfl (by kernel_rfl) (by kernel_rfl) (by kernel_rfl) (fun _ _ _ h => h) (Or.inl ⟨by rfl, ?_⟩) (by assumption) ?_
      rotate_left
      · intro W hSw; (try dsimp only at hSw); go_simp; try with_reducible rfl
      try simp only [Act.put, List.setIfInBounds_toArray, List.set_cons_zero, List.set_cons_succ]
      refine wpAnyH_take (i := 14) (oi := ⟨_, _, _, _, _, _⟩) (v := ?_) rfl (by kernel_rfl) (by kernel_rfl) (by kernel_rfl) (fun _ _ _ h => h) (Or.inl ⟨by rfl, ?_⟩) (by assumption) ?_
      rotate_left
      · intro W hSw; (try dsimp only at hSw); go_simp; try with_reducible rfl
      try simp only [Act.put, List.setIfInBounds_toArray, List.set_cons_zero, List.set_cons_succ]
      refine wpAnyH_take (i := 15) (oi := ⟨_, _, _, _, _, _⟩) (v := ?_) rfl (by kernel_rfl) (by kernel_rfl) (by kernel_rfl) (fun _ _ _ h => h) (Or.inl ⟨by rfl, ?_⟩) (by assumption) ?_
      rotate_left
      · intro W hSw; (try dsimp only at hSw); go_simp; try with_reducible rfl
      try simp only [Act.put, List.setIfInBounds_toArray, List.set_cons_zero, List.set_cons_succ]
      refine wpAnyH_take (i := 16) (oi := ⟨_, _, _, _, _, _⟩) (v := ?_) rfl (by kernel_rfl) (by kernel_rfl) (by kernel_rfl) (fun _ _ _ h => h) (Or.inl ⟨by rfl, ?_⟩) (by assumption) ?_
      rotate_left
      · intro W hSw; (try dsimp only at hSw); go_simp; try with_reducible rfl
      try simp only [Act.put, List.setIfInBounds_toArray, List.set_cons_zero, List.set_cons_succ]
      refine wpAnyH_take (i := 17) (oi := ⟨_, _, _, _, _, _⟩) (v := ?_) rfl (by kernel_rfl) (by kernel_rfl) (by kernel_rfl) (fun _ _ _ h => h) (Or.inl ⟨by rfl, ?_⟩) (by assumption) ?_
      rotate_left
      · intro W hSw; (try dsimp only at hSw); go_simp; try with_reducible rfl
      try simp only [Act.put, List.setIfInBounds_toArray, List.set_cons_zero, List.set_cons_succ]
      refine wpAnyH_take (i := 18) (oi := ⟨_, _, _, _, _, _⟩) (v := ?_) rfl (by kernel_rfl) (by kernel_rfl) (by kernel_rfl) (fun _ _ _ h => h) (Or.inl ⟨by rfl, ?_⟩) (by assumption) ?_
      rotate_left
      · intro W hSw; (try dsimp only at hSw); go_simp; try with_reducible rfl
      try simp only [Act.put, List.setIfInBounds_toArray, List.set_cons_zero, List.set_cons_succ]
      refine wpAnyH_done (by kernel_rfl) ?_ _
      have hO56 : Own w6 w4.heap.size 5 A5 (n + 2) c5 ((stampL l).map bv) := hO5.keep0 hk56
      obtain ⟨g, hA5, hbg, hgl, _⟩ := hO56.set_ (k := 0) (by omega)
      have hlt4 : w5.heap.size ≤ w6.heap.size := hk56.size
      subst hA5
      have hg5 : g < w5.heap.size := (hO5.row g rfl).2
      have hkw4 : Keep0 w w4 := ((hk1.and0 hk2).and0 hk3).and0 hk4
      have hkw6 : Keep0 w w6 := (hkw4.and0 hk5).and0 hk56
      have hb4 := hkw4.size
      have hd2 : ∀ b, b < w4.heap.size → ¬ (b = g) := fun b hb e => by omega
      have HD2 := Lib.hid hd2
      have hO26 : Own w6 w1.heap.size 5 A2 n c2 (l.map bv) := (((hO2.keep0 hk3).keep0 hk4).keep0 hk5).keep0 hk56
      have hA2w : ∀ b, A2 = some ⟨b, 0, none⟩ → b < w2.heap.size := fun b e => by subst e; exact (hO2.row b rfl).2
      have h24 : w2.heap.size ≤ w4.heap.size := Nat.le_trans hk3.size hk4.size
      have hS2 : Sl w6 (fun b => b < w4.heap.size) A2 n c2 l := by
        have h1 : Sl w2 (fun b => b < w2.heap.size) A2 n c2 l := hO2.sl.mono fun b hb _ => hb
        exact (((((h1.keep0 hk3).keep0 hk4).keep0 hk5).keep0 hk56)).mono fun b _ hb => by omega
      have hS0 : Sl w6 (fun b => b < w4.heap.size) A n c l := (HA5.out.keep0 hk56).mono fun b _ hb => by have := hF b hb; omega
      have HS2 := Lib.hid hS2
      have HS0 := Lib.hid hS0
      have HO := Lib.hid hO56
      have HKW := Lib.hid hkw6
      clear hd2 hO26 hA2w hS2 hS0 hkw4 hkw6 hO56 hss hsw hO5 hO2 hO3 hO4 hk0 hk56 hk6 hk5 hk4 hk3 hk2 hk1 hHeld hO6 h6 HK HS HV HU
      go_wp2_with fail
      go_loopw [15] (fun i wr => ∃ k : Nat, k ≤ n + 2 ∧ i = .int .i64 k ∧ (∃ cs, Own wr w4.heap.size 5 (some ⟨g, 0, none⟩) (n + 2) c5 cs) ∧ Keep (fun b => b = g) w6 wr) (fun i _ => n + 2 - (intOf i).toNat)
      case atStart => exact ⟨0, by omega, rfl, ⟨_, HO.out⟩, Keep.refl _ _⟩
      case round =>
        obtain ⟨k, hk, rfl, ⟨cs, hown⟩, hkr⟩ := hrel
        by_cases hlt : k < n + 2
        · obtain ⟨g', e, hb', hl', ⟨u, hcu, _⟩, hfz, hset⟩ := hown.set_ (k := k) hlt
          injection e with e
          injection e with e
          subst e
          have hK9 := hkr.andThen (Keep.setCell (S := fun b => b = g) wr ⟨g, k, none⟩ (.int .u8 9) rfl)
          have HO9 := Lib.hid (hset (.int .u8 9))
          have HK9 := Lib.hid hK9
          clear hset hK9 hown hkr
          go_wp2
          go_roundw
          case rel => exact ⟨k + 1, by omega, by go_num, ⟨_, HO9.out⟩, HK9.out⟩
          case measure => simp [intOf]; omega
        · have hI := HS2.out.keep hkr fun b hb e => HD2.out b hb e
          have hB := HS0.out.keep hkr fun b hb e => HD2.out b hb e
          have hstr1 := hI.str (P := Try.prog) 22 5 9 Try.underlying22 Try.underlying5 Try.underlying9
          have hstr2 := hB.str (P := Try.prog) 22 5 9 Try.underlying22 Try.underlying5 Try.underlying9
          have HI := Lib.hid hI
          have HB := Lib.hid hB
          have HKF : Hid (Keep0 w wr) := HKW.out.trans hkr fun b hb e => by omega
          clear hI hB hown hkr
          go_wp2_with fail
          refine (sum_any l (fun b => b < w4.heap.size) A n c wr ?hb1).mono ?_
          case hb1 => exact HB.out
          rintro e w' ⟨rfl, rfl⟩
          go_wp2_with fail
          refine (rsum_any l (fun b => b < w4.heap.size) A n c wr ?hb2).mono ?_
          case hb2 => exact HB.out
          rintro e w' ⟨rfl, rfl⟩
          go_wp2_with fail
          refine (next_any q x wr).mono ?_
          rintro e w' ⟨rfl, rfl⟩
          go_wp2_with fail
          refine (rnext_any q x wr).mono ?_
          rintro e w' ⟨rfl, rfl⟩
          go_wp2
          go_ret
          exact ⟨rfl, HKF.out⟩
  · go_enter Try.func3, Try.ntmps3
    go_wp2_with fail
    refine (small16 w).mono ?_
    rintro e w1 ⟨rfl, hk1⟩
    go_wp2
    go_ret
    exact ⟨rfl, hk1⟩
end Go.Proofs.Ytbdencfgiemliaa
