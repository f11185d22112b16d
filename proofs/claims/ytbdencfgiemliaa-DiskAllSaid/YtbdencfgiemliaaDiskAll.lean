/-
  The walk of DiskAll: it returns true and changes nothing that was there; for a slice that reads as pairs of integers.
-/
import Derived.Test.YtbdencfgiemliaaDisk8
import Derived.Test.YtbdencfgiemliaaDiskLaw
namespace Go.Proofs.Ytbdencfgiemliaa
open Go.RowKit
set_option linter.unusedVariables false
set_option maxRecDepth 20000
set_option maxHeartbeats 4000000
def byteOf (z : Int) : UInt8 := UInt8.ofNat (z % 256).toNat
theorem bv_byteOf (z : Int) : bv (byteOf z) = .int .u8 (IntKind.u8.wrap z) := by
  unfold bv byteOf
  rw [UInt8.toNat_ofNat', IntKind.wrap_u8, Nat.mod_eq_of_lt (by omega)]
  rw [Int.toNat_of_nonneg (by omega)]
theorem bv_ofNat (k : Nat) (h : k < 256) : bv (UInt8.ofNat k) = .int .u8 (k : Int) := by
  unfold bv
  rw [UInt8.toNat_ofNat', Nat.mod_eq_of_lt h]
/-- What the loop keeps. -/
structure AllInv (s : DSt) : Prop where
  size : s.kept.length = 20
  down : s.down = false
  armed : s.armed = 0
theorem AllInv.write {s : DSt} (h : AllInv s) (a : Int) (b : List UInt8) : AllInv (s.write a b) := by
  by_cases hz : s.ask a b.length = 0
  · obtain ⟨_, e2, e3, _⟩ := DSt.write_up s a b hz
    rw [h.armed] at e2 e3
    exact ⟨by rw [DSt.write_len]; exact h.size, e2, e3⟩
  · have e : s.write a b = s := by unfold DSt.write; rw [if_neg hz]
    rw [e]; exact h
theorem AllInv.sync {s : DSt} (h : AllInv s) : AllInv s.sync ∧ s.syncE = 0 := by
  obtain ⟨e1, e2, e3⟩ := DSt.sync_up s h.down
  rw [h.armed] at e1 e2 e3
  exact ⟨⟨by rw [DSt.sync_len]; exact h.size, e2, e3⟩, e1⟩
theorem AllInv.read {s : DSt} (h : AllInv s) : s.ask 0 20 = 0 ∧ s.readL 0 20 = s.all := by
  have h1 : s.ask 0 20 = 0 := DSt.ask_ok s 0 20 h.down (by rw [h.size]; omega)
  refine ⟨h1, ?_⟩
  unfold DSt.readL DSt.read
  rw [if_pos h1]
  show (s.all.drop 0).take 20 = s.all
  rw [List.drop_zero, List.take_of_length_le]
  unfold DSt.all
  rw [layAll_len, h.size]
  exact Nat.le_refl _
theorem all_restart (s : DSt) : s.cut (s.waits.length : Int) = s.waits.length ∧ (s.restart (s.waits.length : Int)).all = s.all ∧ (s.restart (s.waits.length : Int)).waits = [] := by
  have e : s.cut (s.waits.length : Int) = s.waits.length := by unfold DSt.cut; omega
  refine ⟨e, ?_, rfl⟩
  unfold DSt.restart
  rw [e]
  unfold DSt.flush DSt.all
  simp only [List.take_length]
  rfl
theorem none_restart (s : DSt) : s.cut 0 = 0 ∧ (s.restart 0).all = s.kept ∧ (s.restart 0).waits.length = 0 := by
  have e : s.cut 0 = 0 := by unfold DSt.cut; omega
  refine ⟨e, ?_, rfl⟩
  unfold DSt.restart
  rw [e]
  rfl
theorem diskAll_walk (Z : Nat → Nat → Int) (A : Option Addr) (L c : Nat) (w : World) (hm : L ≤ maxLen) (hz : ∀ i j, i < L → j < 2 → -9223372036854775808 ≤ Z i j ∧ Z i j ≤ 9223372036854775807)
    (hc : 0 < L → 0 < 2 → ∃ b o, A = some ⟨b, o, none⟩ ∧ b < w.heap.size ∧ ∀ i j, i < L → j < 2 → w.cell? ⟨b, o + (i * 2 + j), none⟩ = some (.int .i64 (Z i j))) :
    Calls Try.prog 8 #[.slice A L c] w fun e w' => e = .returned (.bool true) ∧ Keep0 w w' := by
  have kc := fun (w : World) (C : Array Value) (n c : Nat) => Lib.run_convert_bytes_const (P := Try.prog) w 22 5 C n c Try.underlying22 Try.underlying5
  have HC := Lib.hid hc
  have HZ := Lib.hid hz
  unfold maxLen at hm
  clear hc hz
  by_cases h3 : 60 < L
  · go_enter Try.func8, Try.ntmps8
    go_wp2_with fail
    refine (small17 w).mono ?_
    rintro e w1 ⟨rfl, hk1⟩
    go_wp2_with fail
    refine (one_new 20 w1).mono ?_
    rintro e w2 ⟨D, rfl, h2⟩
    go_wp2_with fail
    go_ret
    exact ⟨rfl, hk1.and0 h2.keep⟩
  · go_enter Try.func8, Try.ntmps8
    go_wp2_with fail
    refine (small17 w).mono ?_
    rintro e w1 ⟨rfl, hk1⟩
    go_wp2_with fail
    refine (one_new 20 w1).mono ?_
    rintro e w2 ⟨D, rfl, h2⟩
    have HI2 : Hid (AllInv (DSt.new (newSize 20))) := ⟨rfl, rfl, rfl⟩
    have H2 := Lib.hid h2
    have HK1 := Lib.hid hk1
    clear h2 hk1
    go_wp2_with fail
    go_loopw [5] (fun i wr => ∃ (k : Nat) (s : DSt), k ≤ L ∧ i = .int .i64 k ∧ AllInv s ∧ One w1 wr D s k Nil) (fun i _ => L - (intOf i).toNat)
    case atStart => exact ⟨0, _, Nat.zero_le _, rfl, HI2.out, H2.out⟩
    case round =>
      obtain ⟨k, s, hk, rfl, hinv, hone⟩ := hrel
      have HO := Lib.hid hone
      have HI := Lib.hid hinv
      clear hone hinv
      by_cases hlt : k < L
      · obtain ⟨b, oo, rfl, _, hcell⟩ := HC.out (by omega) (by omega)
        have hcw : ∀ j, j < 2 → wr.cell? ⟨b, oo + (k * 2 + j), none⟩ = some (.int .i64 (Z k j)) := fun j hj => HO.out.keep.cell_some (HK1.out.cell_some (hcell k j hlt hj) fun hb => hb) fun hb => hb
        have hc0 : wr.cell? ⟨b, oo + k * 2, none⟩ = some (.int .i64 (Z k 0)) := hcw 0 (by omega)
        have hc1 : wr.cell? ⟨b, oo + k * 2 + 1, none⟩ = some (.int .i64 (Z k 1)) := hcw 1 (by omega)
        have hzb := HZ.out k 0 hlt (by omega)
        clear hcell hcw
        generalize Z k 0 = z0 at hc0 hzb
        generalize Z k 1 = z1 at hc1
        have hk60 : k < 60 := by omega
        go_wp2_with fail
        have hkeep : ∀ W, Keep0 wr W → W.cell? ⟨b, oo + k * 2, none⟩ = some (.int .i64 z0) ∧ W.cell? ⟨b, oo + k * 2 + 1, none⟩ = some (.int .i64 z1) := fun W hW => ⟨hW.cell_some hc0 fun hb => hb, hW.cell_some hc1 fun hb => hb⟩
        have HKP := Lib.hid hkeep
        have hold : b < w1.heap.size := Nat.lt_of_lt_of_le ‹b < w.heap.size› HK1.out.size
        clear hkeep
        refine wp_region_held_drew (S := fun W => W.cell? ⟨b, oo + k * 2, none⟩ = some (.int .i64 z0) ∧ W.cell? ⟨b, oo + k * 2 + 1, none⟩ = some (.int .i64 z1)) (by kernel_rfl) ?_ (fun hHeld => ?_)
        · exact HKP.out _ (Keep.drew wr)
        refine wpAnyH_take (i := 0) (oi := ⟨_, _, _, _, _, _⟩) (v := ?_) rfl (by kernel_rfl) (by kernel_rfl) (by kernel_rfl) (fun _ _ _ h => h) (Or.inl ⟨by rfl, ?_⟩) (by assumption) ?_
        rotate_left
        · intro W hSw; (try dsimp only at hSw); go_simp; try with_reducible rfl
        try simp only [Act.put, List.setIfInBounds_toArray, List.set_cons_zero, List.set_cons_succ]
        refine wpAnyH_take (i := 1) (oi := ⟨_, _, _, _, _, _⟩) (v := ?_) rfl (by kernel_rfl) (by kernel_rfl) (by kernel_rfl) (fun _ _ _ h => h) (Or.inl ⟨by rfl, ?_⟩) (by assumption) ?_
        rotate_left
        · intro W hSw; (try dsimp only at hSw); go_simp; try with_reducible rfl
        try simp only [Act.put, List.setIfInBounds_toArray, List.set_cons_zero, List.set_cons_succ]
        refine wpAnyH_take (i := 2) (oi := ⟨_, _, _, _, _, _⟩) (v := ?_) rfl (by kernel_rfl) (by kernel_rfl) (by kernel_rfl) (fun _ _ _ h => h) (Or.inl ⟨by rfl, ?_⟩) (by assumption) ?_
        rotate_left
        · intro W hSw; (try dsimp only at hSw); go_simp; try with_reducible rfl
        try simp only [Act.put, List.setIfInBounds_toArray, List.set_cons_zero, List.set_cons_succ]
        refine wpAnyH_take (i := 3) (oi := ⟨_, _, _, _, _, _⟩) (v := ?_) rfl (by kernel_rfl) (by kernel_rfl) (by kernel_rfl) (fun _ _ _ h => h) (Or.inl ⟨by rfl, ?_⟩) (by assumption) ?_
        rotate_left
        · intro W hSw; (try dsimp only at hSw); go_simp; try with_reducible rfl
        try simp only [Act.put, List.setIfInBounds_toArray, List.set_cons_zero, List.set_cons_succ]
        refine wpAnyH_take (i := 4) (oi := ⟨_, _, _, _, _, _⟩) (v := ?_) rfl (by kernel_rfl) (by kernel_rfl) (by kernel_rfl) (fun _ _ _ h => h) (Or.inl ⟨by rfl, ?_⟩) (by assumption) ?_
        rotate_left
        · intro W hSw; (try dsimp only at hSw); go_simp; try with_reducible rfl
        try simp only [Act.put, List.setIfInBounds_toArray, List.set_cons_zero, List.set_cons_succ]
        refine wpAnyH_take (i := 5) (oi := ⟨_, _, _, _, _, _⟩) (v := ?_) rfl (by kernel_rfl) (by kernel_rfl) (by kernel_rfl) (fun _ _ _ h => h) (Or.inl ⟨by rfl, ?_⟩) (by assumption) ?_
        rotate_left
        · intro W hSw; (try dsimp only at hSw); go_simp; try with_reducible rfl
        try simp only [Act.put, List.setIfInBounds_toArray, List.set_cons_zero, List.set_cons_succ]
        refine wpAnyH_take (i := 6) (oi := ⟨_, _, _, _, _, _⟩) (v := ?_) rfl (by kernel_rfl) (by kernel_rfl) (by kernel_rfl) (fun _ _ _ h => h) (Or.inl ⟨by rfl, ?_⟩) (by assumption) ?_
        rotate_left
        · intro W hSw; (try dsimp only at hSw); go_simp; try with_reducible rfl
        try simp only [Act.put, List.setIfInBounds_toArray, List.set_cons_zero, List.set_cons_succ]
        refine wpAnyH_take (i := 7) (oi := ⟨_, _, _, _, _, _⟩) (v := ?_) rfl (by kernel_rfl) (by kernel_rfl) (by kernel_rfl) (fun _ _ _ h => h) (Or.inl ⟨by rfl, ?_⟩) (by assumption) ?_
        rotate_left
        · intro W hSw; (try dsimp only at hSw); go_simp; try with_reducible rfl
        try simp only [Act.put, List.setIfInBounds_toArray, List.set_cons_zero, List.set_cons_succ]
        refine wpAnyH_take (i := 8) (oi := ⟨_, _, _, _, _, _⟩) (v := ?_) rfl (by kernel_rfl) (by kernel_rfl) (by kernel_rfl) (fun _ _ _ h => h) (Or.inl ⟨by rfl, ?_⟩) (by assumption) ?_
        rotate_left
        · intro W hSw; (try dsimp only at hSw); go_simp; try with_reducible rfl
        try simp only [Act.put, List.setIfInBounds_toArray, List.set_cons_zero, List.set_cons_succ]
        refine wpAnyH_take (i := 9) (oi := ⟨_, _, _, _, _, _⟩) (v := ?_) rfl (by kernel_rfl) (by kernel_rfl) (by kernel_rfl) (fun _ _ _ h => h) (Or.inl ⟨by rfl, ?_⟩) (by assumption) ?_
        rotate_left
        · intro W hSw; (try dsimp only at hSw); go_simp; try with_reducible rfl
        try simp only [Act.put, List.setIfInBounds_toArray, List.set_cons_zero, List.set_cons_succ]
        refine wpAnyH_take (i := 10) (oi := ⟨_, _, _, _, _, _⟩) (v := ?_) rfl (by kernel_rfl) (by kernel_rfl) (by kernel_rfl) (fun _ _ _ h => h) (Or.inl ⟨by rfl, ?_⟩) (by assumption) ?_
        rotate_left
        · intro W hSw; (try dsimp only at hSw); go_simp; try with_reducible rfl
        try simp only [Act.put, List.setIfInBounds_toArray, List.set_cons_zero, List.set_cons_succ]
        refine wpAnyH_take (i := 11) (oi := ⟨_, _, _, _, _, _⟩) (v := ?_) rfl (by kernel_rfl) (by kernel_rfl) (by kernel_rfl) (fun _ _ _ h => h) (Or.inl ⟨by rfl, ?_⟩) (by assumption) ?_
        rotate_left
        · intro W hSw; (try dsimp only at hSw); go_simp; try with_reducible rfl
        try simp only [Act.put, List.setIfInBounds_toArray, List.set_cons_zero, List.set_cons_succ]
        refine wpAnyH_take (i := 12) (oi := ⟨_, _, _, _, _, _⟩) (v := ?_) rfl (by kernel_rfl) (by kernel_rfl) (by kernel_rfl) (fun _ _ _ h => h) (Or.inl ⟨by rfl, ?_⟩) (by assumption) ?_
        rotate_left
        · intro W hSw; (try dsimp only at hSw); go_simp; try with_reducible rfl
        try simp only [Act.put, List.setIfInBounds_toArray, List.set_cons_zero, List.set_cons_succ]
        refine wpAnyH_take (i := 13) (oi := ⟨_, _, _, _, _, _⟩) (v := ?_) rfl (by kernel_rfl) (by kernel_rfl) (by kernel_rfl) (fun _ _ _ h => h) (Or.inl ⟨by rfl, ?_⟩) (by assumption) ?_
        rotate_left
        · intro W hSw; (try dsimp only at hSw); go_simp; try with_reducible rfl
        try simp only [Act.put, List.setIfInBounds_toArray, List.set_cons_zero, List.set_cons_succ]
        refine wpAnyH_ready (rs := [14]) (by kernel_rfl) (by simp) ?_
        refine AllReadyH.cons (o := ⟨_, _, _, _, _, _⟩) rfl (fun K hK => ?_) AllReadyH.nil
        go_simp
        refine hK.out _ _ ?_ (fun hHeld => ?_)
        · exact HKP.out _ ((Keep.drew wr).alloc' _)
        clear hK K
        try simp only [Act.put, List.setIfInBounds_toArray, List.set_cons_zero, List.set_cons_succ]
        refine wpAnyH_ready (rs := [15]) (by kernel_rfl) (by simp) ?_
        refine AllReadyH.cons (o := ⟨_, _, _, _, _, _⟩) rfl (fun K hK => ?_) AllReadyH.nil
        go_simp
        refine (one_write z0 [byteOf z1, byteOf (k : Int)] (fun _ => True) _ 2 2 hzb ?_ (by omega) (HO.out.keep0 ((Keep.drew wr).alloc' _))).mono ?_
        · exact (sl_lit _ _ [byteOf z1, byteOf (k : Int)] _ _ 2 (by rw [List.map_cons, List.map_cons, List.map_nil, bv_byteOf, bv_byteOf]) rfl (by simp [maxLen])).mono fun _ _ _ => trivial
        rintro e w4 ⟨rfl, h4, _⟩
        have hcell4 : ∀ i u, wr.cell? ⟨b, i, none⟩ = some u → w4.cell? ⟨b, i, none⟩ = some u := fun i u hu => by
          have e1 := (HO.out.keep.cell (p := ⟨b, i, none⟩) hold (fun hb => hb))
          exact (h4.keep.cell (p := ⟨b, i, none⟩) hold (fun hb => hb)).trans (e1.symm.trans hu)
        refine hK.out _ _ ?_ (fun hHeld => ?_)
        · exact ⟨hcell4 _ _ hc0, hcell4 _ _ hc1⟩
        clear hK K
        try simp only [Act.put, List.setIfInBounds_toArray, List.set_cons_zero, List.set_cons_succ]
        refine wpAnyH_done (by kernel_rfl) ?_ _
        have hd1 := hcell4 _ _ hc1
        have hi4 := HI.out.write z0 [byteOf z1, byteOf (k : Int)]
        obtain ⟨hi5, he5⟩ := hi4.sync
        have H4 := Lib.hid h4
        have HI4 := Lib.hid hi4
        have HI5 := Lib.hid hi5
        have HE5 := Lib.hid he5
        clear hHeld hcell4 hc0 hc1 h4 hi4 hi5 he5
        obtain ⟨q, hq⟩ : ∃ q, (bits BinOp.and IntKind.i64 z1 7 == 7) = q := ⟨_, rfl⟩
        cases q with
        | true =>
          go_wp2_with fail
          refine (one_sync (by omega) H4.out).mono ?_
          rintro e w5 ⟨rfl, h5, _⟩
          rw [HE5.out]
          have H5 := Lib.hid h5
          clear h5
          go_wp2_with fail
          go_roundw
          case rel => exact ⟨k + 1, _, by omega, by go_num, HI5.out, H5.out⟩
          case measure => simp [intOf]; omega
        | false =>
          go_wp2_with fail
          go_roundw
          case rel => exact ⟨k + 1, _, by omega, by go_num, HI4.out, H4.out⟩
          case measure => simp [intOf]; omega
      · go_wp2_with fail
        refine (one_read 0 20 (by omega) (by omega) HO.out).mono ?_
        rintro e w4 ⟨A4, k4, c4, rfl, hs4, h4, hk4, _⟩
        obtain ⟨r1, r2⟩ := HI.out.read
        rw [r1]
        rw [r2] at hs4
        have HS4 := Lib.hid hs4
        have H4 := Lib.hid h4
        obtain ⟨f1, f2, f3⟩ := all_restart s
        obtain ⟨s1, hs1⟩ : ∃ s1, s1 = s.restart (s.waits.length : Int) := ⟨_, rfl⟩
        rw [← hs1] at f2 f3
        have hi1 : AllInv s1 := by rw [hs1]; exact ⟨by rw [DSt.restart_len]; exact HI.out.size, rfl, rfl⟩
        obtain ⟨g1, g2⟩ := hi1.read
        rw [f2] at g2
        have hk1' : s1.kept = s.all := by rw [← f2]; unfold DSt.all; rw [f3]; rfl
        have hi2 := hi1.write 0 [110, 101, 119]
        obtain ⟨w1e, _, _, _⟩ := DSt.write_up s1 0 [110, 101, 119] (DSt.ask_ok s1 0 3 hi1.down (by rw [hi1.size]; omega))
        rw [hi1.armed] at w1e
        have w1e' : s1.writeE 0 [110, 101, 119] = 0 := w1e
        have hk2' : (s1.write 0 [110, 101, 119]).kept = s1.kept := by unfold DSt.write; split <;> rfl
        obtain ⟨s2, hs2⟩ : ∃ s2, s2 = s1.write 0 [110, 101, 119] := ⟨_, rfl⟩
        rw [← hs2] at hi2 hk2'
        obtain ⟨n1, n2, n3⟩ := none_restart s2
        obtain ⟨s3, hs3⟩ : ∃ s3, s3 = s2.restart 0 := ⟨_, rfl⟩
        rw [← hs3] at n2 n3
        have hi3 : AllInv s3 := by rw [hs3]; exact ⟨by rw [DSt.restart_len]; exact hi2.size, rfl, rfl⟩
        obtain ⟨q1, q2⟩ := hi3.read
        rw [n2, hk2', hk1'] at q2
        have F1 := Lib.hid f1
        have G1 := Lib.hid g1
        have G2 := Lib.hid g2
        have W1 := Lib.hid w1e'
        have N1 := Lib.hid n1
        have N3 := Lib.hid n3
        have Q1 := Lib.hid q1
        have Q2 := Lib.hid q2
        have HS1 := Lib.hid hs1
        have HS2 := Lib.hid hs2
        have HS3 := Lib.hid hs3
        clear hs4 h4 hk4 r1 r2 f1 f2 f3 hs1 hi1 g1 g2 hk1' hi2 w1e w1e' hk2' hs2 n1 n2 n3 hs3 hi3 q1 q2
        generalize s.all = S0 at *
        go_wp2_with fail
        refine (one_pending H4.out).mono ?_
        rintro e w' ⟨rfl, rfl⟩
        go_wp2_with fail
        refine (one_restart _ (by omega) H4.out).mono ?_
        rintro e w5 ⟨rfl, h5, hk5⟩
        rw [F1.out]
        rw [← HS1.out] at h5
        have H5 := Lib.hid h5
        have HS5 := Lib.hid (HS4.out.keepX hk5)
        clear h5 hk5
        go_wp2_with fail
        refine (one_read 0 20 (by omega) (by omega) H5.out).mono ?_
        rintro e w6 ⟨A6, k6, c6, rfl, hs6, h6, hk6, _⟩
        rw [G1.out]
        rw [G2.out] at hs6
        have st1 := (HS5.out.keep0 hk6).str (P := Try.prog) 22 5 9 Try.underlying22 Try.underlying5 Try.underlying9
        have st2 := hs6.str (P := Try.prog) 22 5 9 Try.underlying22 Try.underlying5 Try.underlying9
        have H6 := Lib.hid h6
        have HS6 : Hid (Sl w6 (New (New Nil wr w4) w5 w6) A4 k4 c4 S0) := (HS5.out.keep0 hk6).mono fun b _ hb => .inl hb
        clear hs6 h6 hk6
        go_wp2_with fail
        refine (one_write 0 [110, 101, 119] (fun _ => True) _ 3 3 (by omega) ?hw1 (by omega) (H6.out.keep0 ?hw2)).mono ?_
        case hw2 => exact Keep.alloc _ _
        case hw1 => exact (sl_lit _ _ [110, 101, 119] _ _ 3 rfl rfl (by simp [maxLen])).mono fun _ _ _ => trivial
        rintro e w7 ⟨rfl, h7, hk7⟩
        rw [W1.out]
        rw [← HS2.out] at h7
        have H7 := Lib.hid h7
        have HS7 := Lib.hid ((HS6.out.keep0 (Keep.alloc _ _)).keepX hk7)
        clear h7 hk7 st1 st2
        go_wp2_with fail
        refine (one_restart 0 (by omega) H7.out).mono ?_
        rintro e w8 ⟨rfl, h8, hk8⟩
        rw [N1.out]
        rw [← HS3.out] at h8
        have H8 := Lib.hid h8
        have HS8 := Lib.hid (HS7.out.keepX hk8)
        clear h8 hk8
        go_wp2_with fail
        refine (one_read 0 20 (by omega) (by omega) H8.out).mono ?_
        rintro e w9 ⟨A9, k9, c9, rfl, hs9, h9, hk9, _⟩
        rw [Q1.out]
        rw [Q2.out] at hs9
        have st1 := (HS8.out.keep0 hk9).str (P := Try.prog) 22 5 9 Try.underlying22 Try.underlying5 Try.underlying9
        have st2 := hs9.str (P := Try.prog) 22 5 9 Try.underlying22 Try.underlying5 Try.underlying9
        have H9 := Lib.hid h9
        clear hs9 h9 hk9
        go_wp2_with fail
        refine (one_pending H9.out).mono ?_
        rintro e w' ⟨rfl, rfl⟩
        rw [N3.out]
        go_wp2_with fail
        go_ret
        exact ⟨rfl, HK1.out.and0 H9.out.keep⟩
end Go.Proofs.Ytbdencfgiemliaa
