/-
  The walk of DiskPlays: it returns true and changes nothing that was there; for any size, and a slice that reads as triples of integers.
-/
import Derived.Test.YtbdencfgiemliaaRDisk4
namespace Go.Proofs.Ytbdencfgiemliaa
open Go.RowKit
set_option linter.unusedVariables false
set_option linter.unusedSimpArgs false
set_option maxRecDepth 20000
set_option maxHeartbeats 20000000
theorem and31_any (z : Int) : ∃ n : Nat, n < 32 ∧ bits BinOp.and IntKind.i64 z 31 = (n : Int) := by
  have h : bits BinOp.and IntKind.i64 z 31 = IntKind.i64.wrap (((BitVec.ofInt 64 z &&& BitVec.ofInt 64 31).toNat : Nat) : Int) := rfl
  have h2 : (BitVec.ofInt 64 z &&& BitVec.ofInt 64 31).toNat ≤ 31 := by
    rw [BitVec.toNat_and]
    exact Nat.and_le_right
  refine ⟨_, Nat.lt_succ_of_le h2, ?_⟩
  rw [h, IntKind.wrap_i64]
  omega
theorem Two.writeX {w0 w w' : World} {T U : Thing} {X S : Nat → Prop} (h : Two w0 w T U X) (hk : Keep S w w') (hS : ∀ b, S b → X b) (h0 : ∀ b, S b → w0.heap.size ≤ b) : Two w0 w' T U X := ⟨by
  obtain ⟨F, G, hF, hG, h1, h2⟩ := h.both
  exact ⟨F, G, T.keep hF hk (fun b hb hs => (h1 b hb).2.1 (hS b hs)), U.keep hG hk (fun b hb hs => (h2 b hb).2.1 (hS b hs)), h1, fun b hb => ⟨(h2 b hb).1, (h2 b hb).2.1, Nat.lt_of_lt_of_le (h2 b hb).2.2 hk.size⟩⟩, h.keep.trans hk (fun b hb hs => by have := h0 b hs; omega), fun b hb => Nat.lt_of_lt_of_le (h.lt b hb) hk.size⟩
theorem Own.slAt {w : World} {base n c g : Nat} {l : List UInt8} (h : Own w base 5 (some ⟨g, 0, none⟩) n c (l.map bv)) : Sl w (fun b => b = g) (some ⟨g, 0, none⟩) n c l := by
  have h1 := h.sl
  refine ⟨h1.len, h1.cap, h1.max, h1.nil, ?_⟩
  rcases h1.rd with h2 | ⟨b, o, hA, _, hc⟩
  · exact .inl h2
  · injection hA with hA
    injection hA with hA hB
    subst hA
    subst hB
    exact .inr ⟨_, _, rfl, rfl, hc⟩
theorem Two.weak {w0 w : World} {T U : Thing} {X : Nat → Prop} (h : Two w0 w T U X) : Two w0 w T U Nil := ⟨by
  obtain ⟨F, G, hF, hG, h1, h2⟩ := h.both
  exact ⟨F, G, hF, hG, fun b hb => ⟨(h1 b hb).1, fun hx => hx, (h1 b hb).2.2⟩, fun b hb => ⟨(h2 b hb).1, fun hx => hx, (h2 b hb).2.2⟩⟩, h.keep, fun b hb => hb.elim⟩
section
variable {w0 w : World} {D E m : Nat} {s t : DSt} {U : Thing} {X : Nat → Prop}
theorem Two.few (h : Two w0 w (dskT D s m) U X) : s.waits.length ≤ 65536 * m := by obtain ⟨F, G, hF, _⟩ := h.both; exact Dsk.few hF
theorem Two.more {m' : Nat} (h : Two w0 w (dskT D s m) U X) (hm : m ≤ m') : Two w0 w (dskT D s m') U X := ⟨by
  obtain ⟨F, G, hF, hG, h1, h2⟩ := h.both
  exact ⟨F, G, Dsk.more hF hm, hG, h1, h2⟩, h.keep, h.lt⟩
theorem rtwo_write (a : Int) (l : List UInt8) (A : Option Addr) (n c : Nat) (ha : -9223372036854775808 ≤ a ∧ a ≤ 9223372036854775807) (hsl : Sl w X A n c l) (hw : t.waits.length < 1073741824) (h : Two w0 w (rdskT E t) U X) : Calls Try.prog 31 #[.pointer (some ⟨E, 0, none⟩), .int .i64 a, .slice A n c] w fun e w' =>
    e = .returned (.int .i64 (t.writeE a l)) ∧ Two w0 w' (rdskT E (t.write a l)) U X ∧ KeepX X w w' := by
  obtain ⟨F, G, hF, hG, h1, h2⟩ := h.both
  have h' : Two w0 w (rdskT E t) U X := h
  have key : Calls Try.prog 31 #[.pointer (some ⟨E, 0, none⟩), .int .i64 a, .slice A n c] w fun e w' => e = .returned (.int .i64 (t.writeE a l)) ∧ RDsk w' E (t.write a l) (Ext F w w') ∧ Keep F w w' :=
    rwrite_any a l A n c ha hsl (fun b hb hx => (h1 b hx).2.1 hb) hw hF
  refine key.mono fun e w' ⟨he, h3, h4⟩ => ⟨he, ?_⟩
  have hs := h.keep.size
  refine ⟨⟨⟨_, G, h3, U.keep hG h4 (fun b hb hf => (h1 b hf).2.2 hb), fun b hb => ?_, fun b hb => ⟨(h2 b hb).1, (h2 b hb).2.1, Nat.lt_of_lt_of_le (h2 b hb).2.2 h4.size⟩⟩, h.keep.trans h4 fun b hb hx => by have := (h1 b hx).1; omega, fun b hb => Nat.lt_of_lt_of_le (h.lt b hb) h4.size⟩, h4.mono fun b _ hx => (h1 b hx).2.1⟩
  rcases hb with hb | hb
  · exact h1 b hb
  · exact ⟨by omega, fun hx => by have := h.lt b hx; omega, fun hx => by have := (h2 b hx).2.2; omega⟩
theorem rtwo_sync (hw : t.waits.length < 1073741824) (h : Two w0 w (rdskT E t) U X) : Calls Try.prog 32 #[.pointer (some ⟨E, 0, none⟩)] w fun e w' => e = .returned (.int .i64 t.syncE) ∧ Two w0 w' (rdskT E t.sync) U X ∧ KeepX X w w' :=
  Two.calls (T := rdskT E t) (T' := rdskT E t.sync) h fun F hd => (rsync_any (by omega) hd).mono fun e w' ⟨he, h1, h2⟩ => ⟨he, h1.mono fun b _ hb => .inl hb, h2⟩
theorem rtwo_restart (keep : Int) (hw : t.waits.length < 1073741824) (h : Two w0 w (rdskT E t) U X) : Calls Try.prog 34 #[.pointer (some ⟨E, 0, none⟩), .int .i64 keep] w fun e w' => e = .returned (.int .i64 (t.cut keep : Int)) ∧ Two w0 w' (rdskT E (t.restart keep)) U X ∧ KeepX X w w' :=
  Two.calls (T := rdskT E t) (T' := rdskT E (t.restart keep)) h fun F hd => (rrestart_any keep (by omega) hd).mono fun e w' ⟨he, h1, h2⟩ => ⟨he, h1.mono fun b _ hb => .inl hb, h2⟩
theorem rtwo_arm (n : Int) (hn : n ≤ 9223372036854775807) (h : Two w0 w (rdskT E t) U X) : Calls Try.prog 33 #[.pointer (some ⟨E, 0, none⟩), .int .i64 n] w fun e w' => e = .returned (.tuple #[]) ∧ Two w0 w' (rdskT E (t.arm n)) U X ∧ KeepX X w w' :=
  Two.calls (T := rdskT E t) (T' := rdskT E (t.arm n)) h fun F hd => (rarm_any n hn hd).mono fun e w' ⟨he, h1, h2⟩ => ⟨he, h1.mono fun b _ hb => .inl hb, h2.mono fun b _ e => by rw [e]; exact RDsk.fD hd⟩
theorem rtwo_read (a n : Int) (ha : -9223372036854775808 ≤ a ∧ a ≤ 9223372036854775807) (hw : t.waits.length < 1073741824) (h : Two w0 w (rdskT E t) U X) : Calls Try.prog 36 #[.pointer (some ⟨E, 0, none⟩), .int .i64 a, .int .i64 n] w fun e w' =>
    ∃ A k c, e = .returned (.tuple #[.slice A k c, .int .i64 (t.ask a n)]) ∧ Sl w' (New X w w') A k c (t.readL a n) ∧ Two w0 w' (rdskT E t) U (New X w w') ∧ Keep0 w w' ∧ Own w' w.heap.size 5 A k c ((t.readL a n).map bv) := by
  obtain ⟨F, G, hd, _⟩ := h.both
  exact (rread_any a n ha hw hd).mono fun e w' ⟨A, k, c, he, ho, hk⟩ => ⟨A, k, c, he, ho.sl.mono fun b hb hx => .inr ⟨hx, hb⟩, h.add hk, hk, ho⟩
theorem rtwo_cells (h : Two w0 w (rdskT E t) U X) : ∃ K P pc, w.cell? ⟨E, 0, none⟩ = some (.slice (some ⟨K, 0, none⟩) t.kept.length t.kept.length) ∧ w.cell? ⟨E, 1, none⟩ = some (.slice P t.waits.length pc) ∧ w.cell? ⟨E, 2, none⟩ = some (.bool t.down) := by
  obtain ⟨F, G, hd, _⟩ := h.both
  obtain ⟨K, P, pc, hr⟩ := hd
  exact ⟨K, P, pc, hr.cells.1, hr.cells.2.1, hr.cells.2.2.1⟩
end
theorem diskPlays_walk (size : Int) (Z : Nat → Nat → Int) (A : Option Addr) (L c : Nat) (w : World) (hm : L ≤ maxLen) (hz : ∀ i j, i < L → j < 3 → -9223372036854775808 ≤ Z i j ∧ Z i j ≤ 9223372036854775807)
    (hc : 0 < L → 0 < 3 → ∃ b o, A = some ⟨b, o, none⟩ ∧ b < w.heap.size ∧ ∀ i j, i < L → j < 3 → w.cell? ⟨b, o + (i * 3 + j), none⟩ = some (.int .i64 (Z i j))) :
    Calls Try.prog 7 #[.int .i64 size, .slice A L c] w fun e w' => e = .returned (.bool true) ∧ Keep0 w w' := by
  have HC := Lib.hid hc
  have HZ := Lib.hid hz
  unfold maxLen at hm
  clear hc hz
  by_cases h3 : 80 < L
  · go_enter Try.func7, Try.ntmps7
    go_wp2_with fail
    refine (small17 w).mono ?_
    rintro e w1 ⟨rfl, hk1⟩
    go_wp2_with fail
    refine (one_new size w1).mono ?_
    rintro e w2 ⟨D, rfl, h2⟩
    go_wp2_with fail
    refine (rnew_any size w2).mono ?_
    rintro e w3 ⟨E, rfl, hd3, hk3⟩
    have hkf := (hk1.and0 h2.keep).and0 hk3
    clear hd3 hk3 h2 hk1
    go_wp2_with fail
    go_ret
    exact ⟨rfl, hkf⟩
  · go_enter Try.func7, Try.ntmps7
    go_wp2_with fail
    refine (small17 w).mono ?_
    rintro e w1 ⟨rfl, hk1⟩
    go_wp2_with fail
    refine (one_new size w1).mono ?_
    rintro e w2 ⟨D, rfl, h2⟩
    go_wp2_with fail
    refine (rnew_any size w2).mono ?_
    rintro e w3 ⟨E, rfl, hd3, hk3⟩
    have HT3 : Hid (Two w1 w3 (dskT D (DSt.new (newSize size)) 0) (rdskT E (DSt.new (newSize size))) Nil) := (Two.mk_ (T := rdskT E (DSt.new (newSize size))) h2 hd3 (fun b hb => hb) hk3).swap
    have HK1 := Lib.hid hk1
    clear hd3 hk3 h2 hk1
    go_wp2_with fail
    go_loopw [8] (fun i wr => ∃ (k : Nat) (s : DSt), k ≤ L ∧ i = .int .i64 k ∧ Two w1 wr (dskT D s k) (rdskT E s) Nil) (fun i _ => L - (intOf i).toNat)
    case atStart => exact ⟨0, _, Nat.zero_le _, rfl, HT3.out⟩
    case round =>
      obtain ⟨k, s, hk, rfl, htwo⟩ := hrel
      obtain ⟨wo, rfl⟩ : ∃ wo : World, wo = wr := ⟨_, rfl⟩
      have HT := Lib.hid htwo
      clear htwo
      by_cases hlt : k < L
      · obtain ⟨b, oo, rfl, hbw, hcell⟩ := HC.out (by omega) (by omega)
        have hcw : ∀ j, j < 3 → wo.cell? ⟨b, oo + (k * 3 + j), none⟩ = some (.int .i64 (Z k j)) := fun j hj => HT.out.keep.cell_some (HK1.out.cell_some (hcell k j hlt hj) fun hb => hb) fun hb => hb
        have hc0 : wo.cell? ⟨b, oo + k * 3, none⟩ = some (.int .i64 (Z k 0)) := hcw 0 (by omega)
        have hc1 : wo.cell? ⟨b, oo + k * 3 + 1, none⟩ = some (.int .i64 (Z k 1)) := hcw 1 (by omega)
        have hc2 : wo.cell? ⟨b, oo + k * 3 + 2, none⟩ = some (.int .i64 (Z k 2)) := hcw 2 (by omega)
        have hb1 := HZ.out k 1 hlt (by omega)
        have hb2 := HZ.out k 2 hlt (by omega)
        clear hcell hcw
        generalize Z k 0 = z0 at hc0
        generalize Z k 1 = z1 at hc1 hb1
        generalize Z k 2 = z2 at hc2 hb2
        have hk80 : k < 80 := by omega
        obtain ⟨n, hn32, hnz⟩ := and31_any z2
        obtain ⟨w4, hmk, hown4, hk4, hs4⟩ := make_zeros (w := wo.alloc (.cells #[.int .i64 z0, .int .i64 z1, .int .i64 z2] 46)) (n : Int) n rfl (by omega)
        obtain ⟨g, hg⟩ : ∃ g, g = (wo.alloc (.cells #[.int .i64 z0, .int .i64 z1, .int .i64 z2] 46)).heap.size := ⟨_, rfl⟩
        have hgs : g = wo.heap.size + 1 := by rw [hg]; simp
        rw [← hg] at hmk hown4 hs4
        have hblk : Blk w4 wo.heap.size 46 #[.int .i64 z0, .int .i64 z1, .int .i64 z2] := (Blk.new wo 46 #[.int .i64 z0, .int .i64 z1, .int .i64 z2]).keep0 hk4
        have hk04 : Keep0 wo w4 := (Keep.alloc wo _).andThen hk4
        have HT4 := Lib.hid (HT.out.add hk04)
        have HB4 := Lib.hid hblk
        have HO4 := Lib.hid hown4
        have HGS := Lib.hid hgs
        have HS4 := Lib.hid hs4
        rw [hgs] at hmk
        have hqs : (wo.alloc (.cells #[.int .i64 z0, .int .i64 z1, .int .i64 z2] 46)).heap.size = wo.heap.size + 1 := by simp
        clear hg hgs hown4 hk4 hs4 hblk hk04 hqs
        go_wp2_with fail
        go_loopw [11] (fun jj wr => ∃ (j : Nat) (l : List UInt8), j ≤ n ∧ jj = .int .i64 j ∧ Own wr (wo.heap.size + 1) 5 (some ⟨wo.heap.size + 1, 0, none⟩) n n (l.map bv) ∧ Keep (fun b => b = wo.heap.size + 1) w4 wr) (fun jj _ => n - (intOf jj).toNat)
        case atStart => exact ⟨0, _, Nat.zero_le _, rfl, by rw [← HGS.out]; exact HO4.out.mono (by rw [HGS.out]; simp), Keep.refl _ _⟩
        case round =>
          obtain ⟨j, l, hj, rfl, hown, hkr⟩ := hrel
          by_cases hjn : j < n
          · obtain ⟨g', e, _, _, ⟨u, hcu, _⟩, hfz, hset⟩ := hown.set_ hjn
            injection e with e
            injection e with e
            subst e
            have hfin := hset (bv (UInt8.ofNat (k + 3 * j + 1)))
            rw [← List.map_set] at hfin
            have e2 : bv (UInt8.ofNat (k + 3 * j + 1)) = .int .u8 ((k : Int) + 3 * (j : Int) + 1) := by
              unfold bv
              rw [UInt8.toNat_ofNat', Nat.mod_eq_of_lt (by omega)]
              congr 1
            rw [e2] at hfin
            have HF := Lib.hid hfin
            have HKF := Lib.hid (hkr.andThen (Keep.setCell (S := fun b => b = wo.heap.size + 1) wr ⟨wo.heap.size + 1, j, none⟩ (.int .u8 ((k : Int) + 3 * (j : Int) + 1)) rfl))
            clear hset hfin e2 hown hkr
            go_wp2_with fail
            go_roundw
            case rel => exact ⟨j + 1, _, by omega, by go_num, HF.out, HKF.out⟩
            case measure => simp [intOf]; omega
          · have hX : ∀ b, b = wo.heap.size + 1 → New Nil wo w4 b := fun b e => .inr ⟨by omega, by rw [HS4.out, HGS.out]; omega⟩
            have hb1w : w1.heap.size ≤ wo.heap.size := HT.out.keep.size
            have hT5 := HT4.out.writeX hkr hX (fun b e => by omega)
            have hB5 := HB4.out.keep hkr (by omega)
            have hS5 : Sl wr (New Nil wo w4) (some ⟨wo.heap.size + 1, 0, none⟩) n n l := hown.slAt.mono fun b hb hx => hX b hx
            obtain ⟨X, hXX⟩ : ∃ X, X = New Nil wo w4 := ⟨_, rfl⟩
            rw [← hXX] at hT5 hS5
            have hXn : X wo.heap.size := by rw [hXX]; exact .inr ⟨Nat.le_refl _, by rw [HS4.out, HGS.out]; omega⟩
            obtain ⟨nb, hnb⟩ : ∃ nb, nb = wo.heap.size := ⟨_, rfl⟩
            rw [← hnb] at hB5 hXn hS5 ⊢
            obtain ⟨w5, rfl⟩ : ∃ w5 : World, w5 = wr := ⟨_, rfl⟩
            have hcells : ∀ W, KeepX X w5 W → W.cell? ⟨nb, 0, none⟩ = some (.int .i64 z0) ∧ W.cell? ⟨nb, 1, none⟩ = some (.int .i64 z1) ∧ W.cell? ⟨nb, 2, none⟩ = some (.int .i64 z2) := fun W hW => by
              have h9 := hB5.keep hW (fun hx => hx hXn)
              exact ⟨h9.cell 0, h9.cell 1, h9.cell 2⟩
            have hdata : ∀ W, KeepX X w5 W → Sl W X (some ⟨nb + 1, 0, none⟩) n n l := fun W hW => hS5.keepX hW
            obtain ⟨hc50, hc51, hc52⟩ := hcells w5 (Keep.refl _ _)
            have HCE := Lib.hid hcells
            have HDA := Lib.hid hdata
            have HT5 := Lib.hid hT5
            have hfew : s.waits.length ≤ 65536 * k := hT5.few
            clear hcells hdata hT5 hB5 hS5 hX hXX hnb hown hkr hXn hb1w hmk hc0 hc1 hc2
            obtain ⟨q, hq⟩ : ∃ q, bits BinOp.and IntKind.i64 z0 7 = q := ⟨_, rfl⟩
            have hsw : (q = 0 ∨ q = 1 ∨ q = 2 ∨ q = 3) ∨ q = 4 ∨ q = 5 ∨ q = 6 ∨ (q ≠ 0 ∧ q ≠ 1 ∧ q ≠ 2 ∧ q ≠ 3 ∧ q ≠ 4 ∧ q ≠ 5 ∧ q ≠ 6) := by omega
            rcases hsw with hsw | rfl | rfl | rfl | ⟨g0, g1, g2, g3, g4, g5, g6⟩
            · rcases hsw with rfl | rfl | rfl | rfl
              all_goals
                go_wp2_with fail
                have hnb5 : ∀ W, KeepX X w5 W → W.cell? ⟨nb, 1, none⟩ = some (.int .i64 z1) := fun W hW => (HCE.out W hW).2.1
                have HNB := Lib.hid hnb5
                clear hnb5
                have hk0 : Keep0 w5 w5.drew := Keep.drew w5
                refine wp_region_held_drew (S := fun W => W.cell? ⟨nb, 1, none⟩ = some (.int .i64 z1)) (by kernel_rfl) ?_ (fun hHeld => ?_)
                · exact HNB.out _ (hk0.of0 _)
                refine wpAnyH_take (i := 0) (oi := ⟨_, _, _, _, _, _⟩) (v := ?_) rfl (by kernel_rfl) (by kernel_rfl) (by kernel_rfl) (fun _ _ _ h => h) (Or.inl ⟨by rfl, ?_⟩) (by assumption) ?_
                rotate_left
                · intro W hSw; (try dsimp only at hSw); go_simp; try with_reducible rfl
                try simp only [Act.put, List.setIfInBounds_toArray, List.set_cons_zero, List.set_cons_succ]
                refine wpAnyH_take (i := 1) (oi := ⟨_, _, _, _, _, _⟩) (v := ?_) rfl (by kernel_rfl) (by kernel_rfl) (by kernel_rfl) (fun _ _ _ h => h) (Or.inl ⟨by rfl, ?_⟩) (by assumption) ?_
                rotate_left
                · intro W hSw; (try dsimp only at hSw); go_simp; try with_reducible rfl
                try simp only [Act.put, List.setIfInBounds_toArray, List.set_cons_zero, List.set_cons_succ]
                refine wpAnyH_take (i := 2) (oi := ⟨_, _, _, _, _, _⟩) (v := ?_) rfl (by kernel_rfl) (by kernel_rfl) (by kernel_rfl) (fun _ _ _ h => h) (Or.inl ⟨by rfl, ?_⟩) (by assumption) ?_
                rotate_left
                · intro W hSw; (try dsimp only at hSw); go_simp; try with_reducible rfl
                try simp only [Act.put, List.setIfInBounds_toArray, List.set_cons_zero, List.set_cons_succ]
                refine wpAnyH_take (i := 3) (oi := ⟨_, _, _, _, _, _⟩) (v := ?_) rfl (by kernel_rfl) (by kernel_rfl) (by kernel_rfl) (fun _ _ _ h => h) (Or.inl ⟨by rfl, ?_⟩) (by assumption) ?_
                rotate_left
                · intro W hSw; (try dsimp only at hSw); go_simp; try with_reducible rfl
                try simp only [Act.put, List.setIfInBounds_toArray, List.set_cons_zero, List.set_cons_succ]
                refine wpAnyH_take (i := 5) (oi := ⟨_, _, _, _, _, _⟩) (v := ?_) rfl (by kernel_rfl) (by kernel_rfl) (by kernel_rfl) (fun _ _ _ h => h) (Or.inl ⟨by rfl, ?_⟩) (by assumption) ?_
                rotate_left
                · intro W hSw; (try dsimp only at hSw); go_simp; try with_reducible rfl
                try simp only [Act.put, List.setIfInBounds_toArray, List.set_cons_zero, List.set_cons_succ]
                refine wpAnyH_take (i := 6) (oi := ⟨_, _, _, _, _, _⟩) (v := ?_) rfl (by kernel_rfl) (by kernel_rfl) (by kernel_rfl) (fun _ _ _ h => h) (Or.inl ⟨by rfl, ?_⟩) (by assumption) ?_
                rotate_left
                · intro W hSw; (try dsimp only at hSw); go_simp; try with_reducible rfl
                try simp only [Act.put, List.setIfInBounds_toArray, List.set_cons_zero, List.set_cons_succ]
                refine wpAnyH_take (i := 7) (oi := ⟨_, _, _, _, _, _⟩) (v := ?_) rfl (by kernel_rfl) (by kernel_rfl) (by kernel_rfl) (fun _ _ _ h => h) (Or.inl ⟨by rfl, ?_⟩) (by assumption) ?_
                rotate_left
                · intro W hSw; (try dsimp only at hSw); go_simp; try with_reducible rfl
                try simp only [Act.put, List.setIfInBounds_toArray, List.set_cons_zero, List.set_cons_succ]
                refine wpAnyH_take (i := 8) (oi := ⟨_, _, _, _, _, _⟩) (v := ?_) rfl (by kernel_rfl) (by kernel_rfl) (by kernel_rfl) (fun _ _ _ h => h) (Or.inl ⟨by rfl, ?_⟩) (by assumption) ?_
                rotate_left
                · intro W hSw; (try dsimp only at hSw); go_simp; try with_reducible rfl
                try simp only [Act.put, List.setIfInBounds_toArray, List.set_cons_zero, List.set_cons_succ]
                refine wpAnyH_ready (rs := [4]) (by kernel_rfl) (by simp) ?_
                refine AllReadyH.cons (o := ⟨_, _, _, _, _, _⟩) rfl (fun K hK => ?_) AllReadyH.nil
                go_simp
                refine (two_write z1 l X (some ⟨nb + 1, 0, none⟩) n n hb1 (HDA.out _ (hk0.of0 _)) (by omega) (HT5.out.keep0 hk0)).mono ?_
                rintro e w6 ⟨rfl, hT6, hk6⟩
                have HT6 := Lib.hid hT6.swap
                have HK6 := Lib.hid ((hk0.of0 (fun b => ¬ X b)).andThen hk6)
                clear hT6 hk6
                refine hK.out _ _ ?_ (fun hHeld => ?_)
                · exact HNB.out _ HK6.out
                clear hK K
                try simp only [Act.put, List.setIfInBounds_toArray, List.set_cons_zero, List.set_cons_succ]
                refine wpAnyH_ready (rs := [9]) (by kernel_rfl) (by simp) ?_
                refine AllReadyH.cons (o := ⟨_, _, _, _, _, _⟩) rfl (fun K hK => ?_) AllReadyH.nil
                go_simp
                refine (rtwo_write z1 l (some ⟨nb + 1, 0, none⟩) n n hb1 (HDA.out _ HK6.out) (by omega) HT6.out).mono ?_
                rintro e w7 ⟨rfl, hT7, hk7⟩
                have HT7 : Hid (Two w1 w7 (dskT D (s.write z1 l) (k + 1)) (rdskT E (s.write z1 l)) X) := hT7.swap
                have HK7 := Lib.hid (HK6.out.andThen hk7)
                clear hT7 hk7
                refine hK.out _ _ ?_ (fun hHeld => ?_)
                · exact HNB.out _ HK7.out
                clear hK K
                try simp only [Act.put, List.setIfInBounds_toArray, List.set_cons_zero, List.set_cons_succ]
                refine wpAnyH_take (i := 10) (oi := ⟨_, _, _, _, _, _⟩) (v := ?_) rfl (by kernel_rfl) (by kernel_rfl) (by kernel_rfl) (fun _ _ _ h => h) (Or.inl ⟨by rfl, ?_⟩) (by assumption) ?_
                rotate_left
                · intro W hSw; (try dsimp only at hSw); go_simp; try with_reducible rfl
                try simp only [Act.put, List.setIfInBounds_toArray, List.set_cons_zero, List.set_cons_succ]
                refine wpAnyH_take (i := 11) (oi := ⟨_, _, _, _, _, _⟩) (v := ?_) rfl (by kernel_rfl) (by kernel_rfl) (by kernel_rfl) (fun _ _ _ h => h) (Or.inl ⟨by rfl, ?_⟩) (by assumption) ?_
                rotate_left
                · intro W hSw; (try dsimp only at hSw); go_simp; try with_reducible rfl
                try simp only [Act.put, List.setIfInBounds_toArray, List.set_cons_zero, List.set_cons_succ]
                refine wpAnyH_done (by kernel_rfl) ?_ _
                as_aux_lemma =>
                  obtain ⟨hc70, hc71, hc72⟩ := HCE.out w7 HK7.out
                  obtain ⟨t, ht⟩ : ∃ t, t = s.write z1 l := ⟨_, rfl⟩
                  rw [← ht] at HT7
                  clear ht
                  go_wp2_with fail
                  have hfew7 : t.waits.length ≤ 65536 * (k + 1) := HT7.out.few
                  refine (two_read z1 z2 hb1 (by omega) HT7.out).mono ?_
                  rintro e w8 ⟨A8, k8, c8, rfl, hs8, hT8, hk8, ho8⟩
                  have HS8 := Lib.hid hs8
                  have HT8 := Lib.hid hT8.swap
                  have HO8 := Lib.hid ho8
                  have hc81 : w8.cell? ⟨nb, 1, none⟩ = some (.int .i64 z1) := hk8.cell_some hc71 fun hb => hb
                  have hc82 : w8.cell? ⟨nb, 2, none⟩ = some (.int .i64 z2) := hk8.cell_some hc72 fun hb => hb
                  have hs78 := hk8.size
                  clear hs8 hT8 hk8 ho8
                  go_wp2_with fail
                  refine (rtwo_read z1 z2 hb1 (by omega) HT8.out).mono ?_
                  rintro e w9 ⟨A9, k9, c9, rfl, hs9, hT9, hk9, _⟩
                  have HT9 := Lib.hid hT9.swap
                  have hs89 := hk9.size
                  obtain ⟨KE, PE, pE, hE0, hE1, hE2⟩ := rtwo_cells hT9
                  have hkeep : ∀ W, Keep0 w9 W → (convert 22 9 (.slice A8 k8 c8)).run Try.prog W = .ok (.string (strB (t.readL z1 z2))) W ∧ (convert 22 9 (.slice A9 k9 c9)).run Try.prog W = .ok (.string (strB (t.readL z1 z2))) W ∧ W.cell? ⟨E, 0, none⟩ = some (.slice (some ⟨KE, 0, none⟩) t.kept.length t.kept.length) ∧ W.cell? ⟨E, 1, none⟩ = some (.slice PE t.waits.length pE) ∧ W.cell? ⟨E, 2, none⟩ = some (.bool t.down) := fun W hW =>
                    ⟨((HS8.out.keep0 hk9).keep0 hW).str 22 5 9 Try.underlying22 Try.underlying5 Try.underlying9, (hs9.keep0 hW).str 22 5 9 Try.underlying22 Try.underlying5 Try.underlying9, hW.cell_some hE0 (fun hb => hb), hW.cell_some hE1 (fun hb => hb), hW.cell_some hE2 (fun hb => hb)⟩
                  have HKP := Lib.hid hkeep
                  have HO9 : Hid (Own w9 w7.heap.size 5 A8 k8 c8 ((t.readL z1 z2).map bv)) := HO8.out.keep0 hk9
                  have hA8 : ∀ b, BlkOf A8 b → New (New X w7 w8) w8 w9 b ∧ w7.heap.size ≤ b := fun b hb => by
                    obtain ⟨a, rfl, rfl⟩ := hb
                    have := HO8.out.row a.block rfl
                    exact ⟨.inl (.inr this), this.1⟩
                  have HA8 := Lib.hid hA8
                  have hw17 : w1.heap.size ≤ w7.heap.size := HT7.out.keep.size
                  have hTd : Two w1 w9.drew (dskT D t (k + 1)) (rdskT E t) (New (New X w7 w8) w8 w9) := HT9.out.keep0 (Keep.drew w9)
                  have HTD := Lib.hid hTd
                  have hk8n : k8 ≤ maxLen := Nat.le_trans HO8.out.sl.cap HO8.out.sl.max
                  unfold maxLen at hk8n
                  clear hkeep hs9 hT9 hk9 hE0 hE1 hE2 hA8 hTd hc50 hc51 hc52 hc70 hc71 hc72 hc81 hc82
                  go_wp2_with fail
                  refine wp_region_held_drew (S := fun W => (convert 22 9 (.slice A8 k8 c8)).run Try.prog W = .ok (.string (strB (t.readL z1 z2))) W ∧ (convert 22 9 (.slice A9 k9 c9)).run Try.prog W = .ok (.string (strB (t.readL z1 z2))) W ∧ W.cell? ⟨E, 0, none⟩ = some (.slice (some ⟨KE, 0, none⟩) t.kept.length t.kept.length) ∧ W.cell? ⟨E, 1, none⟩ = some (.slice PE t.waits.length pE) ∧ W.cell? ⟨E, 2, none⟩ = some (.bool t.down)) (by kernel_rfl) ?_ (fun hHeld => ?_)
                  · exact HKP.out _ (Keep.drew w9)
                  refine wpAnyH_take (i := 0) (oi := ⟨_, _, _, _, _, _⟩) (v := ?_) rfl (by kernel_rfl) (by kernel_rfl) (by kernel_rfl) (fun _ _ _ h => h) (Or.inl ⟨by rfl, ?_⟩) (by assumption) ?_
                  rotate_left
                  · intro W hSw; (try dsimp only at hSw); go_simp; try with_reducible rfl
                  try simp only [Act.put, List.setIfInBounds_toArray, List.set_cons_zero, List.set_cons_succ]
                  refine wpAnyH_take (i := 1) (oi := ⟨_, _, _, _, _, _⟩) (v := ?_) rfl (by kernel_rfl) (by kernel_rfl) (by kernel_rfl) (fun _ _ _ h => h) (Or.inl ⟨by rfl, ?_⟩) (by assumption) ?_
                  rotate_left
                  · intro W hSw; (try dsimp only at hSw); go_simp; try with_reducible rfl
                  try simp only [Act.put, List.setIfInBounds_toArray, List.set_cons_zero, List.set_cons_succ]
                  refine wpAnyH_take (i := 2) (oi := ⟨_, _, _, _, _, _⟩) (v := ?_) rfl (by kernel_rfl) (by kernel_rfl) (by kernel_rfl) (fun _ _ _ h => h) (Or.inl ⟨by rfl, ?_⟩) (by assumption) ?_
                  rotate_left
                  · intro W hSw; (try dsimp only at hSw); go_simp; try with_reducible rfl
                  try simp only [Act.put, List.setIfInBounds_toArray, List.set_cons_zero, List.set_cons_succ]
                  refine wpAnyH_take (i := 3) (oi := ⟨_, _, _, _, _, _⟩) (v := ?_) rfl (by kernel_rfl) (by kernel_rfl) (by kernel_rfl) (fun _ _ _ h => h) (Or.inl ⟨by rfl, ?_⟩) (by assumption) ?_
                  rotate_left
                  · intro W hSw; (try dsimp only at hSw); go_simp; try with_reducible rfl
                  try simp only [Act.put, List.setIfInBounds_toArray, List.set_cons_zero, List.set_cons_succ]
                  refine wpAnyH_take (i := 4) (oi := ⟨_, _, _, _, _, _⟩) (v := ?_) rfl (by kernel_rfl) (by kernel_rfl) (by kernel_rfl) (fun _ _ _ h => h) (Or.inl ⟨by rfl, ?_⟩) (by assumption) ?_
                  rotate_left
                  · intro W hSw; (try dsimp only at hSw); go_simp; try with_reducible rfl
                  try simp only [Act.put, List.setIfInBounds_toArray, List.set_cons_zero, List.set_cons_succ]
                  refine wpAnyH_take (i := 5) (oi := ⟨_, _, _, _, _, _⟩) (v := ?_) rfl (by kernel_rfl) (by kernel_rfl) (by kernel_rfl) (fun _ _ _ h => h) (Or.inl ⟨by rfl, ?_⟩) (by assumption) ?_
                  rotate_left
                  · intro W hSw; (try dsimp only at hSw); go_simp; try with_reducible rfl
                  try simp only [Act.put, List.setIfInBounds_toArray, List.set_cons_zero, List.set_cons_succ]
                  refine wpAnyH_take (i := 6) (oi := ⟨_, _, _, _, _, _⟩) (v := ?_) rfl (by kernel_rfl) (by kernel_rfl) (by kernel_rfl) (fun _ _ _ h => h) (Or.inl ⟨by rfl, ?_⟩) (by assumption) ?_
                  rotate_left
                  · intro W hSw; (try dsimp only at hSw); go_simp; try with_reducible rfl
                  try simp only [Act.put, List.setIfInBounds_toArray, List.set_cons_zero, List.set_cons_succ]
                  refine wpAnyH_take (i := 7) (oi := ⟨_, _, _, _, _, _⟩) (v := ?_) rfl (by kernel_rfl) (by kernel_rfl) (by kernel_rfl) (fun _ _ _ h => h) (Or.inl ⟨by rfl, ?_⟩) (by assumption) ?_
                  rotate_left
                  · intro W hSw; (try dsimp only at hSw); go_simp; try with_reducible rfl
                  try simp only [Act.put, List.setIfInBounds_toArray, List.set_cons_zero, List.set_cons_succ]
                  refine wpAnyH_take (i := 8) (oi := ⟨_, _, _, _, _, _⟩) (v := ?_) rfl (by kernel_rfl) (by kernel_rfl) (by kernel_rfl) (fun _ _ _ h => h) (Or.inl ⟨by rfl, ?_⟩) (by assumption) ?_
                  rotate_left
                  · intro W hSw; (try dsimp only at hSw); go_simp; try with_reducible rfl
                  try simp only [Act.put, List.setIfInBounds_toArray, List.set_cons_zero, List.set_cons_succ]
                  refine wpAnyH_take (i := 9) (oi := ⟨_, _, _, _, _, _⟩) (v := ?_) rfl (by kernel_rfl) (by kernel_rfl) (by kernel_rfl) (fun _ _ _ h => h) (Or.inl ⟨by rfl, ?_⟩) (by assumption) ?_
                  rotate_left
                  · intro W hSw; (try dsimp only at hSw); go_simp; try with_reducible rfl
                  try simp only [Act.put, List.setIfInBounds_toArray, List.set_cons_zero, List.set_cons_succ]
                  refine wpAnyH_take (i := 10) (oi := ⟨_, _, _, _, _, _⟩) (v := ?_) rfl (by kernel_rfl) (by kernel_rfl) (by kernel_rfl) (fun _ _ _ h => h) (Or.inl ⟨by rfl, ?_⟩) (by assumption) ?_
                  rotate_left
                  · intro W hSw; (try dsimp only at hSw); go_simp; try with_reducible rfl
                  try simp only [Act.put, List.setIfInBounds_toArray, List.set_cons_zero, List.set_cons_succ]
                  refine wpAnyH_take (i := 11) (oi := ⟨_, _, _, _, _, _⟩) (v := ?_) rfl (by kernel_rfl) (by kernel_rfl) (by kernel_rfl) (fun _ _ _ h => h) (Or.inl ⟨by rfl, ?_⟩) (by assumption) ?_
                  rotate_left
                  · intro W hSw; (try dsimp only at hSw); go_simp; try with_reducible rfl
                  try simp only [Act.put, List.setIfInBounds_toArray, List.set_cons_zero, List.set_cons_succ]
                  refine wpAnyH_take (i := 12) (oi := ⟨_, _, _, _, _, _⟩) (v := ?_) rfl (by kernel_rfl) (by kernel_rfl) (by kernel_rfl) (fun _ _ _ h => h) (Or.inl ⟨by rfl, ?_⟩) (by assumption) ?_
                  rotate_left
                  · intro W hSw; (try dsimp only at hSw); go_simp; try with_reducible rfl
                  try simp only [Act.put, List.setIfInBounds_toArray, List.set_cons_zero, List.set_cons_succ]
                  refine wpAnyH_take (i := 13) (oi := ⟨_, _, _, _, _, _⟩) (v := ?_) rfl (by kernel_rfl) (by kernel_rfl) (by kernel_rfl) (fun _ _ _ h => h) (Or.inl ⟨by rfl, ?_⟩) (by assumption) ?_
                  rotate_left
                  · intro W hSw; (try dsimp only at hSw); go_simp; try with_reducible rfl
                  try simp only [Act.put, List.setIfInBounds_toArray, List.set_cons_zero, List.set_cons_succ]
                  refine wpAnyH_take (i := 14) (oi := ⟨_, _, _, _, _, _⟩) (v := ?_) rfl (by kernel_rfl) (by kernel_rfl) (by kernel_rfl) (fun _ _ _ h => h) (Or.inl ⟨by rfl, ?_⟩) (by assumption) ?_
                  rotate_left
                  · intro W hSw; (try dsimp only at hSw); go_simp; try with_reducible rfl
                  try simp only [Act.put, List.setIfInBounds_toArray, List.set_cons_zero, List.set_cons_succ]
                  refine wpAnyH_take (i := 15) (oi := ⟨_, _, _, _, _, _⟩) (v := ?_) rfl (by kernel_rfl) (by kernel_rfl) (by kernel_rfl) (fun _ _ _ h => h) (Or.inl ⟨by rfl, ?_⟩) (by assumption) ?_
                  rotate_left
                  · intro W hSw; (try dsimp only at hSw); go_simp; try with_reducible rfl
                  try simp only [Act.put, List.setIfInBounds_toArray, List.set_cons_zero, List.set_cons_succ]
                  refine wpAnyH_take (i := 17) (oi := ⟨_, _, _, _, _, _⟩) (v := ?_) rfl (by kernel_rfl) (by kernel_rfl) (by kernel_rfl) (fun _ _ _ h => h) (Or.inl ⟨by rfl, ?_⟩) (by assumption) ?_
                  rotate_left
                  · intro W hSw; (try dsimp only at hSw); go_simp; try with_reducible rfl
                  try simp only [Act.put, List.setIfInBounds_toArray, List.set_cons_zero, List.set_cons_succ]
                  refine wpAnyH_take (i := 18) (oi := ⟨_, _, _, _, _, _⟩) (v := ?_) rfl (by kernel_rfl) (by kernel_rfl) (by kernel_rfl) (fun _ _ _ h => h) (Or.inl ⟨by rfl, ?_⟩) (by assumption) ?_
                  rotate_left
                  · intro W hSw; (try dsimp only at hSw); go_simp; try with_reducible rfl
                  try simp only [Act.put, List.setIfInBounds_toArray, List.set_cons_zero, List.set_cons_succ]
                  refine wpAnyH_take (i := 19) (oi := ⟨_, _, _, _, _, _⟩) (v := ?_) rfl (by kernel_rfl) (by kernel_rfl) (by kernel_rfl) (fun _ _ _ h => h) (Or.inl ⟨by rfl, ?_⟩) (by assumption) ?_
                  rotate_left
                  · intro W hSw; (try dsimp only at hSw); go_simp; try with_reducible rfl
                  try simp only [Act.put, List.setIfInBounds_toArray, List.set_cons_zero, List.set_cons_succ]
                  refine wpAnyH_take (i := 20) (oi := ⟨_, _, _, _, _, _⟩) (v := ?_) rfl (by kernel_rfl) (by kernel_rfl) (by kernel_rfl) (fun _ _ _ h => h) (Or.inl ⟨by rfl, ?_⟩) (by assumption) ?_
                  rotate_left
                  · intro W hSw; (try dsimp only at hSw); go_simp; try with_reducible rfl
                  try simp only [Act.put, List.setIfInBounds_toArray, List.set_cons_zero, List.set_cons_succ]
                  refine wpAnyH_ready (rs := [16]) (by kernel_rfl) (by simp) ?_
                  refine AllReadyH.cons (o := ⟨_, _, _, _, _, _⟩) rfl (fun K hK => ?_) AllReadyH.nil
                  go_simp
                  refine (two_down HTD.out).mono ?_
                  rintro e w' ⟨rfl, rfl⟩
                  refine hK.out _ _ ?_ (fun hHeld => ?_)
                  · exact HKP.out _ (Keep.drew w9)
                  clear hK K
                  try simp only [Act.put, List.setIfInBounds_toArray, List.set_cons_zero, List.set_cons_succ]
                  refine wpAnyH_take (i := 21) (oi := ⟨_, _, _, _, _, _⟩) (v := ?_) rfl (by kernel_rfl) (by kernel_rfl) (by kernel_rfl) (fun _ _ _ h => h) (Or.inl ⟨by rfl, ?_⟩) (by assumption) ?_
                  rotate_left
                  · intro W hSw; (try dsimp only at hSw); go_simp; try with_reducible rfl
                  try simp only [Act.put, List.setIfInBounds_toArray, List.set_cons_zero, List.set_cons_succ]
                  refine wpAnyH_take (i := 22) (oi := ⟨_, _, _, _, _, _⟩) (v := ?_) rfl (by kernel_rfl) (by kernel_rfl) (by kernel_rfl) (fun _ _ _ h => h) (Or.inl ⟨by rfl, ?_⟩) (by assumption) ?_
                  rotate_left
                  · intro W hSw; (try dsimp only at hSw); go_simp; try with_reducible rfl
                  try simp only [Act.put, List.setIfInBounds_toArray, List.set_cons_zero, List.set_cons_succ]
                  refine wpAnyH_take (i := 23) (oi := ⟨_, _, _, _, _, _⟩) (v := ?_) rfl (by kernel_rfl) (by kernel_rfl) (by kernel_rfl) (fun _ _ _ h => h) (Or.inl ⟨by rfl, ?_⟩) (by assumption) ?_
                  rotate_left
                  · intro W hSw; (try dsimp only at hSw); go_simp; try with_reducible rfl
                  try simp only [Act.put, List.setIfInBounds_toArray, List.set_cons_zero, List.set_cons_succ]
                  refine wpAnyH_take (i := 24) (oi := ⟨_, _, _, _, _, _⟩) (v := ?_) rfl (by kernel_rfl) (by kernel_rfl) (by kernel_rfl) (fun _ _ _ h => h) (Or.inl ⟨by rfl, ?_⟩) (by assumption) ?_
                  rotate_left
                  · intro W hSw; (try dsimp only at hSw); go_simp; try with_reducible rfl
                  try simp only [Act.put, List.setIfInBounds_toArray, List.set_cons_zero, List.set_cons_succ]
                  refine wpAnyH_take (i := 26) (oi := ⟨_, _, _, _, _, _⟩) (v := ?_) rfl (by kernel_rfl) (by kernel_rfl) (by kernel_rfl) (fun _ _ _ h => h) (Or.inl ⟨by rfl, ?_⟩) (by assumption) ?_
                  rotate_left
                  · intro W hSw; (try dsimp only at hSw); go_simp; try with_reducible rfl
                  try simp only [Act.put, List.setIfInBounds_toArray, List.set_cons_zero, List.set_cons_succ]
                  refine wpAnyH_take (i := 27) (oi := ⟨_, _, _, _, _, _⟩) (v := ?_) rfl (by kernel_rfl) (by kernel_rfl) (by kernel_rfl) (fun _ _ _ h => h) (Or.inl ⟨by rfl, ?_⟩) (by assumption) ?_
                  rotate_left
                  · intro W hSw; (try dsimp only at hSw); go_simp; try with_reducible rfl
                  try simp only [Act.put, List.setIfInBounds_toArray, List.set_cons_zero, List.set_cons_succ]
                  refine wpAnyH_take (i := 28) (oi := ⟨_, _, _, _, _, _⟩) (v := ?_) rfl (by kernel_rfl) (by kernel_rfl) (by kernel_rfl) (fun _ _ _ h => h) (Or.inl ⟨by rfl, ?_⟩) (by assumption) ?_
                  rotate_left
                  · intro W hSw; (try dsimp only at hSw); go_simp; try with_reducible rfl
                  try simp only [Act.put, List.setIfInBounds_toArray, List.set_cons_zero, List.set_cons_succ]
                  refine wpAnyH_take (i := 29) (oi := ⟨_, _, _, _, _, _⟩) (v := ?_) rfl (by kernel_rfl) (by kernel_rfl) (by kernel_rfl) (fun _ _ _ h => h) (Or.inl ⟨by rfl, ?_⟩) (by assumption) ?_
                  rotate_left
                  · intro W hSw; (try dsimp only at hSw); go_simp; try with_reducible rfl
                  try simp only [Act.put, List.setIfInBounds_toArray, List.set_cons_zero, List.set_cons_succ]
                  refine wpAnyH_take (i := 30) (oi := ⟨_, _, _, _, _, _⟩) (v := ?_) rfl (by kernel_rfl) (by kernel_rfl) (by kernel_rfl) (fun _ _ _ h => h) (Or.inl ⟨by rfl, ?_⟩) (by assumption) ?_
                  rotate_left
                  · intro W hSw; (try dsimp only at hSw); go_simp; try with_reducible rfl
                  try simp only [Act.put, List.setIfInBounds_toArray, List.set_cons_zero, List.set_cons_succ]
                  refine wpAnyH_ready (rs := [25]) (by kernel_rfl) (by simp) ?_
                  refine AllReadyH.cons (o := ⟨_, _, _, _, _, _⟩) rfl (fun K hK => ?_) AllReadyH.nil
                  go_simp
                  refine (two_pending HTD.out).mono ?_
                  rintro e w' ⟨rfl, rfl⟩
                  refine hK.out _ _ ?_ (fun hHeld => ?_)
                  · exact HKP.out _ (Keep.drew w9)
                  clear hK K
                  try simp only [Act.put, List.setIfInBounds_toArray, List.set_cons_zero, List.set_cons_succ]
                  refine wpAnyH_take (i := 31) (oi := ⟨_, _, _, _, _, _⟩) (v := ?_) rfl (by kernel_rfl) (by kernel_rfl) (by kernel_rfl) (fun _ _ _ h => h) (Or.inl ⟨by rfl, ?_⟩) (by assumption) ?_
                  rotate_left
                  · intro W hSw; (try dsimp only at hSw); go_simp; try with_reducible rfl
                  try simp only [Act.put, List.setIfInBounds_toArray, List.set_cons_zero, List.set_cons_succ]
                  refine wpAnyH_take (i := 32) (oi := ⟨_, _, _, _, _, _⟩) (v := ?_) rfl (by kernel_rfl) (by kernel_rfl) (by kernel_rfl) (fun _ _ _ h => h) (Or.inl ⟨by rfl, ?_⟩) (by assumption) ?_
                  rotate_left
                  · intro W hSw; (try dsimp only at hSw); go_simp; try with_reducible rfl
                  try simp only [Act.put, List.setIfInBounds_toArray, List.set_cons_zero, List.set_cons_succ]
                  refine wpAnyH_take (i := 33) (oi := ⟨_, _, _, _, _, _⟩) (v := ?_) rfl (by kernel_rfl) (by kernel_rfl) (by kernel_rfl) (fun _ _ _ h => h) (Or.inl ⟨by rfl, ?_⟩) (by assumption) ?_
                  rotate_left
                  · intro W hSw; (try dsimp only at hSw); go_simp; try with_reducible rfl
                  try simp only [Act.put, List.setIfInBounds_toArray, List.set_cons_zero, List.set_cons_succ]
                  refine wpAnyH_take (i := 34) (oi := ⟨_, _, _, _, _, _⟩) (v := ?_) rfl (by kernel_rfl) (by kernel_rfl) (by kernel_rfl) (fun _ _ _ h => h) (Or.inl ⟨by rfl, ?_⟩) (by assumption) ?_
                  rotate_left
                  · intro W hSw; (try dsimp only at hSw); go_simp; try with_reducible rfl
                  try simp only [Act.put, List.setIfInBounds_toArray, List.set_cons_zero, List.set_cons_succ]
                  refine wpAnyH_take (i := 36) (oi := ⟨_, _, _, _, _, _⟩) (v := ?_) rfl (by kernel_rfl) (by kernel_rfl) (by kernel_rfl) (fun _ _ _ h => h) (Or.inl ⟨by rfl, ?_⟩) (by assumption) ?_
                  rotate_left
                  · intro W hSw; (try dsimp only at hSw); go_simp; try with_reducible rfl
                  try simp only [Act.put, List.setIfInBounds_toArray, List.set_cons_zero, List.set_cons_succ]
                  refine wpAnyH_take (i := 37) (oi := ⟨_, _, _, _, _, _⟩) (v := ?_) rfl (by kernel_rfl) (by kernel_rfl) (by kernel_rfl) (fun _ _ _ h => h) (Or.inl ⟨by rfl, ?_⟩) (by assumption) ?_
                  rotate_left
                  · intro W hSw; (try dsimp only at hSw); go_simp; try with_reducible rfl
                  try simp only [Act.put, List.setIfInBounds_toArray, List.set_cons_zero, List.set_cons_succ]
                  refine wpAnyH_take (i := 38) (oi := ⟨_, _, _, _, _, _⟩) (v := ?_) rfl (by kernel_rfl) (by kernel_rfl) (by kernel_rfl) (fun _ _ _ h => h) (Or.inl ⟨by rfl, ?_⟩) (by assumption) ?_
                  rotate_left
                  · intro W hSw; (try dsimp only at hSw); go_simp; try with_reducible rfl
                  try simp only [Act.put, List.setIfInBounds_toArray, List.set_cons_zero, List.set_cons_succ]
                  refine wpAnyH_take (i := 39) (oi := ⟨_, _, _, _, _, _⟩) (v := ?_) rfl (by kernel_rfl) (by kernel_rfl) (by kernel_rfl) (fun _ _ _ h => h) (Or.inl ⟨by rfl, ?_⟩) (by assumption) ?_
                  rotate_left
                  · intro W hSw; (try dsimp only at hSw); go_simp; try with_reducible rfl
                  try simp only [Act.put, List.setIfInBounds_toArray, List.set_cons_zero, List.set_cons_succ]
                  refine wpAnyH_take (i := 40) (oi := ⟨_, _, _, _, _, _⟩) (v := ?_) rfl (by kernel_rfl) (by kernel_rfl) (by kernel_rfl) (fun _ _ _ h => h) (Or.inl ⟨by rfl, ?_⟩) (by assumption) ?_
                  rotate_left
                  · intro W hSw; (try dsimp only at hSw); go_simp; try with_reducible rfl
                  try simp only [Act.put, List.setIfInBounds_toArray, List.set_cons_zero, List.set_cons_succ]
                  refine wpAnyH_ready (rs := [35]) (by kernel_rfl) (by simp) ?_
                  refine AllReadyH.cons (o := ⟨_, _, _, _, _, _⟩) rfl (fun K hK => ?_) AllReadyH.nil
                  go_simp
                  refine (two_size HTD.out).mono ?_
                  rintro e w' ⟨rfl, rfl⟩
                  refine hK.out _ _ ?_ (fun hHeld => ?_)
                  · exact HKP.out _ (Keep.drew w9)
                  clear hK K
                  try simp only [Act.put, List.setIfInBounds_toArray, List.set_cons_zero, List.set_cons_succ]
                  refine wpAnyH_take (i := 41) (oi := ⟨_, _, _, _, _, _⟩) (v := ?_) rfl (by kernel_rfl) (by kernel_rfl) (by kernel_rfl) (fun _ _ _ h => h) (Or.inl ⟨by rfl, ?_⟩) (by assumption) ?_
                  rotate_left
                  · intro W hSw; (try dsimp only at hSw); go_simp; try with_reducible rfl
                  try simp only [Act.put, List.setIfInBounds_toArray, List.set_cons_zero, List.set_cons_succ]
                  refine wpAnyH_take (i := 42) (oi := ⟨_, _, _, _, _, _⟩) (v := ?_) rfl (by kernel_rfl) (by kernel_rfl) (by kernel_rfl) (fun _ _ _ h => h) (Or.inl ⟨by rfl, ?_⟩) (by assumption) ?_
                  rotate_left
                  · intro W hSw; (try dsimp only at hSw); go_simp; try with_reducible rfl
                  try simp only [Act.put, List.setIfInBounds_toArray, List.set_cons_zero, List.set_cons_succ]
                  refine wpAnyH_done (by kernel_rfl) ?_ _
                  clear hHeld
                  go_wp2_with fail
                  go_loopw [17] (fun jj wr => ∃ j : Nat, j ≤ k8 ∧ jj = .int .i64 j ∧ (∃ cs, Own wr w7.heap.size 5 A8 k8 c8 cs) ∧ Keep (BlkOf A8) w9.drew wr) (fun jj _ => k8 - (intOf jj).toNat)
                  case atStart => exact ⟨0, Nat.zero_le _, rfl, ⟨_, HO9.out.keep0 (Keep.drew w9)⟩, Keep.refl _ _⟩
                  case round =>
                    obtain ⟨j, hj, rfl, ⟨cs, hown⟩, hkr⟩ := hrel
                    by_cases hjn : j < k8
                    · obtain ⟨g', rfl, _, _, ⟨u, hcu, _⟩, hfz, hset⟩ := hown.set_ hjn
                      have HF := Lib.hid (hset (.int .u8 99))
                      have HKF := Lib.hid (hkr.andThen (Keep.setCell (S := BlkOf (some ⟨g', 0, none⟩)) wr ⟨g', j, none⟩ (.int .u8 99) ⟨_, rfl, rfl⟩))
                      clear hset hown hkr
                      go_wp2_with fail
                      go_roundw
                      case rel => exact ⟨j + 1, by omega, by go_num, ⟨_, HF.out⟩, HKF.out⟩
                      case measure => simp [intOf]; omega
                    · have HFIN := Lib.hid (HTD.out.writeX hkr (fun b hb => (HA8.out b hb).1) (fun b hb => Nat.le_trans hw17 (HA8.out b hb).2)).weak
                      clear hown hkr
                      go_wp2_with fail
                      go_roundw
                      case rel => exact ⟨k + 1, t, by omega, by go_num, HFIN.out⟩
                      case measure => simp [intOf]; omega
            · go_wp2_with fail
              refine (two_sync (by omega) HT5.out).mono ?_
              rintro e w6 ⟨rfl, hT6, hk6⟩
              have HT6 := Lib.hid hT6.swap
              have HK6 := Lib.hid hk6
              clear hT6 hk6
              go_wp2_with fail
              refine (rtwo_sync (by omega) HT6.out).mono ?_
              rintro e w7 ⟨rfl, hT7, hk7⟩
              have HT7 : Hid (Two w1 w7 (dskT D s.sync (k + 1)) (rdskT E s.sync) X) := hT7.swap.more (by omega)
              have HK7 := Lib.hid (HK6.out.andThen hk7)
              clear hT7 hk7
              as_aux_lemma =>
                obtain ⟨hc70, hc71, hc72⟩ := HCE.out w7 HK7.out
                obtain ⟨t, ht⟩ : ∃ t, t = s.sync := ⟨_, rfl⟩
                rw [← ht] at HT7
                clear ht
                go_wp2_with fail
                have hfew7 : t.waits.length ≤ 65536 * (k + 1) := HT7.out.few
                refine (two_read z1 z2 hb1 (by omega) HT7.out).mono ?_
                rintro e w8 ⟨A8, k8, c8, rfl, hs8, hT8, hk8, ho8⟩
                have HS8 := Lib.hid hs8
                have HT8 := Lib.hid hT8.swap
                have HO8 := Lib.hid ho8
                have hc81 : w8.cell? ⟨nb, 1, none⟩ = some (.int .i64 z1) := hk8.cell_some hc71 fun hb => hb
                have hc82 : w8.cell? ⟨nb, 2, none⟩ = some (.int .i64 z2) := hk8.cell_some hc72 fun hb => hb
                have hs78 := hk8.size
                clear hs8 hT8 hk8 ho8
                go_wp2_with fail
                refine (rtwo_read z1 z2 hb1 (by omega) HT8.out).mono ?_
                rintro e w9 ⟨A9, k9, c9, rfl, hs9, hT9, hk9, _⟩
                have HT9 := Lib.hid hT9.swap
                have hs89 := hk9.size
                obtain ⟨KE, PE, pE, hE0, hE1, hE2⟩ := rtwo_cells hT9
                have hkeep : ∀ W, Keep0 w9 W → (convert 22 9 (.slice A8 k8 c8)).run Try.prog W = .ok (.string (strB (t.readL z1 z2))) W ∧ (convert 22 9 (.slice A9 k9 c9)).run Try.prog W = .ok (.string (strB (t.readL z1 z2))) W ∧ W.cell? ⟨E, 0, none⟩ = some (.slice (some ⟨KE, 0, none⟩) t.kept.length t.kept.length) ∧ W.cell? ⟨E, 1, none⟩ = some (.slice PE t.waits.length pE) ∧ W.cell? ⟨E, 2, none⟩ = some (.bool t.down) := fun W hW =>
                  ⟨((HS8.out.keep0 hk9).keep0 hW).str 22 5 9 Try.underlying22 Try.underlying5 Try.underlying9, (hs9.keep0 hW).str 22 5 9 Try.underlying22 Try.underlying5 Try.underlying9, hW.cell_some hE0 (fun hb => hb), hW.cell_some hE1 (fun hb => hb), hW.cell_some hE2 (fun hb => hb)⟩
                have HKP := Lib.hid hkeep
                have HO9 : Hid (Own w9 w7.heap.size 5 A8 k8 c8 ((t.readL z1 z2).map bv)) := HO8.out.keep0 hk9
                have hA8 : ∀ b, BlkOf A8 b → New (New X w7 w8) w8 w9 b ∧ w7.heap.size ≤ b := fun b hb => by
                  obtain ⟨a, rfl, rfl⟩ := hb
                  have := HO8.out.row a.block rfl
                  exact ⟨.inl (.inr this), this.1⟩
                have HA8 := Lib.hid hA8
                have hw17 : w1.heap.size ≤ w7.heap.size := HT7.out.keep.size
                have hTd : Two w1 w9.drew (dskT D t (k + 1)) (rdskT E t) (New (New X w7 w8) w8 w9) := HT9.out.keep0 (Keep.drew w9)
                have HTD := Lib.hid hTd
                have hk8n : k8 ≤ maxLen := Nat.le_trans HO8.out.sl.cap HO8.out.sl.max
                unfold maxLen at hk8n
                clear hkeep hs9 hT9 hk9 hE0 hE1 hE2 hA8 hTd hc50 hc51 hc52 hc70 hc71 hc72 hc81 hc82
                go_wp2_with fail
                refine wp_region_held_drew (S := fun W => (convert 22 9 (.slice A8 k8 c8)).run Try.prog W = .ok (.string (strB (t.readL z1 z2))) W ∧ (convert 22 9 (.slice A9 k9 c9)).run Try.prog W = .ok (.string (strB (t.readL z1 z2))) W ∧ W.cell? ⟨E, 0, none⟩ = some (.slice (some ⟨KE, 0, none⟩) t.kept.length t.kept.length) ∧ W.cell? ⟨E, 1, none⟩ = some (.slice PE t.waits.length pE) ∧ W.cell? ⟨E, 2, none⟩ = some (.bool t.down)) (by kernel_rfl) ?_ (fun hHeld => ?_)
                · exact HKP.out _ (Keep.drew w9)
                refine wpAnyH_take (i := 0) (oi := ⟨_, _, _, _, _, _⟩) (v := ?_) rfl (by kernel_rfl) (by kernel_rfl) (by kernel_rfl) (fun _ _ _ h => h) (Or.inl ⟨by rfl, ?_⟩) (by assumption) ?_
                rotate_left
                · intro W hSw; (try dsimp only at hSw); go_simp; try with_reducible rfl
                try simp only [Act.put, List.setIfInBounds_toArray, List.set_cons_zero, List.set_cons_succ]
                refine wpAnyH_take (i := 1) (oi := ⟨_, _, _, _, _, _⟩) (v := ?_) rfl (by kernel_rfl) (by kernel_rfl) (by kernel_rfl) (fun _ _ _ h => h) (Or.inl ⟨by rfl, ?_⟩) (by assumption) ?_
                rotate_left
                · intro W hSw; (try dsimp only at hSw); go_simp; try with_reducible rfl
                try simp only [Act.put, List.setIfInBounds_toArray, List.set_cons_zero, List.set_cons_succ]
                refine wpAnyH_take (i := 2) (oi := ⟨_, _, _, _, _, _⟩) (v := ?_) rfl (by kernel_rfl) (by kernel_rfl) (by kernel_rfl) (fun _ _ _ h => h) (Or.inl ⟨by rfl, ?_⟩) (by assumption) ?_
                rotate_left
                · intro W hSw; (try dsimp only at hSw); go_simp; try with_reducible rfl
                try simp only [Act.put, List.setIfInBounds_toArray, List.set_cons_zero, List.set_cons_succ]
                refine wpAnyH_take (i := 3) (oi := ⟨_, _, _, _, _, _⟩) (v := ?_) rfl (by kernel_rfl) (by kernel_rfl) (by kernel_rfl) (fun _ _ _ h => h) (Or.inl ⟨by rfl, ?_⟩) (by assumption) ?_
                rotate_left
                · intro W hSw; (try dsimp only at hSw); go_simp; try with_reducible rfl
                try simp only [Act.put, List.setIfInBounds_toArray, List.set_cons_zero, List.set_cons_succ]
                refine wpAnyH_take (i := 4) (oi := ⟨_, _, _, _, _, _⟩) (v := ?_) rfl (by kernel_rfl) (by kernel_rfl) (by kernel_rfl) (fun _ _ _ h => h) (Or.inl ⟨by rfl, ?_⟩) (by assumption) ?_
                rotate_left
                · intro W hSw; (try dsimp only at hSw); go_simp; try with_reducible rfl
                try simp only [Act.put, List.setIfInBounds_toArray, List.set_cons_zero, List.set_cons_succ]
                refine wpAnyH_take (i := 5) (oi := ⟨_, _, _, _, _, _⟩) (v := ?_) rfl (by kernel_rfl) (by kernel_rfl) (by kernel_rfl) (fun _ _ _ h => h) (Or.inl ⟨by rfl, ?_⟩) (by assumption) ?_
                rotate_left
                · intro W hSw; (try dsimp only at hSw); go_simp; try with_reducible rfl
                try simp only [Act.put, List.setIfInBounds_toArray, List.set_cons_zero, List.set_cons_succ]
                refine wpAnyH_take (i := 6) (oi := ⟨_, _, _, _, _, _⟩) (v := ?_) rfl (by kernel_rfl) (by kernel_rfl) (by kernel_rfl) (fun _ _ _ h => h) (Or.inl ⟨by rfl, ?_⟩) (by assumption) ?_
                rotate_left
                · intro W hSw; (try dsimp only at hSw); go_simp; try with_reducible rfl
                try simp only [Act.put, List.setIfInBounds_toArray, List.set_cons_zero, List.set_cons_succ]
                refine wpAnyH_take (i := 7) (oi := ⟨_, _, _, _, _, _⟩) (v := ?_) rfl (by kernel_rfl) (by kernel_rfl) (by kernel_rfl) (fun _ _ _ h => h) (Or.inl ⟨by rfl, ?_⟩) (by assumption) ?_
                rotate_left
                · intro W hSw; (try dsimp only at hSw); go_simp; try with_reducible rfl
                try simp only [Act.put, List.setIfInBounds_toArray, List.set_cons_zero, List.set_cons_succ]
                refine wpAnyH_take (i := 8) (oi := ⟨_, _, _, _, _, _⟩) (v := ?_) rfl (by kernel_rfl) (by kernel_rfl) (by kernel_rfl) (fun _ _ _ h => h) (Or.inl ⟨by rfl, ?_⟩) (by assumption) ?_
                rotate_left
                · intro W hSw; (try dsimp only at hSw); go_simp; try with_reducible rfl
                try simp only [Act.put, List.setIfInBounds_toArray, List.set_cons_zero, List.set_cons_succ]
                refine wpAnyH_take (i := 9) (oi := ⟨_, _, _, _, _, _⟩) (v := ?_) rfl (by kernel_rfl) (by kernel_rfl) (by kernel_rfl) (fun _ _ _ h => h) (Or.inl ⟨by rfl, ?_⟩) (by assumption) ?_
                rotate_left
                · intro W hSw; (try dsimp only at hSw); go_simp; try with_reducible rfl
                try simp only [Act.put, List.setIfInBounds_toArray, List.set_cons_zero, List.set_cons_succ]
                refine wpAnyH_take (i := 10) (oi := ⟨_, _, _, _, _, _⟩) (v := ?_) rfl (by kernel_rfl) (by kernel_rfl) (by kernel_rfl) (fun _ _ _ h => h) (Or.inl ⟨by rfl, ?_⟩) (by assumption) ?_
                rotate_left
                · intro W hSw; (try dsimp only at hSw); go_simp; try with_reducible rfl
                try simp only [Act.put, List.setIfInBounds_toArray, List.set_cons_zero, List.set_cons_succ]
                refine wpAnyH_take (i := 11) (oi := ⟨_, _, _, _, _, _⟩) (v := ?_) rfl (by kernel_rfl) (by kernel_rfl) (by kernel_rfl) (fun _ _ _ h => h) (Or.inl ⟨by rfl, ?_⟩) (by assumption) ?_
                rotate_left
                · intro W hSw; (try dsimp only at hSw); go_simp; try with_reducible rfl
                try simp only [Act.put, List.setIfInBounds_toArray, List.set_cons_zero, List.set_cons_succ]
                refine wpAnyH_take (i := 12) (oi := ⟨_, _, _, _, _, _⟩) (v := ?_) rfl (by kernel_rfl) (by kernel_rfl) (by kernel_rfl) (fun _ _ _ h => h) (Or.inl ⟨by rfl, ?_⟩) (by assumption) ?_
                rotate_left
                · intro W hSw; (try dsimp only at hSw); go_simp; try with_reducible rfl
                try simp only [Act.put, List.setIfInBounds_toArray, List.set_cons_zero, List.set_cons_succ]
                refine wpAnyH_take (i := 13) (oi := ⟨_, _, _, _, _, _⟩) (v := ?_) rfl (by kernel_rfl) (by kernel_rfl) (by kernel_rfl) (fun _ _ _ h => h) (Or.inl ⟨by rfl, ?_⟩) (by assumption) ?_
                rotate_left
                · intro W hSw; (try dsimp only at hSw); go_simp; try with_reducible rfl
                try simp only [Act.put, List.setIfInBounds_toArray, List.set_cons_zero, List.set_cons_succ]
                refine wpAnyH_take (i := 14) (oi := ⟨_, _, _, _, _, _⟩) (v := ?_) rfl (by kernel_rfl) (by kernel_rfl) (by kernel_rfl) (fun _ _ _ h => h) (Or.inl ⟨by rfl, ?_⟩) (by assumption) ?_
                rotate_left
                · intro W hSw; (try dsimp only at hSw); go_simp; try with_reducible rfl
                try simp only [Act.put, List.setIfInBounds_toArray, List.set_cons_zero, List.set_cons_succ]
                refine wpAnyH_take (i := 15) (oi := ⟨_, _, _, _, _, _⟩) (v := ?_) rfl (by kernel_rfl) (by kernel_rfl) (by kernel_rfl) (fun _ _ _ h => h) (Or.inl ⟨by rfl, ?_⟩) (by assumption) ?_
                rotate_left
                · intro W hSw; (try dsimp only at hSw); go_simp; try with_reducible rfl
                try simp only [Act.put, List.setIfInBounds_toArray, List.set_cons_zero, List.set_cons_succ]
                refine wpAnyH_take (i := 17) (oi := ⟨_, _, _, _, _, _⟩) (v := ?_) rfl (by kernel_rfl) (by kernel_rfl) (by kernel_rfl) (fun _ _ _ h => h) (Or.inl ⟨by rfl, ?_⟩) (by assumption) ?_
                rotate_left
                · intro W hSw; (try dsimp only at hSw); go_simp; try with_reducible rfl
                try simp only [Act.put, List.setIfInBounds_toArray, List.set_cons_zero, List.set_cons_succ]
                refine wpAnyH_take (i := 18) (oi := ⟨_, _, _, _, _, _⟩) (v := ?_) rfl (by kernel_rfl) (by kernel_rfl) (by kernel_rfl) (fun _ _ _ h => h) (Or.inl ⟨by rfl, ?_⟩) (by assumption) ?_
                rotate_left
                · intro W hSw; (try dsimp only at hSw); go_simp; try with_reducible rfl
                try simp only [Act.put, List.setIfInBounds_toArray, List.set_cons_zero, List.set_cons_succ]
                refine wpAnyH_take (i := 19) (oi := ⟨_, _, _, _, _, _⟩) (v := ?_) rfl (by kernel_rfl) (by kernel_rfl) (by kernel_rfl) (fun _ _ _ h => h) (Or.inl ⟨by rfl, ?_⟩) (by assumption) ?_
                rotate_left
                · intro W hSw; (try dsimp only at hSw); go_simp; try with_reducible rfl
                try simp only [Act.put, List.setIfInBounds_toArray, List.set_cons_zero, List.set_cons_succ]
                refine wpAnyH_take (i := 20) (oi := ⟨_, _, _, _, _, _⟩) (v := ?_) rfl (by kernel_rfl) (by kernel_rfl) (by kernel_rfl) (fun _ _ _ h => h) (Or.inl ⟨by rfl, ?_⟩) (by assumption) ?_
                rotate_left
                · intro W hSw; (try dsimp only at hSw); go_simp; try with_reducible rfl
                try simp only [Act.put, List.setIfInBounds_toArray, List.set_cons_zero, List.set_cons_succ]
                refine wpAnyH_ready (rs := [16]) (by kernel_rfl) (by simp) ?_
                refine AllReadyH.cons (o := ⟨_, _, _, _, _, _⟩) rfl (fun K hK => ?_) AllReadyH.nil
                go_simp
                refine (two_down HTD.out).mono ?_
                rintro e w' ⟨rfl, rfl⟩
                refine hK.out _ _ ?_ (fun hHeld => ?_)
                · exact HKP.out _ (Keep.drew w9)
                clear hK K
                try simp only [Act.put, List.setIfInBounds_toArray, List.set_cons_zero, List.set_cons_succ]
                refine wpAnyH_take (i := 21) (oi := ⟨_, _, _, _, _, _⟩) (v := ?_) rfl (by kernel_rfl) (by kernel_rfl) (by kernel_rfl) (fun _ _ _ h => h) (Or.inl ⟨by rfl, ?_⟩) (by assumption) ?_
                rotate_left
                · intro W hSw; (try dsimp only at hSw); go_simp; try with_reducible rfl
                try simp only [Act.put, List.setIfInBounds_toArray, List.set_cons_zero, List.set_cons_succ]
                refine wpAnyH_take (i := 22) (oi := ⟨_, _, _, _, _, _⟩) (v := ?_) rfl (by kernel_rfl) (by kernel_rfl) (by kernel_rfl) (fun _ _ _ h => h) (Or.inl ⟨by rfl, ?_⟩) (by assumption) ?_
                rotate_left
                · intro W hSw; (try dsimp only at hSw); go_simp; try with_reducible rfl
                try simp only [Act.put, List.setIfInBounds_toArray, List.set_cons_zero, List.set_cons_succ]
                refine wpAnyH_take (i := 23) (oi := ⟨_, _, _, _, _, _⟩) (v := ?_) rfl (by kernel_rfl) (by kernel_rfl) (by kernel_rfl) (fun _ _ _ h => h) (Or.inl ⟨by rfl, ?_⟩) (by assumption) ?_
                rotate_left
                · intro W hSw; (try dsimp only at hSw); go_simp; try with_reducible rfl
                try simp only [Act.put, List.setIfInBounds_toArray, List.set_cons_zero, List.set_cons_succ]
                refine wpAnyH_take (i := 24) (oi := ⟨_, _, _, _, _, _⟩) (v := ?_) rfl (by kernel_rfl) (by kernel_rfl) (by kernel_rfl) (fun _ _ _ h => h) (Or.inl ⟨by rfl, ?_⟩) (by assumption) ?_
                rotate_left
                · intro W hSw; (try dsimp only at hSw); go_simp; try with_reducible rfl
                try simp only [Act.put, List.setIfInBounds_toArray, List.set_cons_zero, List.set_cons_succ]
                refine wpAnyH_take (i := 26) (oi := ⟨_, _, _, _, _, _⟩) (v := ?_) rfl (by kernel_rfl) (by kernel_rfl) (by kernel_rfl) (fun _ _ _ h => h) (Or.inl ⟨by rfl, ?_⟩) (by assumption) ?_
                rotate_left
                · intro W hSw; (try dsimp only at hSw); go_simp; try with_reducible rfl
                try simp only [Act.put, List.setIfInBounds_toArray, List.set_cons_zero, List.set_cons_succ]
                refine wpAnyH_take (i := 27) (oi := ⟨_, _, _, _, _, _⟩) (v := ?_) rfl (by kernel_rfl) (by kernel_rfl) (by kernel_rfl) (fun _ _ _ h => h) (Or.inl ⟨by rfl, ?_⟩) (by assumption) ?_
                rotate_left
                · intro W hSw; (try dsimp only at hSw); go_simp; try with_reducible rfl
                try simp only [Act.put, List.setIfInBounds_toArray, List.set_cons_zero, List.set_cons_succ]
                refine wpAnyH_take (i := 28) (oi := ⟨_, _, _, _, _, _⟩) (v := ?_) rfl (by kernel_rfl) (by kernel_rfl) (by kernel_rfl) (fun _ _ _ h => h) (Or.inl ⟨by rfl, ?_⟩) (by assumption) ?_
                rotate_left
                · intro W hSw; (try dsimp only at hSw); go_simp; try with_reducible rfl
                try simp only [Act.put, List.setIfInBounds_toArray, List.set_cons_zero, List.set_cons_succ]
                refine wpAnyH_take (i := 29) (oi := ⟨_, _, _, _, _, _⟩) (v := ?_) rfl (by kernel_rfl) (by kernel_rfl) (by kernel_rfl) (fun _ _ _ h => h) (Or.inl ⟨by rfl, ?_⟩) (by assumption) ?_
                rotate_left
                · intro W hSw; (try dsimp only at hSw); go_simp; try with_reducible rfl
                try simp only [Act.put, List.setIfInBounds_toArray, List.set_cons_zero, List.set_cons_succ]
                refine wpAnyH_take (i := 30) (oi := ⟨_, _, _, _, _, _⟩) (v := ?_) rfl (by kernel_rfl) (by kernel_rfl) (by kernel_rfl) (fun _ _ _ h => h) (Or.inl ⟨by rfl, ?_⟩) (by assumption) ?_
                rotate_left
                · intro W hSw; (try dsimp only at hSw); go_simp; try with_reducible rfl
                try simp only [Act.put, List.setIfInBounds_toArray, List.set_cons_zero, List.set_cons_succ]
                refine wpAnyH_ready (rs := [25]) (by kernel_rfl) (by simp) ?_
                refine AllReadyH.cons (o := ⟨_, _, _, _, _, _⟩) rfl (fun K hK => ?_) AllReadyH.nil
                go_simp
                refine (two_pending HTD.out).mono ?_
                rintro e w' ⟨rfl, rfl⟩
                refine hK.out _ _ ?_ (fun hHeld => ?_)
                · exact HKP.out _ (Keep.drew w9)
                clear hK K
                try simp only [Act.put, List.setIfInBounds_toArray, List.set_cons_zero, List.set_cons_succ]
                refine wpAnyH_take (i := 31) (oi := ⟨_, _, _, _, _, _⟩) (v := ?_) rfl (by kernel_rfl) (by kernel_rfl) (by kernel_rfl) (fun _ _ _ h => h) (Or.inl ⟨by rfl, ?_⟩) (by assumption) ?_
                rotate_left
                · intro W hSw; (try dsimp only at hSw); go_simp; try with_reducible rfl
                try simp only [Act.put, List.setIfInBounds_toArray, List.set_cons_zero, List.set_cons_succ]
                refine wpAnyH_take (i := 32) (oi := ⟨_, _, _, _, _, _⟩) (v := ?_) rfl (by kernel_rfl) (by kernel_rfl) (by kernel_rfl) (fun _ _ _ h => h) (Or.inl ⟨by rfl, ?_⟩) (by assumption) ?_
                rotate_left
                · intro W hSw; (try dsimp only at hSw); go_simp; try with_reducible rfl
                try simp only [Act.put, List.setIfInBounds_toArray, List.set_cons_zero, List.set_cons_succ]
                refine wpAnyH_take (i := 33) (oi := ⟨_, _, _, _, _, _⟩) (v := ?_) rfl (by kernel_rfl) (by kernel_rfl) (by kernel_rfl) (fun _ _ _ h => h) (Or.inl ⟨by rfl, ?_⟩) (by assumption) ?_
                rotate_left
                · intro W hSw; (try dsimp only at hSw); go_simp; try with_reducible rfl
                try simp only [Act.put, List.setIfInBounds_toArray, List.set_cons_zero, List.set_cons_succ]
                refine wpAnyH_take (i := 34) (oi := ⟨_, _, _, _, _, _⟩) (v := ?_) rfl (by kernel_rfl) (by kernel_rfl) (by kernel_rfl) (fun _ _ _ h => h) (Or.inl ⟨by rfl, ?_⟩) (by assumption) ?_
                rotate_left
                · intro W hSw; (try dsimp only at hSw); go_simp; try with_reducible rfl
                try simp only [Act.put, List.setIfInBounds_toArray, List.set_cons_zero, List.set_cons_succ]
                refine wpAnyH_take (i := 36) (oi := ⟨_, _, _, _, _, _⟩) (v := ?_) rfl (by kernel_rfl) (by kernel_rfl) (by kernel_rfl) (fun _ _ _ h => h) (Or.inl ⟨by rfl, ?_⟩) (by assumption) ?_
                rotate_left
                · intro W hSw; (try dsimp only at hSw); go_simp; try with_reducible rfl
                try simp only [Act.put, List.setIfInBounds_toArray, List.set_cons_zero, List.set_cons_succ]
                refine wpAnyH_take (i := 37) (oi := ⟨_, _, _, _, _, _⟩) (v := ?_) rfl (by kernel_rfl) (by kernel_rfl) (by kernel_rfl) (fun _ _ _ h => h) (Or.inl ⟨by rfl, ?_⟩) (by assumption) ?_
                rotate_left
                · intro W hSw; (try dsimp only at hSw); go_simp; try with_reducible rfl
                try simp only [Act.put, List.setIfInBounds_toArray, List.set_cons_zero, List.set_cons_succ]
                refine wpAnyH_take (i := 38) (oi := ⟨_, _, _, _, _, _⟩) (v := ?_) rfl (by kernel_rfl) (by kernel_rfl) (by kernel_rfl) (fun _ _ _ h => h) (Or.inl ⟨by rfl, ?_⟩) (by assumption) ?_
                rotate_left
                · intro W hSw; (try dsimp only at hSw); go_simp; try with_reducible rfl
                try simp only [Act.put, List.setIfInBounds_toArray, List.set_cons_zero, List.set_cons_succ]
                refine wpAnyH_take (i := 39) (oi := ⟨_, _, _, _, _, _⟩) (v := ?_) rfl (by kernel_rfl) (by kernel_rfl) (by kernel_rfl) (fun _ _ _ h => h) (Or.inl ⟨by rfl, ?_⟩) (by assumption) ?_
                rotate_left
                · intro W hSw; (try dsimp only at hSw); go_simp; try with_reducible rfl
                try simp only [Act.put, List.setIfInBounds_toArray, List.set_cons_zero, List.set_cons_succ]
                refine wpAnyH_take (i := 40) (oi := ⟨_, _, _, _, _, _⟩) (v := ?_) rfl (by kernel_rfl) (by kernel_rfl) (by kernel_rfl) (fun _ _ _ h => h) (Or.inl ⟨by rfl, ?_⟩) (by assumption) ?_
                rotate_left
                · intro W hSw; (try dsimp only at hSw); go_simp; try with_reducible rfl
                try simp only [Act.put, List.setIfInBounds_toArray, List.set_cons_zero, List.set_cons_succ]
                refine wpAnyH_ready (rs := [35]) (by kernel_rfl) (by simp) ?_
                refine AllReadyH.cons (o := ⟨_, _, _, _, _, _⟩) rfl (fun K hK => ?_) AllReadyH.nil
                go_simp
                refine (two_size HTD.out).mono ?_
                rintro e w' ⟨rfl, rfl⟩
                refine hK.out _ _ ?_ (fun hHeld => ?_)
                · exact HKP.out _ (Keep.drew w9)
                clear hK K
                try simp only [Act.put, List.setIfInBounds_toArray, List.set_cons_zero, List.set_cons_succ]
                refine wpAnyH_take (i := 41) (oi := ⟨_, _, _, _, _, _⟩) (v := ?_) rfl (by kernel_rfl) (by kernel_rfl) (by kernel_rfl) (fun _ _ _ h => h) (Or.inl ⟨by rfl, ?_⟩) (by assumption) ?_
                rotate_left
                · intro W hSw; (try dsimp only at hSw); go_simp; try with_reducible rfl
                try simp only [Act.put, List.setIfInBounds_toArray, List.set_cons_zero, List.set_cons_succ]
                refine wpAnyH_take (i := 42) (oi := ⟨_, _, _, _, _, _⟩) (v := ?_) rfl (by kernel_rfl) (by kernel_rfl) (by kernel_rfl) (fun _ _ _ h => h) (Or.inl ⟨by rfl, ?_⟩) (by assumption) ?_
                rotate_left
                · intro W hSw; (try dsimp only at hSw); go_simp; try with_reducible rfl
                try simp only [Act.put, List.setIfInBounds_toArray, List.set_cons_zero, List.set_cons_succ]
                refine wpAnyH_done (by kernel_rfl) ?_ _
                clear hHeld
                go_wp2_with fail
                go_loopw [17] (fun jj wr => ∃ j : Nat, j ≤ k8 ∧ jj = .int .i64 j ∧ (∃ cs, Own wr w7.heap.size 5 A8 k8 c8 cs) ∧ Keep (BlkOf A8) w9.drew wr) (fun jj _ => k8 - (intOf jj).toNat)
                case atStart => exact ⟨0, Nat.zero_le _, rfl, ⟨_, HO9.out.keep0 (Keep.drew w9)⟩, Keep.refl _ _⟩
                case round =>
                  obtain ⟨j, hj, rfl, ⟨cs, hown⟩, hkr⟩ := hrel
                  by_cases hjn : j < k8
                  · obtain ⟨g', rfl, _, _, ⟨u, hcu, _⟩, hfz, hset⟩ := hown.set_ hjn
                    have HF := Lib.hid (hset (.int .u8 99))
                    have HKF := Lib.hid (hkr.andThen (Keep.setCell (S := BlkOf (some ⟨g', 0, none⟩)) wr ⟨g', j, none⟩ (.int .u8 99) ⟨_, rfl, rfl⟩))
                    clear hset hown hkr
                    go_wp2_with fail
                    go_roundw
                    case rel => exact ⟨j + 1, by omega, by go_num, ⟨_, HF.out⟩, HKF.out⟩
                    case measure => simp [intOf]; omega
                  · have HFIN := Lib.hid (HTD.out.writeX hkr (fun b hb => (HA8.out b hb).1) (fun b hb => Nat.le_trans hw17 (HA8.out b hb).2)).weak
                    clear hown hkr
                    go_wp2_with fail
                    go_roundw
                    case rel => exact ⟨k + 1, t, by omega, by go_num, HFIN.out⟩
                    case measure => simp [intOf]; omega
            · go_wp2_with fail
              refine (two_arm z2 hb2.2 HT5.out).mono ?_
              rintro e w6 ⟨rfl, hT6, hk6⟩
              have HT6 := Lib.hid hT6.swap
              have HK6 := Lib.hid hk6
              obtain ⟨hc60, hc61, hc62⟩ := HCE.out w6 HK6.out
              clear hT6 hk6
              go_wp2_with fail
              refine (rtwo_arm z2 hb2.2 HT6.out).mono ?_
              rintro e w7 ⟨rfl, hT7, hk7⟩
              have HT7 : Hid (Two w1 w7 (dskT D (s.arm z2) (k + 1)) (rdskT E (s.arm z2)) X) := hT7.swap.more (by omega)
              have HK7 := Lib.hid (HK6.out.andThen hk7)
              clear hT7 hk7
              as_aux_lemma =>
                obtain ⟨hc70, hc71, hc72⟩ := HCE.out w7 HK7.out
                obtain ⟨t, ht⟩ : ∃ t, t = s.arm z2 := ⟨_, rfl⟩
                rw [← ht] at HT7
                clear ht
                go_wp2_with fail
                have hfew7 : t.waits.length ≤ 65536 * (k + 1) := HT7.out.few
                refine (two_read z1 z2 hb1 (by omega) HT7.out).mono ?_
                rintro e w8 ⟨A8, k8, c8, rfl, hs8, hT8, hk8, ho8⟩
                have HS8 := Lib.hid hs8
                have HT8 := Lib.hid hT8.swap
                have HO8 := Lib.hid ho8
                have hc81 : w8.cell? ⟨nb, 1, none⟩ = some (.int .i64 z1) := hk8.cell_some hc71 fun hb => hb
                have hc82 : w8.cell? ⟨nb, 2, none⟩ = some (.int .i64 z2) := hk8.cell_some hc72 fun hb => hb
                have hs78 := hk8.size
                clear hs8 hT8 hk8 ho8
                go_wp2_with fail
                refine (rtwo_read z1 z2 hb1 (by omega) HT8.out).mono ?_
                rintro e w9 ⟨A9, k9, c9, rfl, hs9, hT9, hk9, _⟩
                have HT9 := Lib.hid hT9.swap
                have hs89 := hk9.size
                obtain ⟨KE, PE, pE, hE0, hE1, hE2⟩ := rtwo_cells hT9
                have hkeep : ∀ W, Keep0 w9 W → (convert 22 9 (.slice A8 k8 c8)).run Try.prog W = .ok (.string (strB (t.readL z1 z2))) W ∧ (convert 22 9 (.slice A9 k9 c9)).run Try.prog W = .ok (.string (strB (t.readL z1 z2))) W ∧ W.cell? ⟨E, 0, none⟩ = some (.slice (some ⟨KE, 0, none⟩) t.kept.length t.kept.length) ∧ W.cell? ⟨E, 1, none⟩ = some (.slice PE t.waits.length pE) ∧ W.cell? ⟨E, 2, none⟩ = some (.bool t.down) := fun W hW =>
                  ⟨((HS8.out.keep0 hk9).keep0 hW).str 22 5 9 Try.underlying22 Try.underlying5 Try.underlying9, (hs9.keep0 hW).str 22 5 9 Try.underlying22 Try.underlying5 Try.underlying9, hW.cell_some hE0 (fun hb => hb), hW.cell_some hE1 (fun hb => hb), hW.cell_some hE2 (fun hb => hb)⟩
                have HKP := Lib.hid hkeep
                have HO9 : Hid (Own w9 w7.heap.size 5 A8 k8 c8 ((t.readL z1 z2).map bv)) := HO8.out.keep0 hk9
                have hA8 : ∀ b, BlkOf A8 b → New (New X w7 w8) w8 w9 b ∧ w7.heap.size ≤ b := fun b hb => by
                  obtain ⟨a, rfl, rfl⟩ := hb
                  have := HO8.out.row a.block rfl
                  exact ⟨.inl (.inr this), this.1⟩
                have HA8 := Lib.hid hA8
                have hw17 : w1.heap.size ≤ w7.heap.size := HT7.out.keep.size
                have hTd : Two w1 w9.drew (dskT D t (k + 1)) (rdskT E t) (New (New X w7 w8) w8 w9) := HT9.out.keep0 (Keep.drew w9)
                have HTD := Lib.hid hTd
                have hk8n : k8 ≤ maxLen := Nat.le_trans HO8.out.sl.cap HO8.out.sl.max
                unfold maxLen at hk8n
                clear hkeep hs9 hT9 hk9 hE0 hE1 hE2 hA8 hTd hc50 hc51 hc52 hc70 hc71 hc72 hc81 hc82
                go_wp2_with fail
                refine wp_region_held_drew (S := fun W => (convert 22 9 (.slice A8 k8 c8)).run Try.prog W = .ok (.string (strB (t.readL z1 z2))) W ∧ (convert 22 9 (.slice A9 k9 c9)).run Try.prog W = .ok (.string (strB (t.readL z1 z2))) W ∧ W.cell? ⟨E, 0, none⟩ = some (.slice (some ⟨KE, 0, none⟩) t.kept.length t.kept.length) ∧ W.cell? ⟨E, 1, none⟩ = some (.slice PE t.waits.length pE) ∧ W.cell? ⟨E, 2, none⟩ = some (.bool t.down)) (by kernel_rfl) ?_ (fun hHeld => ?_)
                · exact HKP.out _ (Keep.drew w9)
                refine wpAnyH_take (i := 0) (oi := ⟨_, _, _, _, _, _⟩) (v := ?_) rfl (by kernel_rfl) (by kernel_rfl) (by kernel_rfl) (fun _ _ _ h => h) (Or.inl ⟨by rfl, ?_⟩) (by assumption) ?_
                rotate_left
                · intro W hSw; (try dsimp only at hSw); go_simp; try with_reducible rfl
                try simp only [Act.put, List.setIfInBounds_toArray, List.set_cons_zero, List.set_cons_succ]
                refine wpAnyH_take (i := 1) (oi := ⟨_, _, _, _, _, _⟩) (v := ?_) rfl (by kernel_rfl) (by kernel_rfl) (by kernel_rfl) (fun _ _ _ h => h) (Or.inl ⟨by rfl, ?_⟩) (by assumption) ?_
                rotate_left
                · intro W hSw; (try dsimp only at hSw); go_simp; try with_reducible rfl
                try simp only [Act.put, List.setIfInBounds_toArray, List.set_cons_zero, List.set_cons_succ]
                refine wpAnyH_take (i := 2) (oi := ⟨_, _, _, _, _, _⟩) (v := ?_) rfl (by kernel_rfl) (by kernel_rfl) (by kernel_rfl) (fun _ _ _ h => h) (Or.inl ⟨by rfl, ?_⟩) (by assumption) ?_
                rotate_left
                · intro W hSw; (try dsimp only at hSw); go_simp; try with_reducible rfl
                try simp only [Act.put, List.setIfInBounds_toArray, List.set_cons_zero, List.set_cons_succ]
                refine wpAnyH_take (i := 3) (oi := ⟨_, _, _, _, _, _⟩) (v := ?_) rfl (by kernel_rfl) (by kernel_rfl) (by kernel_rfl) (fun _ _ _ h => h) (Or.inl ⟨by rfl, ?_⟩) (by assumption) ?_
                rotate_left
                · intro W hSw; (try dsimp only at hSw); go_simp; try with_reducible rfl
                try simp only [Act.put, List.setIfInBounds_toArray, List.set_cons_zero, List.set_cons_succ]
                refine wpAnyH_take (i := 4) (oi := ⟨_, _, _, _, _, _⟩) (v := ?_) rfl (by kernel_rfl) (by kernel_rfl) (by kernel_rfl) (fun _ _ _ h => h) (Or.inl ⟨by rfl, ?_⟩) (by assumption) ?_
                rotate_left
                · intro W hSw; (try dsimp only at hSw); go_simp; try with_reducible rfl
                try simp only [Act.put, List.setIfInBounds_toArray, List.set_cons_zero, List.set_cons_succ]
                refine wpAnyH_take (i := 5) (oi := ⟨_, _, _, _, _, _⟩) (v := ?_) rfl (by kernel_rfl) (by kernel_rfl) (by kernel_rfl) (fun _ _ _ h => h) (Or.inl ⟨by rfl, ?_⟩) (by assumption) ?_
                rotate_left
                · intro W hSw; (try dsimp only at hSw); go_simp; try with_reducible rfl
                try simp only [Act.put, List.setIfInBounds_toArray, List.set_cons_zero, List.set_cons_succ]
                refine wpAnyH_take (i := 6) (oi := ⟨_, _, _, _, _, _⟩) (v := ?_) rfl (by kernel_rfl) (by kernel_rfl) (by kernel_rfl) (fun _ _ _ h => h) (Or.inl ⟨by rfl, ?_⟩) (by assumption) ?_
                rotate_left
                · intro W hSw; (try dsimp only at hSw); go_simp; try with_reducible rfl
                try simp only [Act.put, List.setIfInBounds_toArray, List.set_cons_zero, List.set_cons_succ]
                refine wpAnyH_take (i := 7) (oi := ⟨_, _, _, _, _, _⟩) (v := ?_) rfl (by kernel_rfl) (by kernel_rfl) (by kernel_rfl) (fun _ _ _ h => h) (Or.inl ⟨by rfl, ?_⟩) (by assumption) ?_
                rotate_left
                · intro W hSw; (try dsimp only at hSw); go_simp; try with_reducible rfl
                try simp only [Act.put, List.setIfInBounds_toArray, List.set_cons_zero, List.set_cons_succ]
                refine wpAnyH_take (i := 8) (oi := ⟨_, _, _, _, _, _⟩) (v := ?_) rfl (by kernel_rfl) (by kernel_rfl) (by kernel_rfl) (fun _ _ _ h => h) (Or.inl ⟨by rfl, ?_⟩) (by assumption) ?_
                rotate_left
                · intro W hSw; (try dsimp only at hSw); go_simp; try with_reducible rfl
                try simp only [Act.put, List.setIfInBounds_toArray, List.set_cons_zero, List.set_cons_succ]
                refine wpAnyH_take (i := 9) (oi := ⟨_, _, _, _, _, _⟩) (v := ?_) rfl (by kernel_rfl) (by kernel_rfl) (by kernel_rfl) (fun _ _ _ h => h) (Or.inl ⟨by rfl, ?_⟩) (by assumption) ?_
                rotate_left
                · intro W hSw; (try dsimp only at hSw); go_simp; try with_reducible rfl
                try simp only [Act.put, List.setIfInBounds_toArray, List.set_cons_zero, List.set_cons_succ]
                refine wpAnyH_take (i := 10) (oi := ⟨_, _, _, _, _, _⟩) (v := ?_) rfl (by kernel_rfl) (by kernel_rfl) (by kernel_rfl) (fun _ _ _ h => h) (Or.inl ⟨by rfl, ?_⟩) (by assumption) ?_
                rotate_left
                · intro W hSw; (try dsimp only at hSw); go_simp; try with_reducible rfl
                try simp only [Act.put, List.setIfInBounds_toArray, List.set_cons_zero, List.set_cons_succ]
                refine wpAnyH_take (i := 11) (oi := ⟨_, _, _, _, _, _⟩) (v := ?_) rfl (by kernel_rfl) (by kernel_rfl) (by kernel_rfl) (fun _ _ _ h => h) (Or.inl ⟨by rfl, ?_⟩) (by assumption) ?_
                rotate_left
                · intro W hSw; (try dsimp only at hSw); go_simp; try with_reducible rfl
                try simp only [Act.put, List.setIfInBounds_toArray, List.set_cons_zero, List.set_cons_succ]
                refine wpAnyH_take (i := 12) (oi := ⟨_, _, _, _, _, _⟩) (v := ?_) rfl (by kernel_rfl) (by kernel_rfl) (by kernel_rfl) (fun _ _ _ h => h) (Or.inl ⟨by rfl, ?_⟩) (by assumption) ?_
                rotate_left
                · intro W hSw; (try dsimp only at hSw); go_simp; try with_reducible rfl
                try simp only [Act.put, List.setIfInBounds_toArray, List.set_cons_zero, List.set_cons_succ]
                refine wpAnyH_take (i := 13) (oi := ⟨_, _, _, _, _, _⟩) (v := ?_) rfl (by kernel_rfl) (by kernel_rfl) (by kernel_rfl) (fun _ _ _ h => h) (Or.inl ⟨by rfl, ?_⟩) (by assumption) ?_
                rotate_left
                · intro W hSw; (try dsimp only at hSw); go_simp; try with_reducible rfl
                try simp only [Act.put, List.setIfInBounds_toArray, List.set_cons_zero, List.set_cons_succ]
                refine wpAnyH_take (i := 14) (oi := ⟨_, _, _, _, _, _⟩) (v := ?_) rfl (by kernel_rfl) (by kernel_rfl) (by kernel_rfl) (fun _ _ _ h => h) (Or.inl ⟨by rfl, ?_⟩) (by assumption) ?_
                rotate_left
                · intro W hSw; (try dsimp only at hSw); go_simp; try with_reducible rfl
                try simp only [Act.put, List.setIfInBounds_toArray, List.set_cons_zero, List.set_cons_succ]
                refine wpAnyH_take (i := 15) (oi := ⟨_, _, _, _, _, _⟩) (v := ?_) rfl (by kernel_rfl) (by kernel_rfl) (by kernel_rfl) (fun _ _ _ h => h) (Or.inl ⟨by rfl, ?_⟩) (by assumption) ?_
                rotate_left
                · intro W hSw; (try dsimp only at hSw); go_simp; try with_reducible rfl
                try simp only [Act.put, List.setIfInBounds_toArray, List.set_cons_zero, List.set_cons_succ]
                refine wpAnyH_take (i := 17) (oi := ⟨_, _, _, _, _, _⟩) (v := ?_) rfl (by kernel_rfl) (by kernel_rfl) (by kernel_rfl) (fun _ _ _ h => h) (Or.inl ⟨by rfl, ?_⟩) (by assumption) ?_
                rotate_left
                · intro W hSw; (try dsimp only at hSw); go_simp; try with_reducible rfl
                try simp only [Act.put, List.setIfInBounds_toArray, List.set_cons_zero, List.set_cons_succ]
                refine wpAnyH_take (i := 18) (oi := ⟨_, _, _, _, _, _⟩) (v := ?_) rfl (by kernel_rfl) (by kernel_rfl) (by kernel_rfl) (fun _ _ _ h => h) (Or.inl ⟨by rfl, ?_⟩) (by assumption) ?_
                rotate_left
                · intro W hSw; (try dsimp only at hSw); go_simp; try with_reducible rfl
                try simp only [Act.put, List.setIfInBounds_toArray, List.set_cons_zero, List.set_cons_succ]
                refine wpAnyH_take (i := 19) (oi := ⟨_, _, _, _, _, _⟩) (v := ?_) rfl (by kernel_rfl) (by kernel_rfl) (by kernel_rfl) (fun _ _ _ h => h) (Or.inl ⟨by rfl, ?_⟩) (by assumption) ?_
                rotate_left
                · intro W hSw; (try dsimp only at hSw); go_simp; try with_reducible rfl
                try simp only [Act.put, List.setIfInBounds_toArray, List.set_cons_zero, List.set_cons_succ]
                refine wpAnyH_take (i := 20) (oi := ⟨_, _, _, _, _, _⟩) (v := ?_) rfl (by kernel_rfl) (by kernel_rfl) (by kernel_rfl) (fun _ _ _ h => h) (Or.inl ⟨by rfl, ?_⟩) (by assumption) ?_
                rotate_left
                · intro W hSw; (try dsimp only at hSw); go_simp; try with_reducible rfl
                try simp only [Act.put, List.setIfInBounds_toArray, List.set_cons_zero, List.set_cons_succ]
                refine wpAnyH_ready (rs := [16]) (by kernel_rfl) (by simp) ?_
                refine AllReadyH.cons (o := ⟨_, _, _, _, _, _⟩) rfl (fun K hK => ?_) AllReadyH.nil
                go_simp
                refine (two_down HTD.out).mono ?_
                rintro e w' ⟨rfl, rfl⟩
                refine hK.out _ _ ?_ (fun hHeld => ?_)
                · exact HKP.out _ (Keep.drew w9)
                clear hK K
                try simp only [Act.put, List.setIfInBounds_toArray, List.set_cons_zero, List.set_cons_succ]
                refine wpAnyH_take (i := 21) (oi := ⟨_, _, _, _, _, _⟩) (v := ?_) rfl (by kernel_rfl) (by kernel_rfl) (by kernel_rfl) (fun _ _ _ h => h) (Or.inl ⟨by rfl, ?_⟩) (by assumption) ?_
                rotate_left
                · intro W hSw; (try dsimp only at hSw); go_simp; try with_reducible rfl
                try simp only [Act.put, List.setIfInBounds_toArray, List.set_cons_zero, List.set_cons_succ]
                refine wpAnyH_take (i := 22) (oi := ⟨_, _, _, _, _, _⟩) (v := ?_) rfl (by kernel_rfl) (by kernel_rfl) (by kernel_rfl) (fun _ _ _ h => h) (Or.inl ⟨by rfl, ?_⟩) (by assumption) ?_
                rotate_left
                · intro W hSw; (try dsimp only at hSw); go_simp; try with_reducible rfl
                try simp only [Act.put, List.setIfInBounds_toArray, List.set_cons_zero, List.set_cons_succ]
                refine wpAnyH_take (i := 23) (oi := ⟨_, _, _, _, _, _⟩) (v := ?_) rfl (by kernel_rfl) (by kernel_rfl) (by kernel_rfl) (fun _ _ _ h => h) (Or.inl ⟨by rfl, ?_⟩) (by assumption) ?_
                rotate_left
                · intro W hSw; (try dsimp only at hSw); go_simp; try with_reducible rfl
                try simp only [Act.put, List.setIfInBounds_toArray, List.set_cons_zero, List.set_cons_succ]
                refine wpAnyH_take (i := 24) (oi := ⟨_, _, _, _, _, _⟩) (v := ?_) rfl (by kernel_rfl) (by kernel_rfl) (by kernel_rfl) (fun _ _ _ h => h) (Or.inl ⟨by rfl, ?_⟩) (by assumption) ?_
                rotate_left
                · intro W hSw; (try dsimp only at hSw); go_simp; try with_reducible rfl
                try simp only [Act.put, List.setIfInBounds_toArray, List.set_cons_zero, List.set_cons_succ]
                refine wpAnyH_take (i := 26) (oi := ⟨_, _, _, _, _, _⟩) (v := ?_) rfl (by kernel_rfl) (by kernel_rfl) (by kernel_rfl) (fun _ _ _ h => h) (Or.inl ⟨by rfl, ?_⟩) (by assumption) ?_
                rotate_left
                · intro W hSw; (try dsimp only at hSw); go_simp; try with_reducible rfl
                try simp only [Act.put, List.setIfInBounds_toArray, List.set_cons_zero, List.set_cons_succ]
                refine wpAnyH_take (i := 27) (oi := ⟨_, _, _, _, _, _⟩) (v := ?_) rfl (by kernel_rfl) (by kernel_rfl) (by kernel_rfl) (fun _ _ _ h => h) (Or.inl ⟨by rfl, ?_⟩) (by assumption) ?_
                rotate_left
                · intro W hSw; (try dsimp only at hSw); go_simp; try with_reducible rfl
                try simp only [Act.put, List.setIfInBounds_toArray, List.set_cons_zero, List.set_cons_succ]
                refine wpAnyH_take (i := 28) (oi := ⟨_, _, _, _, _, _⟩) (v := ?_) rfl (by kernel_rfl) (by kernel_rfl) (by kernel_rfl) (fun _ _ _ h => h) (Or.inl ⟨by rfl, ?_⟩) (by assumption) ?_
                rotate_left
                · intro W hSw; (try dsimp only at hSw); go_simp; try with_reducible rfl
                try simp only [Act.put, List.setIfInBounds_toArray, List.set_cons_zero, List.set_cons_succ]
                refine wpAnyH_take (i := 29) (oi := ⟨_, _, _, _, _, _⟩) (v := ?_) rfl (by kernel_rfl) (by kernel_rfl) (by kernel_rfl) (fun _ _ _ h => h) (Or.inl ⟨by rfl, ?_⟩) (by assumption) ?_
                rotate_left
                · intro W hSw; (try dsimp only at hSw); go_simp; try with_reducible rfl
                try simp only [Act.put, List.setIfInBounds_toArray, List.set_cons_zero, List.set_cons_succ]
                refine wpAnyH_take (i := 30) (oi := ⟨_, _, _, _, _, _⟩) (v := ?_) rfl (by kernel_rfl) (by kernel_rfl) (by kernel_rfl) (fun _ _ _ h => h) (Or.inl ⟨by rfl, ?_⟩) (by assumption) ?_
                rotate_left
                · intro W hSw; (try dsimp only at hSw); go_simp; try with_reducible rfl
                try simp only [Act.put, List.setIfInBounds_toArray, List.set_cons_zero, List.set_cons_succ]
                refine wpAnyH_ready (rs := [25]) (by kernel_rfl) (by simp) ?_
                refine AllReadyH.cons (o := ⟨_, _, _, _, _, _⟩) rfl (fun K hK => ?_) AllReadyH.nil
                go_simp
                refine (two_pending HTD.out).mono ?_
                rintro e w' ⟨rfl, rfl⟩
                refine hK.out _ _ ?_ (fun hHeld => ?_)
                · exact HKP.out _ (Keep.drew w9)
                clear hK K
                try simp only [Act.put, List.setIfInBounds_toArray, List.set_cons_zero, List.set_cons_succ]
                refine wpAnyH_take (i := 31) (oi := ⟨_, _, _, _, _, _⟩) (v := ?_) rfl (by kernel_rfl) (by kernel_rfl) (by kernel_rfl) (fun _ _ _ h => h) (Or.inl ⟨by rfl, ?_⟩) (by assumption) ?_
                rotate_left
                · intro W hSw; (try dsimp only at hSw); go_simp; try with_reducible rfl
                try simp only [Act.put, List.setIfInBounds_toArray, List.set_cons_zero, List.set_cons_succ]
                refine wpAnyH_take (i := 32) (oi := ⟨_, _, _, _, _, _⟩) (v := ?_) rfl (by kernel_rfl) (by kernel_rfl) (by kernel_rfl) (fun _ _ _ h => h) (Or.inl ⟨by rfl, ?_⟩) (by assumption) ?_
                rotate_left
                · intro W hSw; (try dsimp only at hSw); go_simp; try with_reducible rfl
                try simp only [Act.put, List.setIfInBounds_toArray, List.set_cons_zero, List.set_cons_succ]
                refine wpAnyH_take (i := 33) (oi := ⟨_, _, _, _, _, _⟩) (v := ?_) rfl (by kernel_rfl) (by kernel_rfl) (by kernel_rfl) (fun _ _ _ h => h) (Or.inl ⟨by rfl, ?_⟩) (by assumption) ?_
                rotate_left
                · intro W hSw; (try dsimp only at hSw); go_simp; try with_reducible rfl
                try simp only [Act.put, List.setIfInBounds_toArray, List.set_cons_zero, List.set_cons_succ]
                refine wpAnyH_take (i := 34) (oi := ⟨_, _, _, _, _, _⟩) (v := ?_) rfl (by kernel_rfl) (by kernel_rfl) (by kernel_rfl) (fun _ _ _ h => h) (Or.inl ⟨by rfl, ?_⟩) (by assumption) ?_
                rotate_left
                · intro W hSw; (try dsimp only at hSw); go_simp; try with_reducible rfl
                try simp only [Act.put, List.setIfInBounds_toArray, List.set_cons_zero, List.set_cons_succ]
                refine wpAnyH_take (i := 36) (oi := ⟨_, _, _, _, _, _⟩) (v := ?_) rfl (by kernel_rfl) (by kernel_rfl) (by kernel_rfl) (fun _ _ _ h => h) (Or.inl ⟨by rfl, ?_⟩) (by assumption) ?_
                rotate_left
                · intro W hSw; (try dsimp only at hSw); go_simp; try with_reducible rfl
                try simp only [Act.put, List.setIfInBounds_toArray, List.set_cons_zero, List.set_cons_succ]
                refine wpAnyH_take (i := 37) (oi := ⟨_, _, _, _, _, _⟩) (v := ?_) rfl (by kernel_rfl) (by kernel_rfl) (by kernel_rfl) (fun _ _ _ h => h) (Or.inl ⟨by rfl, ?_⟩) (by assumption) ?_
                rotate_left
                · intro W hSw; (try dsimp only at hSw); go_simp; try with_reducible rfl
                try simp only [Act.put, List.setIfInBounds_toArray, List.set_cons_zero, List.set_cons_succ]
                refine wpAnyH_take (i := 38) (oi := ⟨_, _, _, _, _, _⟩) (v := ?_) rfl (by kernel_rfl) (by kernel_rfl) (by kernel_rfl) (fun _ _ _ h => h) (Or.inl ⟨by rfl, ?_⟩) (by assumption) ?_
                rotate_left
                · intro W hSw; (try dsimp only at hSw); go_simp; try with_reducible rfl
                try simp only [Act.put, List.setIfInBounds_toArray, List.set_cons_zero, List.set_cons_succ]
                refine wpAnyH_take (i := 39) (oi := ⟨_, _, _, _, _, _⟩) (v := ?_) rfl (by kernel_rfl) (by kernel_rfl) (by kernel_rfl) (fun _ _ _ h => h) (Or.inl ⟨by rfl, ?_⟩) (by assumption) ?_
                rotate_left
                · intro W hSw; (try dsimp only at hSw); go_simp; try with_reducible rfl
                try simp only [Act.put, List.setIfInBounds_toArray, List.set_cons_zero, List.set_cons_succ]
                refine wpAnyH_take (i := 40) (oi := ⟨_, _, _, _, _, _⟩) (v := ?_) rfl (by kernel_rfl) (by kernel_rfl) (by kernel_rfl) (fun _ _ _ h => h) (Or.inl ⟨by rfl, ?_⟩) (by assumption) ?_
                rotate_left
                · intro W hSw; (try dsimp only at hSw); go_simp; try with_reducible rfl
                try simp only [Act.put, List.setIfInBounds_toArray, List.set_cons_zero, List.set_cons_succ]
                refine wpAnyH_ready (rs := [35]) (by kernel_rfl) (by simp) ?_
                refine AllReadyH.cons (o := ⟨_, _, _, _, _, _⟩) rfl (fun K hK => ?_) AllReadyH.nil
                go_simp
                refine (two_size HTD.out).mono ?_
                rintro e w' ⟨rfl, rfl⟩
                refine hK.out _ _ ?_ (fun hHeld => ?_)
                · exact HKP.out _ (Keep.drew w9)
                clear hK K
                try simp only [Act.put, List.setIfInBounds_toArray, List.set_cons_zero, List.set_cons_succ]
                refine wpAnyH_take (i := 41) (oi := ⟨_, _, _, _, _, _⟩) (v := ?_) rfl (by kernel_rfl) (by kernel_rfl) (by kernel_rfl) (fun _ _ _ h => h) (Or.inl ⟨by rfl, ?_⟩) (by assumption) ?_
                rotate_left
                · intro W hSw; (try dsimp only at hSw); go_simp; try with_reducible rfl
                try simp only [Act.put, List.setIfInBounds_toArray, List.set_cons_zero, List.set_cons_succ]
                refine wpAnyH_take (i := 42) (oi := ⟨_, _, _, _, _, _⟩) (v := ?_) rfl (by kernel_rfl) (by kernel_rfl) (by kernel_rfl) (fun _ _ _ h => h) (Or.inl ⟨by rfl, ?_⟩) (by assumption) ?_
                rotate_left
                · intro W hSw; (try dsimp only at hSw); go_simp; try with_reducible rfl
                try simp only [Act.put, List.setIfInBounds_toArray, List.set_cons_zero, List.set_cons_succ]
                refine wpAnyH_done (by kernel_rfl) ?_ _
                clear hHeld
                go_wp2_with fail
                go_loopw [17] (fun jj wr => ∃ j : Nat, j ≤ k8 ∧ jj = .int .i64 j ∧ (∃ cs, Own wr w7.heap.size 5 A8 k8 c8 cs) ∧ Keep (BlkOf A8) w9.drew wr) (fun jj _ => k8 - (intOf jj).toNat)
                case atStart => exact ⟨0, Nat.zero_le _, rfl, ⟨_, HO9.out.keep0 (Keep.drew w9)⟩, Keep.refl _ _⟩
                case round =>
                  obtain ⟨j, hj, rfl, ⟨cs, hown⟩, hkr⟩ := hrel
                  by_cases hjn : j < k8
                  · obtain ⟨g', rfl, _, _, ⟨u, hcu, _⟩, hfz, hset⟩ := hown.set_ hjn
                    have HF := Lib.hid (hset (.int .u8 99))
                    have HKF := Lib.hid (hkr.andThen (Keep.setCell (S := BlkOf (some ⟨g', 0, none⟩)) wr ⟨g', j, none⟩ (.int .u8 99) ⟨_, rfl, rfl⟩))
                    clear hset hown hkr
                    go_wp2_with fail
                    go_roundw
                    case rel => exact ⟨j + 1, by omega, by go_num, ⟨_, HF.out⟩, HKF.out⟩
                    case measure => simp [intOf]; omega
                  · have HFIN := Lib.hid (HTD.out.writeX hkr (fun b hb => (HA8.out b hb).1) (fun b hb => Nat.le_trans hw17 (HA8.out b hb).2)).weak
                    clear hown hkr
                    go_wp2_with fail
                    go_roundw
                    case rel => exact ⟨k + 1, t, by omega, by go_num, HFIN.out⟩
                    case measure => simp [intOf]; omega
            · go_wp2_with fail
              have hnb5 : ∀ W, KeepX X w5 W → W.cell? ⟨nb, 1, none⟩ = some (.int .i64 z1) := fun W hW => (HCE.out W hW).2.1
              have HNB := Lib.hid hnb5
              clear hnb5
              have hk0 : Keep0 w5 w5.drew := Keep.drew w5
              refine wp_region_held_drew (S := fun W => W.cell? ⟨nb, 1, none⟩ = some (.int .i64 z1)) (by kernel_rfl) ?_ (fun hHeld => ?_)
              · exact HNB.out _ (hk0.of0 _)
              refine wpAnyH_take (i := 0) (oi := ⟨_, _, _, _, _, _⟩) (v := ?_) rfl (by kernel_rfl) (by kernel_rfl) (by kernel_rfl) (fun _ _ _ h => h) (Or.inl ⟨by rfl, ?_⟩) (by assumption) ?_
              rotate_left
              · intro W hSw; (try dsimp only at hSw); go_simp; try with_reducible rfl
              try simp only [Act.put, List.setIfInBounds_toArray, List.set_cons_zero, List.set_cons_succ]
              refine wpAnyH_take (i := 1) (oi := ⟨_, _, _, _, _, _⟩) (v := ?_) rfl (by kernel_rfl) (by kernel_rfl) (by kernel_rfl) (fun _ _ _ h => h) (Or.inl ⟨by rfl, ?_⟩) (by assumption) ?_
              rotate_left
              · intro W hSw; (try dsimp only at hSw); go_simp; try with_reducible rfl
              try simp only [Act.put, List.setIfInBounds_toArray, List.set_cons_zero, List.set_cons_succ]
              refine wpAnyH_take (i := 2) (oi := ⟨_, _, _, _, _, _⟩) (v := ?_) rfl (by kernel_rfl) (by kernel_rfl) (by kernel_rfl) (fun _ _ _ h => h) (Or.inl ⟨by rfl, ?_⟩) (by assumption) ?_
              rotate_left
              · intro W hSw; (try dsimp only at hSw); go_simp; try with_reducible rfl
              try simp only [Act.put, List.setIfInBounds_toArray, List.set_cons_zero, List.set_cons_succ]
              refine wpAnyH_take (i := 4) (oi := ⟨_, _, _, _, _, _⟩) (v := ?_) rfl (by kernel_rfl) (by kernel_rfl) (by kernel_rfl) (fun _ _ _ h => h) (Or.inl ⟨by rfl, ?_⟩) (by assumption) ?_
              rotate_left
              · intro W hSw; (try dsimp only at hSw); go_simp; try with_reducible rfl
              try simp only [Act.put, List.setIfInBounds_toArray, List.set_cons_zero, List.set_cons_succ]
              refine wpAnyH_take (i := 5) (oi := ⟨_, _, _, _, _, _⟩) (v := ?_) rfl (by kernel_rfl) (by kernel_rfl) (by kernel_rfl) (fun _ _ _ h => h) (Or.inl ⟨by rfl, ?_⟩) (by assumption) ?_
              rotate_left
              · intro W hSw; (try dsimp only at hSw); go_simp; try with_reducible rfl
              try simp only [Act.put, List.setIfInBounds_toArray, List.set_cons_zero, List.set_cons_succ]
              refine wpAnyH_take (i := 6) (oi := ⟨_, _, _, _, _, _⟩) (v := ?_) rfl (by kernel_rfl) (by kernel_rfl) (by kernel_rfl) (fun _ _ _ h => h) (Or.inl ⟨by rfl, ?_⟩) (by assumption) ?_
              rotate_left
              · intro W hSw; (try dsimp only at hSw); go_simp; try with_reducible rfl
              try simp only [Act.put, List.setIfInBounds_toArray, List.set_cons_zero, List.set_cons_succ]
              refine wpAnyH_ready (rs := [3]) (by kernel_rfl) (by simp) ?_
              refine AllReadyH.cons (o := ⟨_, _, _, _, _, _⟩) rfl (fun K hK => ?_) AllReadyH.nil
              go_simp
              refine (two_restart z1 (by omega) (HT5.out.keep0 hk0)).mono ?_
              rintro e w6 ⟨rfl, hT6, hk6⟩
              have HT6 := Lib.hid hT6.swap
              have HK6 := Lib.hid ((hk0.of0 (fun b => ¬ X b)).andThen hk6)
              clear hT6 hk6
              refine hK.out _ _ ?_ (fun hHeld => ?_)
              · exact HNB.out _ HK6.out
              clear hK K
              try simp only [Act.put, List.setIfInBounds_toArray, List.set_cons_zero, List.set_cons_succ]
              refine wpAnyH_ready (rs := [7]) (by kernel_rfl) (by simp) ?_
              refine AllReadyH.cons (o := ⟨_, _, _, _, _, _⟩) rfl (fun K hK => ?_) AllReadyH.nil
              go_simp
              refine (rtwo_restart z1 (by omega) HT6.out).mono ?_
              rintro e w7 ⟨rfl, hT7, hk7⟩
              have HT7 : Hid (Two w1 w7 (dskT D (s.restart z1) (k + 1)) (rdskT E (s.restart z1)) X) := hT7.swap.more (by omega)
              have HK7 := Lib.hid (HK6.out.andThen hk7)
              clear hT7 hk7
              refine hK.out _ _ ?_ (fun hHeld => ?_)
              · exact HNB.out _ HK7.out
              clear hK K
              try simp only [Act.put, List.setIfInBounds_toArray, List.set_cons_zero, List.set_cons_succ]
              refine wpAnyH_take (i := 8) (oi := ⟨_, _, _, _, _, _⟩) (v := ?_) rfl (by kernel_rfl) (by kernel_rfl) (by kernel_rfl) (fun _ _ _ h => h) (Or.inl ⟨by rfl, ?_⟩) (by assumption) ?_
              rotate_left
              · intro W hSw; (try dsimp only at hSw); go_simp; try with_reducible rfl
              try simp only [Act.put, List.setIfInBounds_toArray, List.set_cons_zero, List.set_cons_succ]
              refine wpAnyH_take (i := 9) (oi := ⟨_, _, _, _, _, _⟩) (v := ?_) rfl (by kernel_rfl) (by kernel_rfl) (by kernel_rfl) (fun _ _ _ h => h) (Or.inl ⟨by rfl, ?_⟩) (by assumption) ?_
              rotate_left
              · intro W hSw; (try dsimp only at hSw); go_simp; try with_reducible rfl
              try simp only [Act.put, List.setIfInBounds_toArray, List.set_cons_zero, List.set_cons_succ]
              refine wpAnyH_done (by kernel_rfl) ?_ _
              as_aux_lemma =>
                obtain ⟨hc70, hc71, hc72⟩ := HCE.out w7 HK7.out
                obtain ⟨t, ht⟩ : ∃ t, t = s.restart z1 := ⟨_, rfl⟩
                rw [← ht] at HT7
                clear ht
                go_wp2_with fail
                have hfew7 : t.waits.length ≤ 65536 * (k + 1) := HT7.out.few
                refine (two_read z1 z2 hb1 (by omega) HT7.out).mono ?_
                rintro e w8 ⟨A8, k8, c8, rfl, hs8, hT8, hk8, ho8⟩
                have HS8 := Lib.hid hs8
                have HT8 := Lib.hid hT8.swap
                have HO8 := Lib.hid ho8
                have hc81 : w8.cell? ⟨nb, 1, none⟩ = some (.int .i64 z1) := hk8.cell_some hc71 fun hb => hb
                have hc82 : w8.cell? ⟨nb, 2, none⟩ = some (.int .i64 z2) := hk8.cell_some hc72 fun hb => hb
                have hs78 := hk8.size
                clear hs8 hT8 hk8 ho8
                go_wp2_with fail
                refine (rtwo_read z1 z2 hb1 (by omega) HT8.out).mono ?_
                rintro e w9 ⟨A9, k9, c9, rfl, hs9, hT9, hk9, _⟩
                have HT9 := Lib.hid hT9.swap
                have hs89 := hk9.size
                obtain ⟨KE, PE, pE, hE0, hE1, hE2⟩ := rtwo_cells hT9
                have hkeep : ∀ W, Keep0 w9 W → (convert 22 9 (.slice A8 k8 c8)).run Try.prog W = .ok (.string (strB (t.readL z1 z2))) W ∧ (convert 22 9 (.slice A9 k9 c9)).run Try.prog W = .ok (.string (strB (t.readL z1 z2))) W ∧ W.cell? ⟨E, 0, none⟩ = some (.slice (some ⟨KE, 0, none⟩) t.kept.length t.kept.length) ∧ W.cell? ⟨E, 1, none⟩ = some (.slice PE t.waits.length pE) ∧ W.cell? ⟨E, 2, none⟩ = some (.bool t.down) := fun W hW =>
                  ⟨((HS8.out.keep0 hk9).keep0 hW).str 22 5 9 Try.underlying22 Try.underlying5 Try.underlying9, (hs9.keep0 hW).str 22 5 9 Try.underlying22 Try.underlying5 Try.underlying9, hW.cell_some hE0 (fun hb => hb), hW.cell_some hE1 (fun hb => hb), hW.cell_some hE2 (fun hb => hb)⟩
                have HKP := Lib.hid hkeep
                have HO9 : Hid (Own w9 w7.heap.size 5 A8 k8 c8 ((t.readL z1 z2).map bv)) := HO8.out.keep0 hk9
                have hA8 : ∀ b, BlkOf A8 b → New (New X w7 w8) w8 w9 b ∧ w7.heap.size ≤ b := fun b hb => by
                  obtain ⟨a, rfl, rfl⟩ := hb
                  have := HO8.out.row a.block rfl
                  exact ⟨.inl (.inr this), this.1⟩
                have HA8 := Lib.hid hA8
                have hw17 : w1.heap.size ≤ w7.heap.size := HT7.out.keep.size
                have hTd : Two w1 w9.drew (dskT D t (k + 1)) (rdskT E t) (New (New X w7 w8) w8 w9) := HT9.out.keep0 (Keep.drew w9)
                have HTD := Lib.hid hTd
                have hk8n : k8 ≤ maxLen := Nat.le_trans HO8.out.sl.cap HO8.out.sl.max
                unfold maxLen at hk8n
                clear hkeep hs9 hT9 hk9 hE0 hE1 hE2 hA8 hTd hc50 hc51 hc52 hc70 hc71 hc72 hc81 hc82
                go_wp2_with fail
                refine wp_region_held_drew (S := fun W => (convert 22 9 (.slice A8 k8 c8)).run Try.prog W = .ok (.string (strB (t.readL z1 z2))) W ∧ (convert 22 9 (.slice A9 k9 c9)).run Try.prog W = .ok (.string (strB (t.readL z1 z2))) W ∧ W.cell? ⟨E, 0, none⟩ = some (.slice (some ⟨KE, 0, none⟩) t.kept.length t.kept.length) ∧ W.cell? ⟨E, 1, none⟩ = some (.slice PE t.waits.length pE) ∧ W.cell? ⟨E, 2, none⟩ = some (.bool t.down)) (by kernel_rfl) ?_ (fun hHeld => ?_)
                · exact HKP.out _ (Keep.drew w9)
                refine wpAnyH_take (i := 0) (oi := ⟨_, _, _, _, _, _⟩) (v := ?_) rfl (by kernel_rfl) (by kernel_rfl) (by kernel_rfl) (fun _ _ _ h => h) (Or.inl ⟨by rfl, ?_⟩) (by assumption) ?_
                rotate_left
                · intro W hSw; (try dsimp only at hSw); go_simp; try with_reducible rfl
                try simp only [Act.put, List.setIfInBounds_toArray, List.set_cons_zero, List.set_cons_succ]
                refine wpAnyH_take (i := 1) (oi := ⟨_, _, _, _, _, _⟩) (v := ?_) rfl (by kernel_rfl) (by kernel_rfl) (by kernel_rfl) (fun _ _ _ h => h) (Or.inl ⟨by rfl, ?_⟩) (by assumption) ?_
                rotate_left
                · intro W hSw; (try dsimp only at hSw); go_simp; try with_reducible rfl
                try simp only [Act.put, List.setIfInBounds_toArray, List.set_cons_zero, List.set_cons_succ]
                refine wpAnyH_take (i := 2) (oi := ⟨_, _, _, _, _, _⟩) (v := ?_) rfl (by kernel_rfl) (by kernel_rfl) (by kernel_rfl) (fun _ _ _ h => h) (Or.inl ⟨by rfl, ?_⟩) (by assumption) ?_
                rotate_left
                · intro W hSw; (try dsimp only at hSw); go_simp; try with_reducible rfl
                try simp only [Act.put, List.setIfInBounds_toArray, List.set_cons_zero, List.set_cons_succ]
                refine wpAnyH_take (i := 3) (oi := ⟨_, _, _, _, _, _⟩) (v := ?_) rfl (by kernel_rfl) (by kernel_rfl) (by kernel_rfl) (fun _ _ _ h => h) (Or.inl ⟨by rfl, ?_⟩) (by assumption) ?_
                rotate_left
                · intro W hSw; (try dsimp only at hSw); go_simp; try with_reducible rfl
                try simp only [Act.put, List.setIfInBounds_toArray, List.set_cons_zero, List.set_cons_succ]
                refine wpAnyH_take (i := 4) (oi := ⟨_, _, _, _, _, _⟩) (v := ?_) rfl (by kernel_rfl) (by kernel_rfl) (by kernel_rfl) (fun _ _ _ h => h) (Or.inl ⟨by rfl, ?_⟩) (by assumption) ?_
                rotate_left
                · intro W hSw; (try dsimp only at hSw); go_simp; try with_reducible rfl
                try simp only [Act.put, List.setIfInBounds_toArray, List.set_cons_zero, List.set_cons_succ]
                refine wpAnyH_take (i := 5) (oi := ⟨_, _, _, _, _, _⟩) (v := ?_) rfl (by kernel_rfl) (by kernel_rfl) (by kernel_rfl) (fun _ _ _ h => h) (Or.inl ⟨by rfl, ?_⟩) (by assumption) ?_
                rotate_left
                · intro W hSw; (try dsimp only at hSw); go_simp; try with_reducible rfl
                try simp only [Act.put, List.setIfInBounds_toArray, List.set_cons_zero, List.set_cons_succ]
                refine wpAnyH_take (i := 6) (oi := ⟨_, _, _, _, _, _⟩) (v := ?_) rfl (by kernel_rfl) (by kernel_rfl) (by kernel_rfl) (fun _ _ _ h => h) (Or.inl ⟨by rfl, ?_⟩) (by assumption) ?_
                rotate_left
                · intro W hSw; (try dsimp only at hSw); go_simp; try with_reducible rfl
                try simp only [Act.put, List.setIfInBounds_toArray, List.set_cons_zero, List.set_cons_succ]
                refine wpAnyH_take (i := 7) (oi := ⟨_, _, _, _, _, _⟩) (v := ?_) rfl (by kernel_rfl) (by kernel_rfl) (by kernel_rfl) (fun _ _ _ h => h) (Or.inl ⟨by rfl, ?_⟩) (by assumption) ?_
                rotate_left
                · intro W hSw; (try dsimp only at hSw); go_simp; try with_reducible rfl
                try simp only [Act.put, List.setIfInBounds_toArray, List.set_cons_zero, List.set_cons_succ]
                refine wpAnyH_take (i := 8) (oi := ⟨_, _, _, _, _, _⟩) (v := ?_) rfl (by kernel_rfl) (by kernel_rfl) (by kernel_rfl) (fun _ _ _ h => h) (Or.inl ⟨by rfl, ?_⟩) (by assumption) ?_
                rotate_left
                · intro W hSw; (try dsimp only at hSw); go_simp; try with_reducible rfl
                try simp only [Act.put, List.setIfInBounds_toArray, List.set_cons_zero, List.set_cons_succ]
                refine wpAnyH_take (i := 9) (oi := ⟨_, _, _, _, _, _⟩) (v := ?_) rfl (by kernel_rfl) (by kernel_rfl) (by kernel_rfl) (fun _ _ _ h => h) (Or.inl ⟨by rfl, ?_⟩) (by assumption) ?_
                rotate_left
                · intro W hSw; (try dsimp only at hSw); go_simp; try with_reducible rfl
                try simp only [Act.put, List.setIfInBounds_toArray, List.set_cons_zero, List.set_cons_succ]
                refine wpAnyH_take (i := 10) (oi := ⟨_, _, _, _, _, _⟩) (v := ?_) rfl (by kernel_rfl) (by kernel_rfl) (by kernel_rfl) (fun _ _ _ h => h) (Or.inl ⟨by rfl, ?_⟩) (by assumption) ?_
                rotate_left
                · intro W hSw; (try dsimp only at hSw); go_simp; try with_reducible rfl
                try simp only [Act.put, List.setIfInBounds_toArray, List.set_cons_zero, List.set_cons_succ]
                refine wpAnyH_take (i := 11) (oi := ⟨_, _, _, _, _, _⟩) (v := ?_) rfl (by kernel_rfl) (by kernel_rfl) (by kernel_rfl) (fun _ _ _ h => h) (Or.inl ⟨by rfl, ?_⟩) (by assumption) ?_
                rotate_left
                · intro W hSw; (try dsimp only at hSw); go_simp; try with_reducible rfl
                try simp only [Act.put, List.setIfInBounds_toArray, List.set_cons_zero, List.set_cons_succ]
                refine wpAnyH_take (i := 12) (oi := ⟨_, _, _, _, _, _⟩) (v := ?_) rfl (by kernel_rfl) (by kernel_rfl) (by kernel_rfl) (fun _ _ _ h => h) (Or.inl ⟨by rfl, ?_⟩) (by assumption) ?_
                rotate_left
                · intro W hSw; (try dsimp only at hSw); go_simp; try with_reducible rfl
                try simp only [Act.put, List.setIfInBounds_toArray, List.set_cons_zero, List.set_cons_succ]
                refine wpAnyH_take (i := 13) (oi := ⟨_, _, _, _, _, _⟩) (v := ?_) rfl (by kernel_rfl) (by kernel_rfl) (by kernel_rfl) (fun _ _ _ h => h) (Or.inl ⟨by rfl, ?_⟩) (by assumption) ?_
                rotate_left
                · intro W hSw; (try dsimp only at hSw); go_simp; try with_reducible rfl
                try simp only [Act.put, List.setIfInBounds_toArray, List.set_cons_zero, List.set_cons_succ]
                refine wpAnyH_take (i := 14) (oi := ⟨_, _, _, _, _, _⟩) (v := ?_) rfl (by kernel_rfl) (by kernel_rfl) (by kernel_rfl) (fun _ _ _ h => h) (Or.inl ⟨by rfl, ?_⟩) (by assumption) ?_
                rotate_left
                · intro W hSw; (try dsimp only at hSw); go_simp; try with_reducible rfl
                try simp only [Act.put, List.setIfInBounds_toArray, List.set_cons_zero, List.set_cons_succ]
                refine wpAnyH_take (i := 15) (oi := ⟨_, _, _, _, _, _⟩) (v := ?_) rfl (by kernel_rfl) (by kernel_rfl) (by kernel_rfl) (fun _ _ _ h => h) (Or.inl ⟨by rfl, ?_⟩) (by assumption) ?_
                rotate_left
                · intro W hSw; (try dsimp only at hSw); go_simp; try with_reducible rfl
                try simp only [Act.put, List.setIfInBounds_toArray, List.set_cons_zero, List.set_cons_succ]
                refine wpAnyH_take (i := 17) (oi := ⟨_, _, _, _, _, _⟩) (v := ?_) rfl (by kernel_rfl) (by kernel_rfl) (by kernel_rfl) (fun _ _ _ h => h) (Or.inl ⟨by rfl, ?_⟩) (by assumption) ?_
                rotate_left
                · intro W hSw; (try dsimp only at hSw); go_simp; try with_reducible rfl
                try simp only [Act.put, List.setIfInBounds_toArray, List.set_cons_zero, List.set_cons_succ]
                refine wpAnyH_take (i := 18) (oi := ⟨_, _, _, _, _, _⟩) (v := ?_) rfl (by kernel_rfl) (by kernel_rfl) (by kernel_rfl) (fun _ _ _ h => h) (Or.inl ⟨by rfl, ?_⟩) (by assumption) ?_
                rotate_left
                · intro W hSw; (try dsimp only at hSw); go_simp; try with_reducible rfl
                try simp only [Act.put, List.setIfInBounds_toArray, List.set_cons_zero, List.set_cons_succ]
                refine wpAnyH_take (i := 19) (oi := ⟨_, _, _, _, _, _⟩) (v := ?_) rfl (by kernel_rfl) (by kernel_rfl) (by kernel_rfl) (fun _ _ _ h => h) (Or.inl ⟨by rfl, ?_⟩) (by assumption) ?_
                rotate_left
                · intro W hSw; (try dsimp only at hSw); go_simp; try with_reducible rfl
                try simp only [Act.put, List.setIfInBounds_toArray, List.set_cons_zero, List.set_cons_succ]
                refine wpAnyH_take (i := 20) (oi := ⟨_, _, _, _, _, _⟩) (v := ?_) rfl (by kernel_rfl) (by kernel_rfl) (by kernel_rfl) (fun _ _ _ h => h) (Or.inl ⟨by rfl, ?_⟩) (by assumption) ?_
                rotate_left
                · intro W hSw; (try dsimp only at hSw); go_simp; try with_reducible rfl
                try simp only [Act.put, List.setIfInBounds_toArray, List.set_cons_zero, List.set_cons_succ]
                refine wpAnyH_ready (rs := [16]) (by kernel_rfl) (by simp) ?_
                refine AllReadyH.cons (o := ⟨_, _, _, _, _, _⟩) rfl (fun K hK => ?_) AllReadyH.nil
                go_simp
                refine (two_down HTD.out).mono ?_
                rintro e w' ⟨rfl, rfl⟩
                refine hK.out _ _ ?_ (fun hHeld => ?_)
                · exact HKP.out _ (Keep.drew w9)
                clear hK K
                try simp only [Act.put, List.setIfInBounds_toArray, List.set_cons_zero, List.set_cons_succ]
                refine wpAnyH_take (i := 21) (oi := ⟨_, _, _, _, _, _⟩) (v := ?_) rfl (by kernel_rfl) (by kernel_rfl) (by kernel_rfl) (fun _ _ _ h => h) (Or.inl ⟨by rfl, ?_⟩) (by assumption) ?_
                rotate_left
                · intro W hSw; (try dsimp only at hSw); go_simp; try with_reducible rfl
                try simp only [Act.put, List.setIfInBounds_toArray, List.set_cons_zero, List.set_cons_succ]
                refine wpAnyH_take (i := 22) (oi := ⟨_, _, _, _, _, _⟩) (v := ?_) rfl (by kernel_rfl) (by kernel_rfl) (by kernel_rfl) (fun _ _ _ h => h) (Or.inl ⟨by rfl, ?_⟩) (by assumption) ?_
                rotate_left
                · intro W hSw; (try dsimp only at hSw); go_simp; try with_reducible rfl
                try simp only [Act.put, List.setIfInBounds_toArray, List.set_cons_zero, List.set_cons_succ]
                refine wpAnyH_take (i := 23) (oi := ⟨_, _, _, _, _, _⟩) (v := ?_) rfl (by kernel_rfl) (by kernel_rfl) (by kernel_rfl) (fun _ _ _ h => h) (Or.inl ⟨by rfl, ?_⟩) (by assumption) ?_
                rotate_left
                · intro W hSw; (try dsimp only at hSw); go_simp; try with_reducible rfl
                try simp only [Act.put, List.setIfInBounds_toArray, List.set_cons_zero, List.set_cons_succ]
                refine wpAnyH_take (i := 24) (oi := ⟨_, _, _, _, _, _⟩) (v := ?_) rfl (by kernel_rfl) (by kernel_rfl) (by kernel_rfl) (fun _ _ _ h => h) (Or.inl ⟨by rfl, ?_⟩) (by assumption) ?_
                rotate_left
                · intro W hSw; (try dsimp only at hSw); go_simp; try with_reducible rfl
                try simp only [Act.put, List.setIfInBounds_toArray, List.set_cons_zero, List.set_cons_succ]
                refine wpAnyH_take (i := 26) (oi := ⟨_, _, _, _, _, _⟩) (v := ?_) rfl (by kernel_rfl) (by kernel_rfl) (by kernel_rfl) (fun _ _ _ h => h) (Or.inl ⟨by rfl, ?_⟩) (by assumption) ?_
                rotate_left
                · intro W hSw; (try dsimp only at hSw); go_simp; try with_reducible rfl
                try simp only [Act.put, List.setIfInBounds_toArray, List.set_cons_zero, List.set_cons_succ]
                refine wpAnyH_take (i := 27) (oi := ⟨_, _, _, _, _, _⟩) (v := ?_) rfl (by kernel_rfl) (by kernel_rfl) (by kernel_rfl) (fun _ _ _ h => h) (Or.inl ⟨by rfl, ?_⟩) (by assumption) ?_
                rotate_left
                · intro W hSw; (try dsimp only at hSw); go_simp; try with_reducible rfl
                try simp only [Act.put, List.setIfInBounds_toArray, List.set_cons_zero, List.set_cons_succ]
                refine wpAnyH_take (i := 28) (oi := ⟨_, _, _, _, _, _⟩) (v := ?_) rfl (by kernel_rfl) (by kernel_rfl) (by kernel_rfl) (fun _ _ _ h => h) (Or.inl ⟨by rfl, ?_⟩) (by assumption) ?_
                rotate_left
                · intro W hSw; (try dsimp only at hSw); go_simp; try with_reducible rfl
                try simp only [Act.put, List.setIfInBounds_toArray, List.set_cons_zero, List.set_cons_succ]
                refine wpAnyH_take (i := 29) (oi := ⟨_, _, _, _, _, _⟩) (v := ?_) rfl (by kernel_rfl) (by kernel_rfl) (by kernel_rfl) (fun _ _ _ h => h) (Or.inl ⟨by rfl, ?_⟩) (by assumption) ?_
                rotate_left
                · intro W hSw; (try dsimp only at hSw); go_simp; try with_reducible rfl
                try simp only [Act.put, List.setIfInBounds_toArray, List.set_cons_zero, List.set_cons_succ]
                refine wpAnyH_take (i := 30) (oi := ⟨_, _, _, _, _, _⟩) (v := ?_) rfl (by kernel_rfl) (by kernel_rfl) (by kernel_rfl) (fun _ _ _ h => h) (Or.inl ⟨by rfl, ?_⟩) (by assumption) ?_
                rotate_left
                · intro W hSw; (try dsimp only at hSw); go_simp; try with_reducible rfl
                try simp only [Act.put, List.setIfInBounds_toArray, List.set_cons_zero, List.set_cons_succ]
                refine wpAnyH_ready (rs := [25]) (by kernel_rfl) (by simp) ?_
                refine AllReadyH.cons (o := ⟨_, _, _, _, _, _⟩) rfl (fun K hK => ?_) AllReadyH.nil
                go_simp
                refine (two_pending HTD.out).mono ?_
                rintro e w' ⟨rfl, rfl⟩
                refine hK.out _ _ ?_ (fun hHeld => ?_)
                · exact HKP.out _ (Keep.drew w9)
                clear hK K
                try simp only [Act.put, List.setIfInBounds_toArray, List.set_cons_zero, List.set_cons_succ]
                refine wpAnyH_take (i := 31) (oi := ⟨_, _, _, _, _, _⟩) (v := ?_) rfl (by kernel_rfl) (by kernel_rfl) (by kernel_rfl) (fun _ _ _ h => h) (Or.inl ⟨by rfl, ?_⟩) (by assumption) ?_
                rotate_left
                · intro W hSw; (try dsimp only at hSw); go_simp; try with_reducible rfl
                try simp only [Act.put, List.setIfInBounds_toArray, List.set_cons_zero, List.set_cons_succ]
                refine wpAnyH_take (i := 32) (oi := ⟨_, _, _, _, _, _⟩) (v := ?_) rfl (by kernel_rfl) (by kernel_rfl) (by kernel_rfl) (fun _ _ _ h => h) (Or.inl ⟨by rfl, ?_⟩) (by assumption) ?_
                rotate_left
                · intro W hSw; (try dsimp only at hSw); go_simp; try with_reducible rfl
                try simp only [Act.put, List.setIfInBounds_toArray, List.set_cons_zero, List.set_cons_succ]
                refine wpAnyH_take (i := 33) (oi := ⟨_, _, _, _, _, _⟩) (v := ?_) rfl (by kernel_rfl) (by kernel_rfl) (by kernel_rfl) (fun _ _ _ h => h) (Or.inl ⟨by rfl, ?_⟩) (by assumption) ?_
                rotate_left
                · intro W hSw; (try dsimp only at hSw); go_simp; try with_reducible rfl
                try simp only [Act.put, List.setIfInBounds_toArray, List.set_cons_zero, List.set_cons_succ]
                refine wpAnyH_take (i := 34) (oi := ⟨_, _, _, _, _, _⟩) (v := ?_) rfl (by kernel_rfl) (by kernel_rfl) (by kernel_rfl) (fun _ _ _ h => h) (Or.inl ⟨by rfl, ?_⟩) (by assumption) ?_
                rotate_left
                · intro W hSw; (try dsimp only at hSw); go_simp; try with_reducible rfl
                try simp only [Act.put, List.setIfInBounds_toArray, List.set_cons_zero, List.set_cons_succ]
                refine wpAnyH_take (i := 36) (oi := ⟨_, _, _, _, _, _⟩) (v := ?_) rfl (by kernel_rfl) (by kernel_rfl) (by kernel_rfl) (fun _ _ _ h => h) (Or.inl ⟨by rfl, ?_⟩) (by assumption) ?_
                rotate_left
                · intro W hSw; (try dsimp only at hSw); go_simp; try with_reducible rfl
                try simp only [Act.put, List.setIfInBounds_toArray, List.set_cons_zero, List.set_cons_succ]
                refine wpAnyH_take (i := 37) (oi := ⟨_, _, _, _, _, _⟩) (v := ?_) rfl (by kernel_rfl) (by kernel_rfl) (by kernel_rfl) (fun _ _ _ h => h) (Or.inl ⟨by rfl, ?_⟩) (by assumption) ?_
                rotate_left
                · intro W hSw; (try dsimp only at hSw); go_simp; try with_reducible rfl
                try simp only [Act.put, List.setIfInBounds_toArray, List.set_cons_zero, List.set_cons_succ]
                refine wpAnyH_take (i := 38) (oi := ⟨_, _, _, _, _, _⟩) (v := ?_) rfl (by kernel_rfl) (by kernel_rfl) (by kernel_rfl) (fun _ _ _ h => h) (Or.inl ⟨by rfl, ?_⟩) (by assumption) ?_
                rotate_left
                · intro W hSw; (try dsimp only at hSw); go_simp; try with_reducible rfl
                try simp only [Act.put, List.setIfInBounds_toArray, List.set_cons_zero, List.set_cons_succ]
                refine wpAnyH_take (i := 39) (oi := ⟨_, _, _, _, _, _⟩) (v := ?_) rfl (by kernel_rfl) (by kernel_rfl) (by kernel_rfl) (fun _ _ _ h => h) (Or.inl ⟨by rfl, ?_⟩) (by assumption) ?_
                rotate_left
                · intro W hSw; (try dsimp only at hSw); go_simp; try with_reducible rfl
                try simp only [Act.put, List.setIfInBounds_toArray, List.set_cons_zero, List.set_cons_succ]
                refine wpAnyH_take (i := 40) (oi := ⟨_, _, _, _, _, _⟩) (v := ?_) rfl (by kernel_rfl) (by kernel_rfl) (by kernel_rfl) (fun _ _ _ h => h) (Or.inl ⟨by rfl, ?_⟩) (by assumption) ?_
                rotate_left
                · intro W hSw; (try dsimp only at hSw); go_simp; try with_reducible rfl
                try simp only [Act.put, List.setIfInBounds_toArray, List.set_cons_zero, List.set_cons_succ]
                refine wpAnyH_ready (rs := [35]) (by kernel_rfl) (by simp) ?_
                refine AllReadyH.cons (o := ⟨_, _, _, _, _, _⟩) rfl (fun K hK => ?_) AllReadyH.nil
                go_simp
                refine (two_size HTD.out).mono ?_
                rintro e w' ⟨rfl, rfl⟩
                refine hK.out _ _ ?_ (fun hHeld => ?_)
                · exact HKP.out _ (Keep.drew w9)
                clear hK K
                try simp only [Act.put, List.setIfInBounds_toArray, List.set_cons_zero, List.set_cons_succ]
                refine wpAnyH_take (i := 41) (oi := ⟨_, _, _, _, _, _⟩) (v := ?_) rfl (by kernel_rfl) (by kernel_rfl) (by kernel_rfl) (fun _ _ _ h => h) (Or.inl ⟨by rfl, ?_⟩) (by assumption) ?_
                rotate_left
                · intro W hSw; (try dsimp only at hSw); go_simp; try with_reducible rfl
                try simp only [Act.put, List.setIfInBounds_toArray, List.set_cons_zero, List.set_cons_succ]
                refine wpAnyH_take (i := 42) (oi := ⟨_, _, _, _, _, _⟩) (v := ?_) rfl (by kernel_rfl) (by kernel_rfl) (by kernel_rfl) (fun _ _ _ h => h) (Or.inl ⟨by rfl, ?_⟩) (by assumption) ?_
                rotate_left
                · intro W hSw; (try dsimp only at hSw); go_simp; try with_reducible rfl
                try simp only [Act.put, List.setIfInBounds_toArray, List.set_cons_zero, List.set_cons_succ]
                refine wpAnyH_done (by kernel_rfl) ?_ _
                clear hHeld
                go_wp2_with fail
                go_loopw [17] (fun jj wr => ∃ j : Nat, j ≤ k8 ∧ jj = .int .i64 j ∧ (∃ cs, Own wr w7.heap.size 5 A8 k8 c8 cs) ∧ Keep (BlkOf A8) w9.drew wr) (fun jj _ => k8 - (intOf jj).toNat)
                case atStart => exact ⟨0, Nat.zero_le _, rfl, ⟨_, HO9.out.keep0 (Keep.drew w9)⟩, Keep.refl _ _⟩
                case round =>
                  obtain ⟨j, hj, rfl, ⟨cs, hown⟩, hkr⟩ := hrel
                  by_cases hjn : j < k8
                  · obtain ⟨g', rfl, _, _, ⟨u, hcu, _⟩, hfz, hset⟩ := hown.set_ hjn
                    have HF := Lib.hid (hset (.int .u8 99))
                    have HKF := Lib.hid (hkr.andThen (Keep.setCell (S := BlkOf (some ⟨g', 0, none⟩)) wr ⟨g', j, none⟩ (.int .u8 99) ⟨_, rfl, rfl⟩))
                    clear hset hown hkr
                    go_wp2_with fail
                    go_roundw
                    case rel => exact ⟨j + 1, by omega, by go_num, ⟨_, HF.out⟩, HKF.out⟩
                    case measure => simp [intOf]; omega
                  · have HFIN := Lib.hid (HTD.out.writeX hkr (fun b hb => (HA8.out b hb).1) (fun b hb => Nat.le_trans hw17 (HA8.out b hb).2)).weak
                    clear hown hkr
                    go_wp2_with fail
                    go_roundw
                    case rel => exact ⟨k + 1, t, by omega, by go_num, HFIN.out⟩
                    case measure => simp [intOf]; omega
            · have j0 : (q == 0) = false := by simpa using g0
              have j1 : (q == 1) = false := by simpa using g1
              have j2 : (q == 2) = false := by simpa using g2
              have j3 : (q == 3) = false := by simpa using g3
              have j4 : (q == 4) = false := by simpa using g4
              have j5 : (q == 5) = false := by simpa using g5
              have j6 : (q == 6) = false := by simpa using g6
              clear g0 g1 g2 g3 g4 g5 g6
              obtain ⟨w7, rfl⟩ : ∃ w7 : World, w7 = w5 := ⟨_, rfl⟩
              have HT7 : Hid (Two w1 w7 (dskT D s (k + 1)) (rdskT E s) X) := HT5.out.more (by omega)
              have HK7 : Hid (KeepX X w7 w7) := Keep.refl _ _
              as_aux_lemma =>
                obtain ⟨hc70, hc71, hc72⟩ := HCE.out w7 HK7.out
                obtain ⟨t, ht⟩ : ∃ t, t = s := ⟨_, rfl⟩
                rw [← ht] at HT7
                clear ht
                go_wp2_with fail
                have hfew7 : t.waits.length ≤ 65536 * (k + 1) := HT7.out.few
                refine (two_read z1 z2 hb1 (by omega) HT7.out).mono ?_
                rintro e w8 ⟨A8, k8, c8, rfl, hs8, hT8, hk8, ho8⟩
                have HS8 := Lib.hid hs8
                have HT8 := Lib.hid hT8.swap
                have HO8 := Lib.hid ho8
                have hc81 : w8.cell? ⟨nb, 1, none⟩ = some (.int .i64 z1) := hk8.cell_some hc71 fun hb => hb
                have hc82 : w8.cell? ⟨nb, 2, none⟩ = some (.int .i64 z2) := hk8.cell_some hc72 fun hb => hb
                have hs78 := hk8.size
                clear hs8 hT8 hk8 ho8
                go_wp2_with fail
                refine (rtwo_read z1 z2 hb1 (by omega) HT8.out).mono ?_
                rintro e w9 ⟨A9, k9, c9, rfl, hs9, hT9, hk9, _⟩
                have HT9 := Lib.hid hT9.swap
                have hs89 := hk9.size
                obtain ⟨KE, PE, pE, hE0, hE1, hE2⟩ := rtwo_cells hT9
                have hkeep : ∀ W, Keep0 w9 W → (convert 22 9 (.slice A8 k8 c8)).run Try.prog W = .ok (.string (strB (t.readL z1 z2))) W ∧ (convert 22 9 (.slice A9 k9 c9)).run Try.prog W = .ok (.string (strB (t.readL z1 z2))) W ∧ W.cell? ⟨E, 0, none⟩ = some (.slice (some ⟨KE, 0, none⟩) t.kept.length t.kept.length) ∧ W.cell? ⟨E, 1, none⟩ = some (.slice PE t.waits.length pE) ∧ W.cell? ⟨E, 2, none⟩ = some (.bool t.down) := fun W hW =>
                  ⟨((HS8.out.keep0 hk9).keep0 hW).str 22 5 9 Try.underlying22 Try.underlying5 Try.underlying9, (hs9.keep0 hW).str 22 5 9 Try.underlying22 Try.underlying5 Try.underlying9, hW.cell_some hE0 (fun hb => hb), hW.cell_some hE1 (fun hb => hb), hW.cell_some hE2 (fun hb => hb)⟩
                have HKP := Lib.hid hkeep
                have HO9 : Hid (Own w9 w7.heap.size 5 A8 k8 c8 ((t.readL z1 z2).map bv)) := HO8.out.keep0 hk9
                have hA8 : ∀ b, BlkOf A8 b → New (New X w7 w8) w8 w9 b ∧ w7.heap.size ≤ b := fun b hb => by
                  obtain ⟨a, rfl, rfl⟩ := hb
                  have := HO8.out.row a.block rfl
                  exact ⟨.inl (.inr this), this.1⟩
                have HA8 := Lib.hid hA8
                have hw17 : w1.heap.size ≤ w7.heap.size := HT7.out.keep.size
                have hTd : Two w1 w9.drew (dskT D t (k + 1)) (rdskT E t) (New (New X w7 w8) w8 w9) := HT9.out.keep0 (Keep.drew w9)
                have HTD := Lib.hid hTd
                have hk8n : k8 ≤ maxLen := Nat.le_trans HO8.out.sl.cap HO8.out.sl.max
                unfold maxLen at hk8n
                clear hkeep hs9 hT9 hk9 hE0 hE1 hE2 hA8 hTd hc50 hc51 hc52 hc70 hc71 hc72 hc81 hc82
                go_wp2_with fail
                refine wp_region_held_drew (S := fun W => (convert 22 9 (.slice A8 k8 c8)).run Try.prog W = .ok (.string (strB (t.readL z1 z2))) W ∧ (convert 22 9 (.slice A9 k9 c9)).run Try.prog W = .ok (.string (strB (t.readL z1 z2))) W ∧ W.cell? ⟨E, 0, none⟩ = some (.slice (some ⟨KE, 0, none⟩) t.kept.length t.kept.length) ∧ W.cell? ⟨E, 1, none⟩ = some (.slice PE t.waits.length pE) ∧ W.cell? ⟨E, 2, none⟩ = some (.bool t.down)) (by kernel_rfl) ?_ (fun hHeld => ?_)
                · exact HKP.out _ (Keep.drew w9)
                refine wpAnyH_take (i := 0) (oi := ⟨_, _, _, _, _, _⟩) (v := ?_) rfl (by kernel_rfl) (by kernel_rfl) (by kernel_rfl) (fun _ _ _ h => h) (Or.inl ⟨by rfl, ?_⟩) (by assumption) ?_
                rotate_left
                · intro W hSw; (try dsimp only at hSw); go_simp; try with_reducible rfl
                try simp only [Act.put, List.setIfInBounds_toArray, List.set_cons_zero, List.set_cons_succ]
                refine wpAnyH_take (i := 1) (oi := ⟨_, _, _, _, _, _⟩) (v := ?_) rfl (by kernel_rfl) (by kernel_rfl) (by kernel_rfl) (fun _ _ _ h => h) (Or.inl ⟨by rfl, ?_⟩) (by assumption) ?_
                rotate_left
                · intro W hSw; (try dsimp only at hSw); go_simp; try with_reducible rfl
                try simp only [Act.put, List.setIfInBounds_toArray, List.set_cons_zero, List.set_cons_succ]
                refine wpAnyH_take (i := 2) (oi := ⟨_, _, _, _, _, _⟩) (v := ?_) rfl (by kernel_rfl) (by kernel_rfl) (by kernel_rfl) (fun _ _ _ h => h) (Or.inl ⟨by rfl, ?_⟩) (by assumption) ?_
                rotate_left
                · intro W hSw; (try dsimp only at hSw); go_simp; try with_reducible rfl
                try simp only [Act.put, List.setIfInBounds_toArray, List.set_cons_zero, List.set_cons_succ]
                refine wpAnyH_take (i := 3) (oi := ⟨_, _, _, _, _, _⟩) (v := ?_) rfl (by kernel_rfl) (by kernel_rfl) (by kernel_rfl) (fun _ _ _ h => h) (Or.inl ⟨by rfl, ?_⟩) (by assumption) ?_
                rotate_left
                · intro W hSw; (try dsimp only at hSw); go_simp; try with_reducible rfl
                try simp only [Act.put, List.setIfInBounds_toArray, List.set_cons_zero, List.set_cons_succ]
                refine wpAnyH_take (i := 4) (oi := ⟨_, _, _, _, _, _⟩) (v := ?_) rfl (by kernel_rfl) (by kernel_rfl) (by kernel_rfl) (fun _ _ _ h => h) (Or.inl ⟨by rfl, ?_⟩) (by assumption) ?_
                rotate_left
                · intro W hSw; (try dsimp only at hSw); go_simp; try with_reducible rfl
                try simp only [Act.put, List.setIfInBounds_toArray, List.set_cons_zero, List.set_cons_succ]
                refine wpAnyH_take (i := 5) (oi := ⟨_, _, _, _, _, _⟩) (v := ?_) rfl (by kernel_rfl) (by kernel_rfl) (by kernel_rfl) (fun _ _ _ h => h) (Or.inl ⟨by rfl, ?_⟩) (by assumption) ?_
                rotate_left
                · intro W hSw; (try dsimp only at hSw); go_simp; try with_reducible rfl
                try simp only [Act.put, List.setIfInBounds_toArray, List.set_cons_zero, List.set_cons_succ]
                refine wpAnyH_take (i := 6) (oi := ⟨_, _, _, _, _, _⟩) (v := ?_) rfl (by kernel_rfl) (by kernel_rfl) (by kernel_rfl) (fun _ _ _ h => h) (Or.inl ⟨by rfl, ?_⟩) (by assumption) ?_
                rotate_left
                · intro W hSw; (try dsimp only at hSw); go_simp; try with_reducible rfl
                try simp only [Act.put, List.setIfInBounds_toArray, List.set_cons_zero, List.set_cons_succ]
                refine wpAnyH_take (i := 7) (oi := ⟨_, _, _, _, _, _⟩) (v := ?_) rfl (by kernel_rfl) (by kernel_rfl) (by kernel_rfl) (fun _ _ _ h => h) (Or.inl ⟨by rfl, ?_⟩) (by assumption) ?_
                rotate_left
                · intro W hSw; (try dsimp only at hSw); go_simp; try with_reducible rfl
                try simp only [Act.put, List.setIfInBounds_toArray, List.set_cons_zero, List.set_cons_succ]
                refine wpAnyH_take (i := 8) (oi := ⟨_, _, _, _, _, _⟩) (v := ?_) rfl (by kernel_rfl) (by kernel_rfl) (by kernel_rfl) (fun _ _ _ h => h) (Or.inl ⟨by rfl, ?_⟩) (by assumption) ?_
                rotate_left
                · intro W hSw; (try dsimp only at hSw); go_simp; try with_reducible rfl
                try simp only [Act.put, List.setIfInBounds_toArray, List.set_cons_zero, List.set_cons_succ]
                refine wpAnyH_take (i := 9) (oi := ⟨_, _, _, _, _, _⟩) (v := ?_) rfl (by kernel_rfl) (by kernel_rfl) (by kernel_rfl) (fun _ _ _ h => h) (Or.inl ⟨by rfl, ?_⟩) (by assumption) ?_
                rotate_left
                · intro W hSw; (try dsimp only at hSw); go_simp; try with_reducible rfl
                try simp only [Act.put, List.setIfInBounds_toArray, List.set_cons_zero, List.set_cons_succ]
                refine wpAnyH_take (i := 10) (oi := ⟨_, _, _, _, _, _⟩) (v := ?_) rfl (by kernel_rfl) (by kernel_rfl) (by kernel_rfl) (fun _ _ _ h => h) (Or.inl ⟨by rfl, ?_⟩) (by assumption) ?_
                rotate_left
                · intro W hSw; (try dsimp only at hSw); go_simp; try with_reducible rfl
                try simp only [Act.put, List.setIfInBounds_toArray, List.set_cons_zero, List.set_cons_succ]
                refine wpAnyH_take (i := 11) (oi := ⟨_, _, _, _, _, _⟩) (v := ?_) rfl (by kernel_rfl) (by kernel_rfl) (by kernel_rfl) (fun _ _ _ h => h) (Or.inl ⟨by rfl, ?_⟩) (by assumption) ?_
                rotate_left
                · intro W hSw; (try dsimp only at hSw); go_simp; try with_reducible rfl
                try simp only [Act.put, List.setIfInBounds_toArray, List.set_cons_zero, List.set_cons_succ]
                refine wpAnyH_take (i := 12) (oi := ⟨_, _, _, _, _, _⟩) (v := ?_) rfl (by kernel_rfl) (by kernel_rfl) (by kernel_rfl) (fun _ _ _ h => h) (Or.inl ⟨by rfl, ?_⟩) (by assumption) ?_
                rotate_left
                · intro W hSw; (try dsimp only at hSw); go_simp; try with_reducible rfl
                try simp only [Act.put, List.setIfInBounds_toArray, List.set_cons_zero, List.set_cons_succ]
                refine wpAnyH_take (i := 13) (oi := ⟨_, _, _, _, _, _⟩) (v := ?_) rfl (by kernel_rfl) (by kernel_rfl) (by kernel_rfl) (fun _ _ _ h => h) (Or.inl ⟨by rfl, ?_⟩) (by assumption) ?_
                rotate_left
                · intro W hSw; (try dsimp only at hSw); go_simp; try with_reducible rfl
                try simp only [Act.put, List.setIfInBounds_toArray, List.set_cons_zero, List.set_cons_succ]
                refine wpAnyH_take (i := 14) (oi := ⟨_, _, _, _, _, _⟩) (v := ?_) rfl (by kernel_rfl) (by kernel_rfl) (by kernel_rfl) (fun _ _ _ h => h) (Or.inl ⟨by rfl, ?_⟩) (by assumption) ?_
                rotate_left
                · intro W hSw; (try dsimp only at hSw); go_simp; try with_reducible rfl
                try simp only [Act.put, List.setIfInBounds_toArray, List.set_cons_zero, List.set_cons_succ]
                refine wpAnyH_take (i := 15) (oi := ⟨_, _, _, _, _, _⟩) (v := ?_) rfl (by kernel_rfl) (by kernel_rfl) (by kernel_rfl) (fun _ _ _ h => h) (Or.inl ⟨by rfl, ?_⟩) (by assumption) ?_
                rotate_left
                · intro W hSw; (try dsimp only at hSw); go_simp; try with_reducible rfl
                try simp only [Act.put, List.setIfInBounds_toArray, List.set_cons_zero, List.set_cons_succ]
                refine wpAnyH_take (i := 17) (oi := ⟨_, _, _, _, _, _⟩) (v := ?_) rfl (by kernel_rfl) (by kernel_rfl) (by kernel_rfl) (fun _ _ _ h => h) (Or.inl ⟨by rfl, ?_⟩) (by assumption) ?_
                rotate_left
                · intro W hSw; (try dsimp only at hSw); go_simp; try with_reducible rfl
                try simp only [Act.put, List.setIfInBounds_toArray, List.set_cons_zero, List.set_cons_succ]
                refine wpAnyH_take (i := 18) (oi := ⟨_, _, _, _, _, _⟩) (v := ?_) rfl (by kernel_rfl) (by kernel_rfl) (by kernel_rfl) (fun _ _ _ h => h) (Or.inl ⟨by rfl, ?_⟩) (by assumption) ?_
                rotate_left
                · intro W hSw; (try dsimp only at hSw); go_simp; try with_reducible rfl
                try simp only [Act.put, List.setIfInBounds_toArray, List.set_cons_zero, List.set_cons_succ]
                refine wpAnyH_take (i := 19) (oi := ⟨_, _, _, _, _, _⟩) (v := ?_) rfl (by kernel_rfl) (by kernel_rfl) (by kernel_rfl) (fun _ _ _ h => h) (Or.inl ⟨by rfl, ?_⟩) (by assumption) ?_
                rotate_left
                · intro W hSw; (try dsimp only at hSw); go_simp; try with_reducible rfl
                try simp only [Act.put, List.setIfInBounds_toArray, List.set_cons_zero, List.set_cons_succ]
                refine wpAnyH_take (i := 20) (oi := ⟨_, _, _, _, _, _⟩) (v := ?_) rfl (by kernel_rfl) (by kernel_rfl) (by kernel_rfl) (fun _ _ _ h => h) (Or.inl ⟨by rfl, ?_⟩) (by assumption) ?_
                rotate_left
                · intro W hSw; (try dsimp only at hSw); go_simp; try with_reducible rfl
                try simp only [Act.put, List.setIfInBounds_toArray, List.set_cons_zero, List.set_cons_succ]
                refine wpAnyH_ready (rs := [16]) (by kernel_rfl) (by simp) ?_
                refine AllReadyH.cons (o := ⟨_, _, _, _, _, _⟩) rfl (fun K hK => ?_) AllReadyH.nil
                go_simp
                refine (two_down HTD.out).mono ?_
                rintro e w' ⟨rfl, rfl⟩
                refine hK.out _ _ ?_ (fun hHeld => ?_)
                · exact HKP.out _ (Keep.drew w9)
                clear hK K
                try simp only [Act.put, List.setIfInBounds_toArray, List.set_cons_zero, List.set_cons_succ]
                refine wpAnyH_take (i := 21) (oi := ⟨_, _, _, _, _, _⟩) (v := ?_) rfl (by kernel_rfl) (by kernel_rfl) (by kernel_rfl) (fun _ _ _ h => h) (Or.inl ⟨by rfl, ?_⟩) (by assumption) ?_
                rotate_left
                · intro W hSw; (try dsimp only at hSw); go_simp; try with_reducible rfl
                try simp only [Act.put, List.setIfInBounds_toArray, List.set_cons_zero, List.set_cons_succ]
                refine wpAnyH_take (i := 22) (oi := ⟨_, _, _, _, _, _⟩) (v := ?_) rfl (by kernel_rfl) (by kernel_rfl) (by kernel_rfl) (fun _ _ _ h => h) (Or.inl ⟨by rfl, ?_⟩) (by assumption) ?_
                rotate_left
                · intro W hSw; (try dsimp only at hSw); go_simp; try with_reducible rfl
                try simp only [Act.put, List.setIfInBounds_toArray, List.set_cons_zero, List.set_cons_succ]
                refine wpAnyH_take (i := 23) (oi := ⟨_, _, _, _, _, _⟩) (v := ?_) rfl (by kernel_rfl) (by kernel_rfl) (by kernel_rfl) (fun _ _ _ h => h) (Or.inl ⟨by rfl, ?_⟩) (by assumption) ?_
                rotate_left
                · intro W hSw; (try dsimp only at hSw); go_simp; try with_reducible rfl
                try simp only [Act.put, List.setIfInBounds_toArray, List.set_cons_zero, List.set_cons_succ]
                refine wpAnyH_take (i := 24) (oi := ⟨_, _, _, _, _, _⟩) (v := ?_) rfl (by kernel_rfl) (by kernel_rfl) (by kernel_rfl) (fun _ _ _ h => h) (Or.inl ⟨by rfl, ?_⟩) (by assumption) ?_
                rotate_left
                · intro W hSw; (try dsimp only at hSw); go_simp; try with_reducible rfl
                try simp only [Act.put, List.setIfInBounds_toArray, List.set_cons_zero, List.set_cons_succ]
                refine wpAnyH_take (i := 26) (oi := ⟨_, _, _, _, _, _⟩) (v := ?_) rfl (by kernel_rfl) (by kernel_rfl) (by kernel_rfl) (fun _ _ _ h => h) (Or.inl ⟨by rfl, ?_⟩) (by assumption) ?_
                rotate_left
                · intro W hSw; (try dsimp only at hSw); go_simp; try with_reducible rfl
                try simp only [Act.put, List.setIfInBounds_toArray, List.set_cons_zero, List.set_cons_succ]
                refine wpAnyH_take (i := 27) (oi := ⟨_, _, _, _, _, _⟩) (v := ?_) rfl (by kernel_rfl) (by kernel_rfl) (by kernel_rfl) (fun _ _ _ h => h) (Or.inl ⟨by rfl, ?_⟩) (by assumption) ?_
                rotate_left
                · intro W hSw; (try dsimp only at hSw); go_simp; try with_reducible rfl
                try simp only [Act.put, List.setIfInBounds_toArray, List.set_cons_zero, List.set_cons_succ]
                refine wpAnyH_take (i := 28) (oi := ⟨_, _, _, _, _, _⟩) (v := ?_) rfl (by kernel_rfl) (by kernel_rfl) (by kernel_rfl) (fun _ _ _ h => h) (Or.inl ⟨by rfl, ?_⟩) (by assumption) ?_
                rotate_left
                · intro W hSw; (try dsimp only at hSw); go_simp; try with_reducible rfl
                try simp only [Act.put, List.setIfInBounds_toArray, List.set_cons_zero, List.set_cons_succ]
                refine wpAnyH_take (i := 29) (oi := ⟨_, _, _, _, _, _⟩) (v := ?_) rfl (by kernel_rfl) (by kernel_rfl) (by kernel_rfl) (fun _ _ _ h => h) (Or.inl ⟨by rfl, ?_⟩) (by assumption) ?_
                rotate_left
                · intro W hSw; (try dsimp only at hSw); go_simp; try with_reducible rfl
                try simp only [Act.put, List.setIfInBounds_toArray, List.set_cons_zero, List.set_cons_succ]
                refine wpAnyH_take (i := 30) (oi := ⟨_, _, _, _, _, _⟩) (v := ?_) rfl (by kernel_rfl) (by kernel_rfl) (by kernel_rfl) (fun _ _ _ h => h) (Or.inl ⟨by rfl, ?_⟩) (by assumption) ?_
                rotate_left
                · intro W hSw; (try dsimp only at hSw); go_simp; try with_reducible rfl
                try simp only [Act.put, List.setIfInBounds_toArray, List.set_cons_zero, List.set_cons_succ]
                refine wpAnyH_ready (rs := [25]) (by kernel_rfl) (by simp) ?_
                refine AllReadyH.cons (o := ⟨_, _, _, _, _, _⟩) rfl (fun K hK => ?_) AllReadyH.nil
                go_simp
                refine (two_pending HTD.out).mono ?_
                rintro e w' ⟨rfl, rfl⟩
                refine hK.out _ _ ?_ (fun hHeld => ?_)
                · exact HKP.out _ (Keep.drew w9)
                clear hK K
                try simp only [Act.put, List.setIfInBounds_toArray, List.set_cons_zero, List.set_cons_succ]
                refine wpAnyH_take (i := 31) (oi := ⟨_, _, _, _, _, _⟩) (v := ?_) rfl (by kernel_rfl) (by kernel_rfl) (by kernel_rfl) (fun _ _ _ h => h) (Or.inl ⟨by rfl, ?_⟩) (by assumption) ?_
                rotate_left
                · intro W hSw; (try dsimp only at hSw); go_simp; try with_reducible rfl
                try simp only [Act.put, List.setIfInBounds_toArray, List.set_cons_zero, List.set_cons_succ]
                refine wpAnyH_take (i := 32) (oi := ⟨_, _, _, _, _, _⟩) (v := ?_) rfl (by kernel_rfl) (by kernel_rfl) (by kernel_rfl) (fun _ _ _ h => h) (Or.inl ⟨by rfl, ?_⟩) (by assumption) ?_
                rotate_left
                · intro W hSw; (try dsimp only at hSw); go_simp; try with_reducible rfl
                try simp only [Act.put, List.setIfInBounds_toArray, List.set_cons_zero, List.set_cons_succ]
                refine wpAnyH_take (i := 33) (oi := ⟨_, _, _, _, _, _⟩) (v := ?_) rfl (by kernel_rfl) (by kernel_rfl) (by kernel_rfl) (fun _ _ _ h => h) (Or.inl ⟨by rfl, ?_⟩) (by assumption) ?_
                rotate_left
                · intro W hSw; (try dsimp only at hSw); go_simp; try with_reducible rfl
                try simp only [Act.put, List.setIfInBounds_toArray, List.set_cons_zero, List.set_cons_succ]
                refine wpAnyH_take (i := 34) (oi := ⟨_, _, _, _, _, _⟩) (v := ?_) rfl (by kernel_rfl) (by kernel_rfl) (by kernel_rfl) (fun _ _ _ h => h) (Or.inl ⟨by rfl, ?_⟩) (by assumption) ?_
                rotate_left
                · intro W hSw; (try dsimp only at hSw); go_simp; try with_reducible rfl
                try simp only [Act.put, List.setIfInBounds_toArray, List.set_cons_zero, List.set_cons_succ]
                refine wpAnyH_take (i := 36) (oi := ⟨_, _, _, _, _, _⟩) (v := ?_) rfl (by kernel_rfl) (by kernel_rfl) (by kernel_rfl) (fun _ _ _ h => h) (Or.inl ⟨by rfl, ?_⟩) (by assumption) ?_
                rotate_left
                · intro W hSw; (try dsimp only at hSw); go_simp; try with_reducible rfl
                try simp only [Act.put, List.setIfInBounds_toArray, List.set_cons_zero, List.set_cons_succ]
                refine wpAnyH_take (i := 37) (oi := ⟨_, _, _, _, _, _⟩) (v := ?_) rfl (by kernel_rfl) (by kernel_rfl) (by kernel_rfl) (fun _ _ _ h => h) (Or.inl ⟨by rfl, ?_⟩) (by assumption) ?_
                rotate_left
                · intro W hSw; (try dsimp only at hSw); go_simp; try with_reducible rfl
                try simp only [Act.put, List.setIfInBounds_toArray, List.set_cons_zero, List.set_cons_succ]
                refine wpAnyH_take (i := 38) (oi := ⟨_, _, _, _, _, _⟩) (v := ?_) rfl (by kernel_rfl) (by kernel_rfl) (by kernel_rfl) (fun _ _ _ h => h) (Or.inl ⟨by rfl, ?_⟩) (by assumption) ?_
                rotate_left
                · intro W hSw; (try dsimp only at hSw); go_simp; try with_reducible rfl
                try simp only [Act.put, List.setIfInBounds_toArray, List.set_cons_zero, List.set_cons_succ]
                refine wpAnyH_take (i := 39) (oi := ⟨_, _, _, _, _, _⟩) (v := ?_) rfl (by kernel_rfl) (by kernel_rfl) (by kernel_rfl) (fun _ _ _ h => h) (Or.inl ⟨by rfl, ?_⟩) (by assumption) ?_
                rotate_left
                · intro W hSw; (try dsimp only at hSw); go_simp; try with_reducible rfl
                try simp only [Act.put, List.setIfInBounds_toArray, List.set_cons_zero, List.set_cons_succ]
                refine wpAnyH_take (i := 40) (oi := ⟨_, _, _, _, _, _⟩) (v := ?_) rfl (by kernel_rfl) (by kernel_rfl) (by kernel_rfl) (fun _ _ _ h => h) (Or.inl ⟨by rfl, ?_⟩) (by assumption) ?_
                rotate_left
                · intro W hSw; (try dsimp only at hSw); go_simp; try with_reducible rfl
                try simp only [Act.put, List.setIfInBounds_toArray, List.set_cons_zero, List.set_cons_succ]
                refine wpAnyH_ready (rs := [35]) (by kernel_rfl) (by simp) ?_
                refine AllReadyH.cons (o := ⟨_, _, _, _, _, _⟩) rfl (fun K hK => ?_) AllReadyH.nil
                go_simp
                refine (two_size HTD.out).mono ?_
                rintro e w' ⟨rfl, rfl⟩
                refine hK.out _ _ ?_ (fun hHeld => ?_)
                · exact HKP.out _ (Keep.drew w9)
                clear hK K
                try simp only [Act.put, List.setIfInBounds_toArray, List.set_cons_zero, List.set_cons_succ]
                refine wpAnyH_take (i := 41) (oi := ⟨_, _, _, _, _, _⟩) (v := ?_) rfl (by kernel_rfl) (by kernel_rfl) (by kernel_rfl) (fun _ _ _ h => h) (Or.inl ⟨by rfl, ?_⟩) (by assumption) ?_
                rotate_left
                · intro W hSw; (try dsimp only at hSw); go_simp; try with_reducible rfl
                try simp only [Act.put, List.setIfInBounds_toArray, List.set_cons_zero, List.set_cons_succ]
                refine wpAnyH_take (i := 42) (oi := ⟨_, _, _, _, _, _⟩) (v := ?_) rfl (by kernel_rfl) (by kernel_rfl) (by kernel_rfl) (fun _ _ _ h => h) (Or.inl ⟨by rfl, ?_⟩) (by assumption) ?_
                rotate_left
                · intro W hSw; (try dsimp only at hSw); go_simp; try with_reducible rfl
                try simp only [Act.put, List.setIfInBounds_toArray, List.set_cons_zero, List.set_cons_succ]
                refine wpAnyH_done (by kernel_rfl) ?_ _
                clear hHeld
                go_wp2_with fail
                go_loopw [17] (fun jj wr => ∃ j : Nat, j ≤ k8 ∧ jj = .int .i64 j ∧ (∃ cs, Own wr w7.heap.size 5 A8 k8 c8 cs) ∧ Keep (BlkOf A8) w9.drew wr) (fun jj _ => k8 - (intOf jj).toNat)
                case atStart => exact ⟨0, Nat.zero_le _, rfl, ⟨_, HO9.out.keep0 (Keep.drew w9)⟩, Keep.refl _ _⟩
                case round =>
                  obtain ⟨j, hj, rfl, ⟨cs, hown⟩, hkr⟩ := hrel
                  by_cases hjn : j < k8
                  · obtain ⟨g', rfl, _, _, ⟨u, hcu, _⟩, hfz, hset⟩ := hown.set_ hjn
                    have HF := Lib.hid (hset (.int .u8 99))
                    have HKF := Lib.hid (hkr.andThen (Keep.setCell (S := BlkOf (some ⟨g', 0, none⟩)) wr ⟨g', j, none⟩ (.int .u8 99) ⟨_, rfl, rfl⟩))
                    clear hset hown hkr
                    go_wp2_with fail
                    go_roundw
                    case rel => exact ⟨j + 1, by omega, by go_num, ⟨_, HF.out⟩, HKF.out⟩
                    case measure => simp [intOf]; omega
                  · have HFIN := Lib.hid (HTD.out.writeX hkr (fun b hb => (HA8.out b hb).1) (fun b hb => Nat.le_trans hw17 (HA8.out b hb).2)).weak
                    clear hown hkr
                    go_wp2_with fail
                    go_roundw
                    case rel => exact ⟨k + 1, t, by omega, by go_num, HFIN.out⟩
                    case measure => simp [intOf]; omega
      · go_wp2_with fail
        go_ret
        exact ⟨rfl, HK1.out.and0 HT.out.keep⟩
end Go.Proofs.Ytbdencfgiemliaa
