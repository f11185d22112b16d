/-
  Contract of the reference disk's Read: what the plain disk says. Conditions: it lies so in memory, with fewer than 2^30 bytes pending.
-/
import Derived.Test.YtbdencfgiemliaaRDisk3
namespace Go.Proofs.Ytbdencfgiemliaa
open Go.RowKit
set_option linter.unusedVariables false
section
variable {F : Nat → Prop} {w : World} {D : Nat} {s : DSt}
set_option maxRecDepth 20000
set_option maxHeartbeats 2000000
def From (B : Nat) : Nat → Prop := fun b => B ≤ b
theorem lay_take_succ (a : Nat) (o : List UInt8) (ps : List (Nat × UInt8)) (j : Nat) (h : j < ps.length) : layAll a o (ps.take (j + 1)) = layOne a (layAll a o (ps.take j)) ps[j] := by
  rw [List.take_succ_eq_append_getElem h, layAll_snoc]
theorem kept_part {K P' : Nat} {P : Option Addr} (h : RDskRep w D s F K P P') {L i k : Nat} (hL : L = s.kept.length) (hik : i + k ≤ L) (o : Nat) (ho : o = i ∨ k = 0) : Rd w (fun b => b < w.heap.size) (some ⟨K, o, none⟩) (((s.kept.drop i).take k).map bv) := by
  rcases ho with rfl | rfl
  · refine .inr ⟨K, o, rfl, h.ltK, fun j u hu => ?_⟩
    rcases Own.form h.kept with ⟨h1, _⟩ | ⟨g, cur, hA, _, hg, _, _, _, ht⟩
    · cases h1
    · injection hA with hA; injection hA with hA; subst hA
      rw [hg.cell, ← hu, List.map_take, List.map_drop, ← ht]
      have hj : j < k := by
        rcases Nat.lt_or_ge j k with h2 | h2
        · exact h2
        · rw [List.map_take, List.getElem?_take, if_neg (by omega)] at hu; cases hu
      rw [List.getElem?_take, if_pos hj, List.getElem?_drop, List.getElem?_take, if_pos (by rw [← hL]; omega)]
      simp
  · exact .inl (by simp)
theorem rread_any (a n : Int) (ha : -9223372036854775808 ≤ a ∧ a ≤ 9223372036854775807) (hwl : s.waits.length < 1073741824) (hd : RDsk w D s F) : Calls Try.prog 36 #[.pointer (some ⟨D, 0, none⟩), .int .i64 a, .int .i64 n] w fun e w' =>
    ∃ A k c, e = .returned (.tuple #[.slice A k c, .int .i64 (s.ask a n)]) ∧ Own w' w.heap.size 5 A k c ((s.readL a n).map bv) ∧ Keep0 w w' := by
  have HD := Lib.hid hd
  by_cases hz : s.ask a n = 0
  · obtain ⟨hdn, i, k, rfl, rfl, hik⟩ := ask_cases s a n hz
    have e : s.readL (i : Int) (k : Int) = s.read i k := by unfold DSt.readL; rw [if_pos hz]; rfl
    rw [e, hz]
    obtain ⟨K, P, pc, h⟩ := hd
    obtain ⟨c0, c1, c2, c3, hf⟩ := h.cells
    have hsz := h.ok.size
    have hlay := lay_part i k s.waits s.kept hik h.ok.pend
    have HLAY : Hid (layAll i ((s.kept.drop i).take k) s.waits = s.read i k) := hlay
    have H := Lib.hid h
    have HZ := Lib.hid hz
    obtain ⟨L, hL⟩ : ∃ L, L = s.kept.length := ⟨_, rfl⟩
    have HP0 := Lib.hid (kept_part h hL (by rw [hL]; exact hik) 0)
    have HPi := Lib.hid (kept_part h hL (by rw [hL]; exact hik) i (.inl rfl))
    rw [← hL] at c0 hik hsz
    have hlen : ((s.kept.drop i).take k).length = k := by rw [List.length_take, List.length_drop, ← hL]; omega
    have HLEN := Lib.hid hlen
    obtain ⟨i0, hi0, hz0, hz1, hz2⟩ := info_parts info5
    have hwb : ∀ b, BlkOf (some ⟨K, 0, none⟩) b → b = K := fun b hb => (blkOf_some K 0 b).1 hb
    -- the loop and what is behind it, from any world that the append leaves
    obtain ⟨out, hout⟩ : ∃ out, out = (s.kept.drop i).take k := ⟨_, rfl⟩
    rw [← hout] at HLAY HP0 HPi HLEN
    have hc0b : ∀ (W : World), Keep0 w W → ∀ W', Keep (From w.heap.size) W W' → W'.cell? ⟨D, 1, none⟩ = some (.slice P s.waits.length pc) := fun W hW W' hW' => hW'.cell_some (hW.cell_some c1 fun hb => hb) (fun hx => by have := H.out.blk.lt; unfold From at hx; simp only at hx; omega)
    have HC0 := Lib.hid hc0b
    have hpl : ∀ (W : World), Keep0 w W → ∀ W', Keep (From w.heap.size) W W' → ∀ (j : Nat) (hj : j < s.waits.length), ∃ g, P = some ⟨g, 0, none⟩ ∧ W'.cell? ⟨g, j * 2, none⟩ = some (.int .i64 (s.waits[j].1 : Int)) ∧ W'.cell? ⟨g, j * 2 + 1, none⟩ = some (.int .u8 (s.waits[j].2.toNat : Int)) := by
      intro W hW W' hW' j hj
      obtain ⟨g, hP, _, _, h1, h2⟩ := H.out.pcell hj
      have hg : ¬ From w.heap.size g := fun hx => by have := World.block_lt_of_cell? w _ h1; simp at this; unfold From at hx; omega
      exact ⟨g, hP, hW'.cell_some (hW.cell_some h1 fun hb => hb) hg, hW'.cell_some (hW.cell_some h2 fun hb => hb) hg⟩
    have HPL := Lib.hid hpl
    clear h hz e c2 c3 hf hdn hlay hL hwb hlen hout hc0b hpl
    by_cases hLi : L = i
    · subst hLi
      obtain rfl : k = 0 := by omega
      have hz9 : s.ask (L : Int) 0 = 0 := HZ.out
      go_enter Try.func36, Try.ntmps36
      go_wp2_with fail
      refine (rmay_any L 0 (by omega) HD.out).mono ?_
      rintro e w' ⟨rfl, rfl⟩
      rw [hz9]
      have hcA : (w.alloc (.cells #[] 5)).cell? ⟨D, 0, none⟩ = some (.slice (some ⟨K, 0, none⟩) L L) := (Keep.alloc w _).cell_some c0 fun hb => hb
      clear hz9
      have HO1 : Hid (Own (w.alloc (.cells #[] 5)) w.heap.size 5 (some ⟨w.heap.size, 0, none⟩) 0 0 (out.map bv)) := by
        have h9 : out = [] := List.eq_nil_of_length_eq_zero HLEN.out
        rw [h9]
        exact World.ownsRow_made w _ 0 (Nat.le_refl _) (Nat.zero_le _) rfl
      have HK1 := Lib.hid (Keep.alloc w (.cells #[] 5))
      go_wp2_with fail
      clear c0 hcA c1
      obtain ⟨w1, hw1⟩ : ∃ w1, w1 = w.alloc (.cells #[] 5) := ⟨_, rfl⟩
      rw [← hw1] at HO1 HK1 ⊢
      clear hw1
      go_loopw [10] (fun j wr => ∃ q : Nat, q ≤ s.waits.length ∧ j = .int .i64 q ∧ Own wr w.heap.size 5 (some ⟨w.heap.size, 0, none⟩) 0 0 ((layAll L out (s.waits.take q)).map bv) ∧ Keep (From w.heap.size) w1 wr) (fun j _ => s.waits.length - (intOf j).toNat)
      case atStart => exact ⟨0, Nat.zero_le _, rfl, HO1.out, Keep.refl _ _⟩
      case round =>
        obtain ⟨q, hq, rfl, hown, hkr⟩ := hrel
        have hc1 := HC0.out w1 HK1.out wr hkr
        have HO := Lib.hid hown
        have HK := Lib.hid hkr
        clear hown hkr
        by_cases hlt : q < s.waits.length
        · obtain ⟨g, rfl, hp0, hp1⟩ := HPL.out w1 HK1.out wr HK.out q hlt
          have hls := lay_take_succ L out s.waits q hlt
          obtain ⟨p, hpe⟩ : ∃ p, p = s.waits[q] := ⟨_, rfl⟩
          have hpb := H.out.ok.pend p (by rw [hpe]; exact List.getElem_mem hlt)
          rw [← hpe] at hp0 hp1 hls
          obtain ⟨p1, p2⟩ := p
          simp only at hp0 hp1 hpb
          have HLS := Lib.hid hls
          have hp65 : p1 < 65536 := by have := H.out.ok.size; omega
          clear hls hpe hpb
          have hqq : (q : Int) < (s.waits.length : Int) := by omega
          by_cases h1 : L ≤ p1
          · obtain ⟨d, rfl⟩ : ∃ d, p1 = L + d := ⟨p1 - L, by omega⟩
            have hdd : ((L + d : Nat) : Int) - (L : Int) = (d : Int) := by omega
            by_cases h2 : d < 0
            · exact absurd h2 (Nat.not_lt_zero d)
            · have e : layOne L (layAll L out (s.waits.take q)) (L + d, p2) = layAll L out (s.waits.take q) := by
                unfold layOne
                simp only [Nat.add_sub_cancel_left, Nat.le_add_right, true_and]
                rw [if_neg (by rw [layAll_len, HLEN.out]; exact h2)]
              rw [e] at HLS
              clear e hdd
              go_wp2_with fail
              go_roundw
              case rel => exact ⟨q + 1, by omega, by go_num, by rw [HLS.out]; exact HO.out, HK.out⟩
              case measure => simp [intOf]; omega
          · have e : layOne L (layAll L out (s.waits.take q)) (p1, p2) = layAll L out (s.waits.take q) := by
              unfold layOne
              rw [if_neg (by simp; omega)]
            rw [e] at HLS
            clear e
            go_wp2_with fail
            go_roundw
            case rel => exact ⟨q + 1, by omega, by go_num, by rw [HLS.out]; exact HO.out, HK.out⟩
            case measure => simp [intOf]; omega
        · obtain rfl : q = s.waits.length := by omega
          go_wp2_with fail
          go_ret2
          refine ⟨_, 0, 0, rfl, ?_, HK1.out.trans HK.out fun b hb hx => by unfold From at hx; omega⟩
          have h9 := HO.out
          rw [List.take_of_length_le (Nat.le_refl _), HLAY.out] at h9
          exact h9
    · go_enter Try.func36, Try.ntmps36
      go_wp2_with fail
      refine (rmay_any i k (by omega) HD.out).mono ?_
      rintro e w' ⟨rfl, rfl⟩
      rw [HZ.out]
      have hcA : (w.alloc (.cells #[] 5)).cell? ⟨D, 0, none⟩ = some (.slice (some ⟨K, 0, none⟩) L L) := (Keep.alloc w _).cell_some c0 fun hb => hb
      go_wp2_with (at_builtin; refine wpList_append_rd _ rfl (.tmp 19) (.tmp 28) _ rfl w.heap.size 5 i0 _ 1 1 Try.underlying22 hi0 hz0 hz1 hz2 rfl (by omega) (.slice (some ⟨w.heap.size, 0, none⟩) 0 0) 0 [] rfl (World.ownsRow_made w _ 0 (Nat.le_refl _) (Nat.zero_le _) rfl) (fun b => b < w.heap.size) (some ⟨K, i, none⟩) (i + k - i) (L - i) (out.map bv) rfl ?qa ?qb (one_bv out) (by simp only [maxLen]; omega) (by omega) (by simp) ?qc)
      case qa => simp [HLEN.out]
      case qb => exact HPi.out.keep0 (Keep.alloc _ _)
      case qc =>
        intro A1 c1' w1 hown1 hg1 _
        have e9 : i + k - i = k := by omega
        try rw [Nat.zero_add] at hown1
        try rw [e9] at hown1
        try simp only [e9, Nat.zero_add]
        have hO1 : Own w1 w.heap.size 5 A1 k c1' (out.map bv) := by unfold Own; simpa using hown1
        have hk1 : Keep0 w w1 := ((Keep.refl _ _).alloc' _).grown hg1 (by simp [Value.ownBlock])
        have HO1 := Lib.hid hO1
        have HK1 := Lib.hid hk1
        clear hown1 hg1 hO1 hk1 c0 hcA c1
        go_wp2_with fail
        go_loopw [10] (fun j wr => ∃ q : Nat, q ≤ s.waits.length ∧ j = .int .i64 q ∧ Own wr w.heap.size 5 A1 k c1' ((layAll i out (s.waits.take q)).map bv) ∧ Keep (From w.heap.size) w1 wr) (fun j _ => s.waits.length - (intOf j).toNat)
        case atStart => exact ⟨0, Nat.zero_le _, rfl, HO1.out, Keep.refl _ _⟩
        case round =>
          obtain ⟨q, hq, rfl, hown, hkr⟩ := hrel
          have hc1 := HC0.out w1 HK1.out wr hkr
          have HO := Lib.hid hown
          have HK := Lib.hid hkr
          clear hown hkr
          by_cases hlt : q < s.waits.length
          · obtain ⟨g, rfl, hp0, hp1⟩ := HPL.out w1 HK1.out wr HK.out q hlt
            have hls := lay_take_succ i out s.waits q hlt
            obtain ⟨p, hpe⟩ : ∃ p, p = s.waits[q] := ⟨_, rfl⟩
            have hpb := H.out.ok.pend p (by rw [hpe]; exact List.getElem_mem hlt)
            rw [← hpe] at hp0 hp1 hls
            obtain ⟨p1, p2⟩ := p
            simp only at hp0 hp1 hpb
            have HLS := Lib.hid hls
            have hp65 : p1 < 65536 := by have := H.out.ok.size; omega
            clear hls hpe hpb
            have hqq : (q : Int) < (s.waits.length : Int) := by omega
            by_cases h1 : i ≤ p1
            · obtain ⟨d, rfl⟩ : ∃ d, p1 = i + d := ⟨p1 - i, by omega⟩
              have hdd : ((i + d : Nat) : Int) - (i : Int) = (d : Int) := by omega
              by_cases h2 : d < k
              · have e : layOne i (layAll i out (s.waits.take q)) (i + d, p2) = (layAll i out (s.waits.take q)).set d p2 := by
                  unfold layOne
                  simp only [Nat.add_sub_cancel_left, Nat.le_add_right, true_and]
                  rw [if_pos (by rw [layAll_len, HLEN.out]; exact h2)]
                rw [e] at HLS
                obtain ⟨g', rfl, hgb, hg, ⟨u, hcu, _⟩, hfz, hset⟩ := HO.out.set_ h2
                have hfin := hset (bv p2)
                rw [← List.map_set, ← HLS.out] at hfin
                have e2 : bv p2 = .int .u8 (p2.toNat : Int) := rfl
                rw [e2] at hfin
                have HF := Lib.hid hfin
                have HKF := Lib.hid (HK.out.andThen (Keep.setCell (S := From w.heap.size) wr ⟨g', d, none⟩ (.int .u8 (p2.toNat : Int)) hgb))
                clear hset hfin e e2 hdd
                go_wp2_with fail
                go_roundw
                case rel => exact ⟨q + 1, by omega, by go_num, HF.out, HKF.out⟩
                case measure => simp [intOf]; omega
              · have e : layOne i (layAll i out (s.waits.take q)) (i + d, p2) = layAll i out (s.waits.take q) := by
                  unfold layOne
                  simp only [Nat.add_sub_cancel_left, Nat.le_add_right, true_and]
                  rw [if_neg (by rw [layAll_len, HLEN.out]; exact h2)]
                rw [e] at HLS
                clear e hdd
                go_wp2_with fail
                go_roundw
                case rel => exact ⟨q + 1, by omega, by go_num, by rw [HLS.out]; exact HO.out, HK.out⟩
                case measure => simp [intOf]; omega
            · have e : layOne i (layAll i out (s.waits.take q)) (p1, p2) = layAll i out (s.waits.take q) := by
                unfold layOne
                rw [if_neg (by simp; omega)]
              rw [e] at HLS
              clear e
              go_wp2_with fail
              go_roundw
              case rel => exact ⟨q + 1, by omega, by go_num, by rw [HLS.out]; exact HO.out, HK.out⟩
              case measure => simp [intOf]; omega
          · obtain rfl : q = s.waits.length := by omega
            go_wp2_with fail
            go_ret2
            refine ⟨A1, k, c1', rfl, ?_, HK1.out.trans HK.out fun b hb hx => by unfold From at hx; omega⟩
            have h9 := HO.out
            rw [List.take_of_length_le (Nat.le_refl _), HLAY.out] at h9
            exact h9
  · have e : s.readL a n = [] := by unfold DSt.readL; rw [if_neg hz]
    rw [e]
    have hz1 : (s.ask a n == 0) = false := by simpa using hz
    have hz2 : (s.ask a n != 0) = true := by simpa using hz
    clear e hz hd
    go_enter Try.func36, Try.ntmps36
    go_wp2_with fail
    refine (rmay_any a n ha HD.out).mono ?_
    rintro e w' ⟨rfl, rfl⟩
    go_wp2_with fail
    go_ret2
    exact ⟨none, 0, 0, rfl, own_nil _ _ _, Keep.refl _ _⟩
end
end Go.Proofs.Ytbdencfgiemliaa
