/-
  The walk of WalFull: it returns true and changes nothing that was there; for any two numbers.
-/
import Derived.Test.YtbdencfgiemliaaWal24
import Derived.Test.YtbdencfgiemliaaWalLaw
namespace Go.Proofs.Ytbdencfgiemliaa
open Go.RowKit
set_option linter.unusedVariables false
set_option linter.unusedSimpArgs false
set_option maxRecDepth 20000
set_option maxHeartbeats 4000000
theorem Own.slNew {w w' : World} {X : Nat → Prop} {k : Nat} {l : List UInt8} (h : Own w' w.heap.size 5 (some ⟨w.heap.size, 0, none⟩) k k (l.map bv)) : Sl w' (New X w w') (some ⟨w.heap.size, 0, none⟩) k k l :=
  h.sl.mono fun b hb hx => .inr ⟨hx, hb⟩
theorem walFull_walk (size n : Int) (w : World) (hs : -9223372036854775808 ≤ size ∧ size ≤ 9223372036854775807) (hn : -9223372036854775808 ≤ n ∧ n ≤ 9223372036854775807) :
    Calls Try.prog 10 #[.int .i64 size, .int .i64 n] w fun e w' => e = .returned (.bool true) ∧ Keep0 w w' := by
  by_cases h1 : size < 48
  · go_enter Try.func10, Try.ntmps10
    go_wp2_with fail
    refine (small18 w).mono ?_
    rintro e w1 ⟨rfl, hk1⟩
    go_wp2_with fail
    go_ret
    exact ⟨rfl, hk1⟩
  by_cases h2 : 400 < size
  · go_enter Try.func10, Try.ntmps10
    go_wp2_with fail
    refine (small18 w).mono ?_
    rintro e w1 ⟨rfl, hk1⟩
    go_wp2_with fail
    go_ret
    exact ⟨rfl, hk1⟩
  by_cases h3 : n < 0
  · go_enter Try.func10, Try.ntmps10
    go_wp2_with fail
    refine (small18 w).mono ?_
    rintro e w1 ⟨rfl, hk1⟩
    go_wp2_with fail
    go_ret
    exact ⟨rfl, hk1⟩
  by_cases h4 : 60 < n
  · go_enter Try.func10, Try.ntmps10
    go_wp2_with fail
    refine (small18 w).mono ?_
    rintro e w1 ⟨rfl, hk1⟩
    go_wp2_with fail
    go_ret
    exact ⟨rfl, hk1⟩
  obtain ⟨L, rfl⟩ := Int.eq_ofNat_of_zero_le (show 0 ≤ size by omega)
  obtain ⟨N, rfl⟩ := Int.eq_ofNat_of_zero_le (show 0 ≤ n by omega)
  have hL1 : 48 ≤ L := by omega
  have hL2 : L ≤ 400 := by omega
  have hN2 : N ≤ 60 := by omega
  obtain ⟨hf, hhf⟩ : ∃ hf, hf = L / 2 := ⟨_, rfl⟩
  have hf1 : 24 ≤ hf := by omega
  have hf2 : hf ≤ 200 := by omega
  have hdiv : (L : Int) / 2 = (hf : Int) := by omega
  have HHF := Lib.hid hhf
  clear hhf
  go_enter Try.func10, Try.ntmps10
  go_wp2_with fail
  refine (small18 w).mono ?_
  rintro e w1 ⟨rfl, hk1⟩
  have HK1 := Lib.hid hk1
  clear hk1
  go_wp2_with fail
  refine (one_new (L : Int) w1).mono ?_
  rintro e w2 ⟨D, rfl, h2⟩
  rw [newSize_nat rfl (by omega)] at h2
  have H2 := Lib.hid h2
  clear h2
  go_wp2_with fail
  refine (one_open (by omega) (by rw [show (DSt.new L).kept.length = L from List.length_replicate]; exact hL1) H2.out).mono ?_
  rintro e w3 ⟨⟨h0, _⟩ | ⟨_, G, rfl, h3⟩, _⟩
  · exact absurd (new_open hL1).1 h0
  have h3' : ∃ kk : List UInt8, kk.length = L ∧ OneL w1 w3 D G (calm kk) ⟨0, 1, 10, [], [], false⟩ 8 Nil := by
    rw [(new_open hL1).2.1, (new_open hL1).2.2] at h3
    exact ⟨_, by rw [pokes_len, List.length_replicate], h3⟩
  have H3 := Lib.hid h3'
  clear h3 h3'
  go_wp2_with fail
  go_loopw [9, 10] (fun cnt i wr => ∃ (k P : Nat) (kk : List UInt8), cnt = .int .i64 k ∧ i = .int .i64 k ∧ Hid (P = k * (N + 5)) ∧ 5 * k ≤ P ∧ 10 + P ≤ hf ∧ Hid (kk.length = L) ∧
      Hid (OneL w1 wr D G (calm kk) ⟨0, 1, 10 + P, [], List.replicate k (List.replicate N 0), false⟩ (8 + 2 * k) Nil)) (fun _ i _ => 100 - (intOf i).toNat)
  case atStart =>
    obtain ⟨kk, hkk, h⟩ := H3.out
    exact ⟨0, 0, kk, rfl, rfl, by show 0 = 0 * (N + 5); omega, by omega, by omega, hkk, h⟩
  case round =>
    obtain ⟨k, P, kk, rfl, rfl, HP, h5, h10, HKL, HO⟩ := hrel
    have hk100 : k < 100 := by omega
    obtain ⟨w4, hmk, ho4, hk4, hs4⟩ := make_zeros (w := wr) (N : Int) N rfl (by omega)
    have HO4 := Lib.hid ho4
    have HK4 := Lib.hid hk4
    have HS4 := Lib.hid hs4
    clear ho4 hk4 hs4
    have hkl2 : kk.length / 2 = hf := by rw [HKL.out, HHF.out]
    have HKL2 := Lib.hid hkl2
    clear hkl2
    by_cases hroom : 10 + P + (N + 5) ≤ hf
    · go_wp2_with fail
      refine (one_append (List.replicate N 0) _ N N HO4.out.slNew (by omega) (by omega) (by have := HKL.out; show 48 ≤ kk.length; omega) (by rw [List.length_replicate]; omega) (by have := HKL2.out; show 10 + P + (N + 5) ≤ kk.length / 2; omega) rfl (HO.out.add HK4.out)).mono ?_
      rintro e w5 ⟨he, h6, _⟩
      have hc := calm_append (k := kk) (half := 0) (stop := 10 + P) (l := List.replicate N 0) (by omega) (by rw [List.length_replicate, HKL2.out]; exact hroom)
      have he' : e = .returned (.int .i64 0) := by rw [he]; exact ret_i hc.1
      subst he'
      have h7 : OneL w1 w5 D G ((calm kk).steps (appendOps (kk.length / 2) 0 (10 + P) (List.replicate N 0))) (pickL ((calm kk).stepsE (appendOps (kk.length / 2) 0 (10 + P) (List.replicate N 0))) ⟨0, 1, 10 + P + (N + 5), [], List.replicate k (List.replicate N 0) ++ [List.replicate N 0], false⟩ _) (8 + 2 * k + 2) Nil := h6.less fun b hb => hb.elim
      rw [hc.1, hc.2, pickL_0] at h7
      have h7' : ∃ kk' : List UInt8, kk'.length = L ∧ OneL w1 w5 D G (calm kk') ⟨0, 1, 10 + P + (N + 5), [], List.replicate k (List.replicate N 0) ++ [List.replicate N 0], false⟩ (8 + 2 * k + 2) Nil := ⟨_, by rw [pokes_len]; exact HKL.out, h7⟩
      obtain ⟨kk', hkk', h8⟩ := h7'
      have H7 := Lib.hid h8
      have HKK' := Lib.hid hkk'
      clear he h6 hc h7 h8 hkk' hmk
      go_wp2_with fail
      go_roundw
      case rel =>
        refine ⟨k + 1, P + (N + 5), kk', by go_num, by go_num, ?_, by omega, by omega, ?_, ?_⟩
        · show P + (N + 5) = (k + 1) * (N + 5)
          rw [HP.out, Nat.succ_mul]
        · exact HKK'.out
        · have h8 := H7.out
          rw [← List.replicate_succ', Nat.add_assoc 10 P (N + 5)] at h8
          exact h8
      case measure => simp [intOf]; omega
    · obtain ⟨E, hE⟩ : ∃ E : Int, E = ((calm kk).kept.length / 2 : Nat) - ((10 + P : Nat) : Int) := ⟨_, rfl⟩
      have hmay : (⟨0, 1, 10 + P, [], List.replicate k (List.replicate N 0), false⟩ : LSt).may N (((kk.length / 2 : Nat) : Int) - ((10 + P : Nat) : Int)) = 2 := by
        unfold LSt.may
        rw [HKL2.out, if_neg (by simp), if_neg (by omega), if_pos (by omega)]
      have HMAY := Lib.hid hmay
      go_wp2_with fail
      refine (one_appendNo _ N N (by omega) (by rw [show (calm kk).kept = kk from rfl]; rw [show ((⟨0, 1, 10 + P, [], List.replicate k (List.replicate N 0), false⟩ : LSt).stop) = 10 + P from rfl, HMAY.out]; decide) (HO.out.keep0 HK4.out)).mono ?_
      rintro e w5 ⟨he, hk5⟩
      have he' : e = .returned (.int .i64 2) := by rw [he]; exact ret_i HMAY.out
      subst he'
      have HO5 := Lib.hid ((HO.out.keep0 HK4.out).keep0 hk5)
      clear he hk5 hmay hmk hE
      go_wp2_with fail
      obtain ⟨left, hleft⟩ : ∃ left : Int, left = (hf : Int) - 10 - (P : Int) := ⟨_, rfl⟩
      have hlw : wrap64 ((hf : Int) - 10 - wrap64 ((k : Int) * ((N : Int) + 5))) = left := by
        have hp : (k : Int) * ((N : Int) + 5) = (P : Int) := by rw [HP.out]; push_cast; rfl
        rw [hp, show wrap64 (P : Int) = (P : Int) by unfold wrap64; omega, hleft]
        unfold wrap64
        omega
      rw [hlw]
      have hl0 : 0 ≤ left := by omega
      have hl1 : left < (N : Int) + 5 := by omega
      have hl2 : left ≤ 9223372036854775807 := by omega
      have hrv : (((calm kk).kept.length / 2 : Nat) : Int) - ((10 + P : Nat) : Int) = left := by
        rw [show (calm kk).kept = kk from rfl, HKL2.out, hleft]; omega
      have HRV := Lib.hid hrv
      have HLE := Lib.hid hleft
      clear hlw hrv hleft
      obtain ⟨FD5, hd5⟩ := HO5.out.dsk
      obtain ⟨FL5, hl5⟩ := HO5.out.log
      have HD5 := Lib.hid hd5
      have HL5 := Lib.hid hl5
      clear hd5 hl5
      refine (LRep.room HD5.out HL5.out).mono ?_
      rintro e w6 ⟨he, hk6⟩
      have he' : e = .returned (.int .i64 left) := by rw [he]; exact ret_i HRV.out
      subst he'
      have HK6 := Lib.hid hk6
      clear he hk6
      go_wp2_with fail
      refine (records_any (by rw [List.length_replicate]; omega) (HL5.out.keep0 HK6.out)).mono ?_
      rintro e w7 ⟨A7, n7, c7, rfl, hb7, hk7⟩
      obtain rfl : n7 = k := by rw [← hb7.len]; exact List.length_replicate
      have HK7 := Lib.hid (HK6.out.and0 hk7)
      obtain ⟨w8, hmk, ho8, hk8, hs8⟩ := make_zeros (w := w7) (N : Int) N rfl (by omega)
      have HK8 := Lib.hid (HK7.out.and0 hk8)
      clear hb7 hk7 ho8 hk8 hs8
      go_wp2_with fail
      refine (append_no _ N N (by omega) (by rw [show (calm kk).kept = kk from rfl]; rw [show ((⟨0, 1, 10 + P, [], List.replicate n7 (List.replicate N 0), false⟩ : LSt).stop) = 10 + P from rfl, HMAY.out]; decide) (HD5.out.keep0 HK8.out) (HL5.out.keep0 HK8.out)).mono ?_
      rintro e w9 ⟨he, hk9⟩
      have he' : e = .returned (.int .i64 2) := by rw [he]; exact ret_i HMAY.out
      subst he'
      have HK9 := Lib.hid (HK8.out.and0 hk9)
      clear he hk9 hmk
      go_wp2_with fail
      refine (LRep.room (HD5.out.keep0 HK9.out) (HL5.out.keep0 HK9.out)).mono ?_
      rintro e w10 ⟨he, hk10⟩
      have he' : e = .returned (.int .i64 left) := by rw [he]; exact ret_i HRV.out
      subst he'
      have HK10 := Lib.hid (HK9.out.and0 hk10)
      obtain ⟨w11, hmk, ho11, hk11, hs11⟩ := make_zeros (w := w10) (N : Int) N rfl (by omega)
      have HK11 := Lib.hid (HK10.out.and0 hk11)
      have HO11 := Lib.hid ho11
      have HK1011 := Lib.hid hk11
      clear he hk10 ho11 hk11 hs11
      go_wp2_with fail
      have h48 : 48 ≤ (calm kk).kept.length := by have := HKL.out; show 48 ≤ kk.length; omega
      by_cases hcm : N + 10 ≤ hf
      · refine (one_compact (List.replicate N 0) _ N N HO11.out.slNew (by omega) (by omega) h48 ⟨show (0 : Int) ≤ 1 by omega, show (1 : Int) ≤ 4294967296 by omega⟩ (by have := HKL2.out; show N + 10 ≤ kk.length / 2; omega) rfl ((HO5.out.keep0 HK10.out).add HK1011.out)).mono ?_
        rintro e w12 ⟨he, h12, _⟩
        have hc := calm_compact (k := kk) (half := 1) (turn := 2) (l := List.replicate N 0) h48 (by omega) (by rw [List.length_replicate, HKL2.out]; exact hcm)
        have he' : e = .returned (.int .i64 0) := by rw [he]; exact ret_i hc.1
        subst he'
        have h13 : OneL w1 w12 D G ((calm kk).steps (compactOps (kk.length / 2) 1 2 (List.replicate N 0))) (pickL ((calm kk).stepsE (compactOps (kk.length / 2) 1 2 (List.replicate N 0))) ⟨1, 2, N + 10, List.replicate N 0, [], false⟩ _) (8 + 2 * n7 + 8) Nil := h12.less fun b hb => hb.elim
        rw [hc.1, hc.2, pickL_0] at h13
        obtain ⟨k2, hk2⟩ : ∃ k2, k2 = pokes kk (compactW (kk.length / 2) 1 2 (List.replicate N 0)) := ⟨_, rfl⟩
        rw [← hk2] at h13
        have hkl : (calm k2).kept.length / 2 = hf := by
          have h0 : k2.length = kk.length := by rw [hk2, pokes_len]
          show k2.length / 2 = hf
          rw [h0, HKL2.out]
        obtain ⟨sf, hsf⟩ : ∃ sf, sf = calm k2 := ⟨_, rfl⟩
        rw [← hsf] at h13 hkl
        obtain ⟨FD, hd⟩ := h13.dsk
        obtain ⟨FL, hl⟩ := h13.log
        have HD := Lib.hid hd
        have HL := Lib.hid hl
        have HK12 := Lib.hid h13.keep
        have hrv : ((sf.kept.length / 2 : Nat) : Int) - ((N + 10 : Nat) : Int) = (hf : Int) - 10 - (N : Int) := by rw [hkl]; omega
        have HRV2 := Lib.hid hrv
        have hng : ¬ ((hf : Int) < (N : Int) + 10) := by omega
        clear he h12 hc h13 hkl hsf hd hl hrv hmk hk2
        go_wp2_with fail
        refine (LRep.room HD.out HL.out).mono ?_
        rintro e w13 ⟨he, hk13⟩
        have he' : e = .returned (.int .i64 ((hf : Int) - 10 - (N : Int))) := by rw [he]; exact ret_i HRV2.out
        subst he'
        have HK13 := Lib.hid hk13
        clear he hk13
        go_wp2_with fail
        refine (records_any (Nat.zero_le _) (HL.out.keep0 HK13.out)).mono ?_
        rintro e w14 ⟨A14, n14, c14, rfl, hb14, hk14⟩
        obtain rfl : n14 = 0 := by rw [← hb14.len]; rfl
        have HK14 := Lib.hid (HK13.out.and0 hk14)
        clear hb14 hk14
        go_wp2_with fail
        refine (HL.out.keep0 HK14.out).turn_.mono ?_
        rintro e w' ⟨rfl, rfl⟩
        go_wp2_with fail
        go_ret
        exact ⟨rfl, (HK1.out.and0 HK12.out).and0 HK14.out⟩
      · have hmay2 : (⟨0, 1, 10 + P, [], List.replicate n7 (List.replicate N 0), false⟩ : LSt).may N (((kk.length / 2 : Nat) : Int) - 5) = 2 := by
          unfold LSt.may
          rw [HKL2.out, if_neg (by simp), if_neg (by omega), if_pos (by omega)]
        refine (compactM_no _ N N (by omega) h48 (by rw [show (calm kk).kept = kk from rfl, hmay2]; decide) (HD5.out.keep0 HK11.out) (HL5.out.keep0 HK11.out)).mono ?_
        rintro e w12 ⟨he, hk12⟩
        have he' : e = .returned (.int .i64 2) := by rw [he]; exact ret_i hmay2
        subst he'
        have HK12 := Lib.hid (HK11.out.and0 hk12)
        have hng : (hf : Int) < (N : Int) + 10 := by omega
        clear he hk12 hmay2 hmk
        go_wp2_with fail
        refine (records_any (by rw [List.length_replicate]; omega) (HL5.out.keep0 HK12.out)).mono ?_
        rintro e w13 ⟨A13, n13, c13, rfl, hb13, hk13⟩
        obtain rfl : n13 = n7 := by rw [← hb13.len]; exact List.length_replicate
        have HK13 := Lib.hid (HK12.out.and0 hk13)
        clear hb13 hk13
        go_wp2_with fail
        go_ret
        exact ⟨rfl, (HK1.out.and0 HO5.out.keep).and0 HK13.out⟩
end Go.Proofs.Ytbdencfgiemliaa
