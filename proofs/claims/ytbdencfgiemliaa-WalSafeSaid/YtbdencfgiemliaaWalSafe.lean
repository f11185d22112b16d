/-
  The walk of WalSafe: it returns true and changes nothing that was there; for any numbers and slices that read as pairs of numbers and as numbers.
-/
import Derived.Test.YtbdencfgiemliaaWal24
import Derived.Test.YtbdencfgiemliaaWal25
namespace Go.Proofs.Ytbdencfgiemliaa
open Go.RowKit
set_option linter.unusedVariables false
set_option linter.unusedSimpArgs false
theorem may_two {x : LSt} {n : Nat} {room : Int} (hb : x.broken = false) (hn : n ≤ 8192) (hr : room < (n : Int) + 5) : x.may n room = 2 := by
  unfold LSt.may
  rw [hb, if_neg (by decide), if_neg (by omega), if_pos hr]
set_option maxRecDepth 20000
set_option maxHeartbeats 8000000
theorem walSafe_walk (size stop keep : Int) (Z : Nat → Nat → Int) (A : Option Addr) (n c : Nat) (zs : List Int) (F : Nat → Prop) (SA : Option Addr) (sn sc : Nat) (w : World) (hsz : -9223372036854775808 ≤ size ∧ size ≤ 9223372036854775807) (hstop : -9223372036854775808 ≤ stop ∧ stop ≤ 9223372036854775807)
    (hm : n ≤ maxLen) (hz : ∀ i j, i < n → j < 2 → -9223372036854775808 ≤ Z i j ∧ Z i j ≤ 9223372036854775807)
    (hc : 0 < n → 0 < 2 → ∃ b o, A = some ⟨b, o, none⟩ ∧ b < w.heap.size ∧ ∀ i j, i < n → j < 2 → w.cell? ⟨b, o + (i * 2 + j), none⟩ = some (.int .i64 (Z i j)))
    (hzs : ∀ z ∈ zs, -9223372036854775808 ≤ z ∧ z ≤ 9223372036854775807) (hsn : zs.length = sn) (hsm : sn ≤ maxLen) (hrd : Rd w F SA (zs.map (Value.int .i64))) (hF : ∀ b, F b → b < w.heap.size) :
    Calls Try.prog 13 #[.int .i64 size, .slice A n c, .int .i64 stop, .int .i64 keep, .slice SA sn sc] w fun e w' => e = .returned (.bool true) ∧ Keep0 w w' := by
  have HC := Lib.hid hc
  have HZ := Lib.hid hz
  have HZS := Lib.hid hzs
  have HSN := Lib.hid hsn
  have HRD := Lib.hid hrd
  have HF := Lib.hid hF
  unfold maxLen at hm hsm
  clear hc hz hzs hsn hrd hF
  by_cases g0 : 600 < size
  · go_enter Try.func13, Try.ntmps13
    go_wp2_with fail
    refine (small18 w).mono ?_
    rintro e w1 ⟨rfl, hk1⟩
    go_wp2_with fail
    go_ret
    exact ⟨rfl, hk1⟩
  by_cases g1 : 30 < n
  · go_enter Try.func13, Try.ntmps13
    go_wp2_with fail
    refine (small18 w).mono ?_
    rintro e w1 ⟨rfl, hk1⟩
    go_wp2_with fail
    go_ret
    exact ⟨rfl, hk1⟩
  by_cases g2 : 10 < sn
  · go_enter Try.func13, Try.ntmps13
    go_wp2_with fail
    refine (small18 w).mono ?_
    rintro e w1 ⟨rfl, hk1⟩
    go_wp2_with fail
    go_ret
    exact ⟨rfl, hk1⟩
  by_cases g3 : keep < -10
  · go_enter Try.func13, Try.ntmps13
    go_wp2_with fail
    refine (small18 w).mono ?_
    rintro e w1 ⟨rfl, hk1⟩
    go_wp2_with fail
    go_ret
    exact ⟨rfl, hk1⟩
  by_cases g4 : 5000 < keep
  · go_enter Try.func13, Try.ntmps13
    go_wp2_with fail
    refine (small18 w).mono ?_
    rintro e w1 ⟨rfl, hk1⟩
    go_wp2_with fail
    go_ret
    exact ⟨rfl, hk1⟩
  obtain ⟨L, hL⟩ : ∃ L, L = newSize size := ⟨_, rfl⟩
  have hL6 : L ≤ 600 := by rw [hL]; unfold newSize; omega
  have HL := Lib.hid hL
  clear hL
  by_cases h48 : L < 48
  · go_enter Try.func13, Try.ntmps13
    go_wp2_with fail
    refine (small18 w).mono ?_
    rintro e w1 ⟨rfl, hk1⟩
    have HK1 := Lib.hid hk1
    clear hk1
    go_wp2_with fail
    refine (one_new size w1).mono ?_
    rintro e w2 ⟨D, rfl, h2⟩
    rw [← HL.out] at h2
    have H2 := Lib.hid h2
    clear h2
    go_wp2_with fail
    refine (new_any size w2).mono ?_
    rintro e w3 ⟨D2, rfl, hd3, hk3⟩
    rw [← HL.out] at hd3
    have H3 := Lib.hid (H2.out.keep0 hk3)
    have HD3 := Lib.hid hd3
    clear hd3 hk3
    go_wp2_with fail
    obtain ⟨FD, hd, _⟩ := H3.out.dsk
    refine (open_small (by rw [show (DSt.new L).kept.length = L from List.length_replicate]; exact h48) hd).mono ?_
    rintro e w4 ⟨rfl, rfl⟩
    clear hd
    go_wp2_with fail
    refine (open_small (by rw [show (DSt.new L).kept.length = L from List.length_replicate]; exact h48) HD3.out).mono ?_
    rintro e w4' ⟨rfl, rfl⟩
    go_wp2_with fail
    go_ret
    exact ⟨rfl, HK1.out.and0 H3.out.keep⟩
  have hL48 : 48 ≤ L := by omega
  go_enter Try.func13, Try.ntmps13
  go_wp2_with fail
  refine (small18 w).mono ?_
  rintro e w1 ⟨rfl, hk1⟩
  have HK1 := Lib.hid hk1
  clear hk1
  go_wp2_with fail
  refine (one_new size w1).mono ?_
  rintro e w2 ⟨D, rfl, h2⟩
  rw [← HL.out] at h2
  have H2 := Lib.hid h2
  clear h2
  go_wp2_with fail
  refine (new_any size w2).mono ?_
  rintro e w3 ⟨D2, rfl, hd3, hk3⟩
  rw [← HL.out] at hd3
  have H3 := Lib.hid (Two.mk_ (T := dskT D2 (DSt.new L) 0) H2.out hd3 (fun b hb => hb) hk3).swap
  clear hd3 hk3
  obtain ⟨no1, no2, no3⟩ := new_open hL48
  have hnl : 48 ≤ (DSt.new L).kept.length := by rw [show (DSt.new L).kept.length = L from List.length_replicate]; exact hL48
  have HNL := Lib.hid hnl
  have NO1 := Lib.hid no1
  have NO2 := Lib.hid no2
  have NO3 := Lib.hid no3
  clear no1 no2 no3 hnl
  go_wp2_with fail
  refine (two_open (by omega) HNL.out NO1.out H3.out).mono ?_
  rintro e w4 ⟨G, rfl, h4⟩
  have H4 := Lib.hid h4.swap
  clear h4
  go_wp2_with fail
  refine (two_open (by omega) HNL.out NO1.out H4.out).mono ?_
  rintro e w5 ⟨G2, rfl, h5⟩
  have h5' : ∃ (k : List UInt8) (nn : Nat), k.length = L ∧ Half k ⟨0, 1, 10, [], [], false⟩ (List.replicate nn 0) ∧ Two w1 w5 (dlT D G (calm k) ⟨0, 1, 10, [], [], false⟩ 8) (dlT D2 G2 (calm k) ⟨0, 1, 10, [], [], false⟩ 8) Nil := by
    have h6 := h5.swap
    rw [NO2.out, NO3.out] at h6
    exact ⟨_, _, by rw [pokes_len, List.length_replicate], new_half hL48 (by omega), h6⟩
  have H5 := Lib.hid h5'
  clear h5 h5'
  go_wp2_with fail
  obtain ⟨k0, nn0, hk0l, hhalf0, htwo0⟩ := H5.out
  have HTWO0 := Lib.hid htwo0
  have HHALF0 := Lib.hid hhalf0
  have HK0L := Lib.hid hk0l
  clear htwo0 hhalf0 hk0l
  refine (two_armL stop hstop.2 HTWO0.out).mono ?_
  rintro e w6 ⟨rfl, h6, -⟩
  have h6' : Two w1 w6 (dlT D G (up k0 stop.toNat) ⟨0, 1, 10, [], [], false⟩ 8) (dlT D2 G2 (calm k0) ⟨0, 1, 10, [], [], false⟩ 8) Nil := h6
  have H6 := Lib.hid h6'
  clear h6 h6'
  go_wp2_with fail
  refine (two_told (Nat.zero_le _) H6.out).mono ?_
  rintro e w7 ⟨rfl, hk7⟩
  have H7 := Lib.hid (H6.out.keep0 hk7)
  clear hk7
  go_wp2_with fail
  go_loopw [18, 19, 20] (fun wa ma i wr => ∃ (j nn a m : Nat) (k : List UInt8) (x : LSt), j ≤ n ∧ i = .int .i64 j ∧ wa = .string (strB x.told) ∧ ma = .string (strB x.told) ∧ m ≤ 8 + 8 * j ∧
      Hid (k.length = L ∧ Half k x (List.replicate nn 0) ∧ x.turn ≤ 1 + (j : Int) ∧ Two w1 wr (dlT D G (up k a) x m) (dlT D2 G2 (calm k) x m) Nil)) (fun _ _ i _ => n - (intOf i).toNat)
  case atStart => exact ⟨0, nn0, stop.toNat, 8, k0, _, Nat.zero_le _, rfl, rfl, rfl, by omega, HK0L.out, HHALF0.out, by show (1 : Int) ≤ 1 + ((0 : Nat) : Int); omega, H7.out⟩
  case round =>
    obtain ⟨j, nn, a, m, k, x, hj, rfl, rfl, rfl, hmj, HI⟩ := hrel
    have hn30 : j ≤ 30 := by omega
    by_cases hlt : j < n
    · obtain ⟨b, o, rfl, hblt0, hcell⟩ := HC.out (by omega) (by omega)
      have hbw : b < w1.heap.size := Nat.lt_of_lt_of_le hblt0 HK1.out.size
      clear hblt0
      have hkw : Keep0 w wr := HK1.out.and0 HI.out.2.2.2.keep
      have hcw : ∀ q, q < 2 → wr.cell? ⟨b, o + (j * 2 + q), none⟩ = some (.int .i64 (Z j q)) := fun q hq => hkw.cell_some (hcell j q hlt hq) fun hb => hb
      have hc0 : wr.cell? ⟨b, o + j * 2, none⟩ = some (.int .i64 (Z j 0)) := hcw 0 (by omega)
      have hc1 : wr.cell? ⟨b, o + j * 2 + 1, none⟩ = some (.int .i64 (Z j 1)) := hcw 1 (by omega)
      have hz1 := HZ.out j 1 hlt (by omega)
      clear hcell hcw hkw
      generalize Z j 0 = z0 at hc0
      generalize Z j 1 = z1 at hc1 hz1
      obtain ⟨i1, i2, i3, i4⟩ := HI.out
      have hbr := i2.ok
      have hh := i2.half
      have htu := i2.turn
      have hrc := i2.recs_le
      have hkz : k.length / 2 = L / 2 := by rw [i1]
      have hbl := bytesL_len z1
      have hb32 := (byteN_eq z1).2
      have HBR := Lib.hid hbr
      have HHF := Lib.hid i2
      have HKL := Lib.hid i1
      have HTW := Lib.hid i4
      have HTU := Lib.hid i3
      have HTB := Lib.hid htu
      have HRC := Lib.hid hrc
      have HBL := Lib.hid hbl
      have HC0 := Lib.hid hc0
      have HC1 := Lib.hid hc1
      have HZ1 := Lib.hid hz1
      have HKZ := Lib.hid hkz
      clear HI i1 i2 i3 i4 hbr hh htu hrc hbl hkz hz1
      have hcr : ∀ W, Keep0 wr W → W.cell? ⟨b, o + j * 2, none⟩ = some (.int .i64 z0) ∧ W.cell? ⟨b, o + j * 2 + 1, none⟩ = some (.int .i64 z1) := fun W hW => ⟨hW.cell_some HC0.out fun hb => hb, hW.cell_some HC1.out fun hb => hb⟩
      have hcs : ∀ W, Keep0 w1 W → W.cell? ⟨b, o + j * 2, none⟩ = some (.int .i64 z0) ∧ W.cell? ⟨b, o + j * 2 + 1, none⟩ = some (.int .i64 z1) := fun W hW => by
        have e0 := HTW.out.keep.cell (p := ⟨b, o + j * 2, none⟩) hbw fun hb => hb
        have e1 := HTW.out.keep.cell (p := ⟨b, o + j * 2 + 1, none⟩) hbw fun hb => hb
        have f0 := hW.cell (p := ⟨b, o + j * 2, none⟩) hbw fun hb => hb
        have f1 := hW.cell (p := ⟨b, o + j * 2 + 1, none⟩) hbw fun hb => hb
        exact ⟨by rw [f0, ← e0]; exact HC0.out, by rw [f1, ← e1]; exact HC1.out⟩
      have HCS := Lib.hid hcs
      clear hcr hcs
      obtain ⟨q, hq⟩ : ∃ q, (bits BinOp.and IntKind.i64 z0 3 == 3) = q := ⟨_, rfl⟩
      cases q with
      | true =>
        by_cases hroom : (byteN z1) + 10 ≤ L / 2
        · obtain ⟨k', hk', ⟨nn', hh'⟩, ce1, ce2, hdo⟩ := does_compact HHF.out (bytesL z1) (by rw [HBL.out]; omega) (by rw [HBL.out, HKZ.out]; exact hroom) (by have := HTU.out; omega)
          have hdoa := hdo a
          obtain ⟨x', hx'⟩ : ∃ x', x' = (x.anew (bytesL z1)) := ⟨_, rfl⟩
          have htu' : x'.turn ≤ 1 + ((j + 1 : Nat) : Int) := by rw [hx']; show ((x.turn.toNat + 1 : Nat) : Int) ≤ 1 + ((j + 1 : Nat) : Int); have := HTU.out; have := HTB.out; omega
          rw [← hx'] at hh' hdoa
          have HX' := Lib.hid hx'
          have HDOA := Lib.hid hdoa
          have HH' := Lib.hid hh'
          have CE1 := Lib.hid ce1
          have CE2 := Lib.hid ce2
          have HKL' := Lib.hid hk'
          have HTU' := Lib.hid htu'
          have hrc' := hh'.recs_le
          have HRC' := Lib.hid hrc'
          clear hdo hdoa hh' ce1 ce2 hk' htu' hrc' hx'
          go_wp2_with fail
          refine (bytes_any z1 wr HZ1.out).mono ?_
          rintro e w8 ⟨A8, c8, rfl, ho8, hk8⟩
          have H8 := Lib.hid (HTW.out.add hk8)
          have HSL8 : Hid (Sl w8 (New Nil wr w8) A8 (byteN z1) c8 (bytesL z1)) := ho8.sl.mono fun b hb hx => .inr ⟨hx, hb⟩
          clear ho8 hk8
          go_wp2_with fail
          refine (two_compact (bytesL z1) _ (byteN z1) _ HSL8.out (by omega) (by omega) (by have := HKL.out; show 48 ≤ k.length; omega) ⟨by have := HTB.out; omega, by have := HTB.out; omega⟩ (by rw [HBL.out]; show byteN z1 + 10 ≤ k.length / 2; rw [HKZ.out]; exact hroom) HBR.out H8.out).mono ?_
          rintro e w9 ⟨he, h9, -⟩
          have h9' : Two w1 w9 (dlT D G ((up k a).steps (compactOps (k.length / 2) (1 - x.half) (x.turn.toNat + 1) (bytesL z1))) (pickL ((up k a).stepsE (compactOps (k.length / 2) (1 - x.half) (x.turn.toNat + 1) (bytesL z1))) x' { x with broken := true }) (m + 8)) (dlT D2 G2 (calm k) x m) Nil := by
            rw [HX'.out]
            exact h9.less fun b hb => hb.elim
          have HE : Hid (e = .returned (.int .i64 ((up k a).stepsE (compactOps (k.length / 2) (1 - x.half) (x.turn.toNat + 1) (bytesL z1))))) := he
          have H9 := Lib.hid h9'
          have hcs9 := HCS.out w9 h9.keep
          obtain ⟨hc0, hc1⟩ := hcs9
          clear he h9 h9'
          rcases HDOA.out with ⟨a', e1, e2⟩ | ⟨e1, hsafe⟩
          · have he' : e = .returned (.int .i64 0) := by rw [HE.out]; exact ret_i e1
            subst he'
            have h9 := H9.out
            rw [e1, e2, pickL_0] at h9
            have H9' := Lib.hid h9.swap
            clear e1 e2 h9
            go_wp2_with fail
            refine (bytes_any z1 w9 HZ1.out).mono ?_
            rintro e w10 ⟨A10, c10, rfl, ho10, hk10⟩
            have H10 := Lib.hid (H9'.out.add hk10)
            have HSL10 : Hid (Sl w10 (New Nil w9 w10) A10 (byteN z1) c10 (bytesL z1)) := ho10.sl.mono fun b hb hx => .inr ⟨hx, hb⟩
            clear ho10 hk10
            go_wp2_with fail
            refine (two_compact (bytesL z1) _ (byteN z1) _ HSL10.out (by omega) (by omega) (by have := HKL.out; show 48 ≤ k.length; omega) ⟨by have := HTB.out; omega, by have := HTB.out; omega⟩ (by rw [HBL.out]; show byteN z1 + 10 ≤ k.length / 2; rw [HKZ.out]; exact hroom) HBR.out H10.out).mono ?_
            rintro e w11 ⟨he, h11, -⟩
            have he' : e = .returned (.int .i64 0) := by rw [he]; exact ret_i CE1.out
            subst he'
            have h11' : Two w1 w11 (dlT D2 G2 ((calm k).steps (compactOps (k.length / 2) (1 - x.half) (x.turn.toNat + 1) (bytesL z1))) (pickL ((calm k).stepsE (compactOps (k.length / 2) (1 - x.half) (x.turn.toNat + 1) (bytesL z1))) x' { x with broken := true }) (m + 8)) (dlT D G (up k' a') x' (m + 8)) Nil := by
              rw [HX'.out]
              have h12 := h11.less (Y := Nil) fun b hb => hb.elim
              rw [HX'.out] at h12
              exact h12
            rw [CE1.out, CE2.out, pickL_0] at h11'
            have H11 := Lib.hid h11'
            clear he h11 h11'
            go_wp2_with fail
            refine (two_told HRC'.out H11.out).mono ?_
            rintro e w12 ⟨rfl, hk12⟩
            have H12 := Lib.hid (H11.out.keep0 hk12).swap
            clear hk12
            go_wp2_with fail
            go_roundw
            case rel => exact ⟨j + 1, nn', a', m + 8, k', x', by omega, by go_num, rfl, rfl, by omega, by rw [HKL'.out]; exact HKL.out, HH'.out, HTU'.out, H12.out⟩
            case measure => simp [intOf]; omega
          · have he' : e = .returned (.int .i64 15) := by rw [HE.out]; exact ret_i e1
            subst he'
            have h9 := H9.out
            rw [e1, pickL_ne (by decide)] at h9
            have H9' := Lib.hid h9.swap
            have hsafe' : Safe ((up k a).steps (compactOps (k.length / 2) (1 - x.half) (x.turn.toNat + 1) (bytesL z1))) L (fun q => q = x ∨ q = x') := by rw [← HKL.out]; exact hsafe
            have HSAFE := Lib.hid hsafe'
            clear e1 h9 hsafe hsafe'
            go_wp2_with fail
            refine (bytes_any z1 w9 HZ1.out).mono ?_
            rintro e w10 ⟨A10, c10, rfl, ho10, hk10⟩
            have H10 := Lib.hid (H9'.out.add hk10)
            have HSL10 : Hid (Sl w10 (New Nil w9 w10) A10 (byteN z1) c10 (bytesL z1)) := ho10.sl.mono fun b hb hx => .inr ⟨hx, hb⟩
            clear ho10 hk10
            go_wp2_with fail
            refine (two_compact (bytesL z1) _ (byteN z1) _ HSL10.out (by omega) (by omega) (by have := HKL.out; show 48 ≤ k.length; omega) ⟨by have := HTB.out; omega, by have := HTB.out; omega⟩ (by rw [HBL.out]; show byteN z1 + 10 ≤ k.length / 2; rw [HKZ.out]; exact hroom) HBR.out H10.out).mono ?_
            rintro e w11 ⟨he, h11, -⟩
            have he' : e = .returned (.int .i64 0) := by rw [he]; exact ret_i CE1.out
            subst he'
            have h11' : Two w1 w11 (dlT D2 G2 ((calm k).steps (compactOps (k.length / 2) (1 - x.half) (x.turn.toNat + 1) (bytesL z1))) (pickL ((calm k).stepsE (compactOps (k.length / 2) (1 - x.half) (x.turn.toNat + 1) (bytesL z1))) x' { x with broken := true }) (m + 8)) (dlT D G ((up k a).steps (compactOps (k.length / 2) (1 - x.half) (x.turn.toNat + 1) (bytesL z1))) { x with broken := true } (m + 8)) Nil := by
              rw [HX'.out]
              exact h11.less (Y := Nil) fun b hb => hb.elim
            rw [CE1.out, CE2.out, pickL_0] at h11'
            have H11 := Lib.hid h11'
            clear he h11 h11'
            go_wp2_with fail
            refine (two_told HRC'.out H11.out).mono ?_
            rintro e w12 ⟨rfl, hk12⟩
            have HONE := Lib.hid (H11.out.keep0 hk12).swap.one
            clear hk12
            go_wp2_with fail
            refine (again_any keep (by omega) zs HZS.out SA sn sc HSN.out (by omega) (HRD.out.keep0 (HK1.out.and0 HONE.out.keep)) (fun b hb => Nat.lt_of_lt_of_le (HF.out b hb) HK1.out.size) ⟨hL48, by omega⟩ (by omega) HSAFE.out HONE.out).mono ?_
            rintro e w20 ⟨G9, s9, x9, m9, rfl, h9, hT9, hrc9⟩
            obtain ⟨FL9, hl9⟩ := h9.log
            have HL9 := Lib.hid hl9
            have HK9 := Lib.hid h9.keep
            have HRC9 := Lib.hid hrc9
            clear h9 hl9 hrc9
            go_wp2_with fail
            refine (told_any HRC9.out HL9.out).mono ?_
            rintro e w21 ⟨rfl, hk21⟩
            have HK21 := Lib.hid hk21
            clear hk21
            rcases hT9 with rfl | rfl
            · generalize strB x9.told = S1
              generalize strB x'.told = S2
              have hs1 : (S1.toList == S1.toList) = true := by simp
              go_wp2_with fail
              go_ret
              exact ⟨rfl, (HK1.out.and0 HK9.out).and0 HK21.out⟩
            · generalize strB x.told = S1
              generalize strB x9.told = S2
              have hs1 : (S2.toList == S2.toList) = true := by simp
              cases hs2 : (S2.toList == S1.toList) with
              | true =>
                go_wp2_with fail
                go_ret
                exact ⟨rfl, (HK1.out.and0 HK9.out).and0 HK21.out⟩
              | false =>
                go_wp2_with fail
                go_ret
                exact ⟨rfl, (HK1.out.and0 HK9.out).and0 HK21.out⟩
        · go_wp2_with fail
          refine (bytes_any z1 wr HZ1.out).mono ?_
          rintro e w8 ⟨A8, c8, rfl, ho8, hk8⟩
          have H8 := Lib.hid (HTW.out.keep0 hk8)
          clear ho8 hk8
          go_wp2_with fail
          refine (two_compactNo _ (byteN z1) _ (by omega) (by have := HKL.out; show 48 ≤ k.length; omega) (may_two HBR.out (by omega) (by have := HKZ.out; show ((k.length / 2 : Nat) : Int) - 5 < _; omega)) H8.out).mono ?_
          rintro e w9 ⟨rfl, hk9⟩
          have H9 := Lib.hid (H8.out.keep0 hk9).swap
          obtain ⟨hc0, hc1⟩ := HCS.out w9 (H8.out.keep0 hk9).keep
          clear hk9
          go_wp2_with fail
          refine (bytes_any z1 w9 HZ1.out).mono ?_
          rintro e w10 ⟨A10, c10, rfl, ho10, hk10⟩
          have H10 := Lib.hid (H9.out.keep0 hk10)
          clear ho10 hk10
          go_wp2_with fail
          refine (two_compactNo _ (byteN z1) _ (by omega) (by have := HKL.out; show 48 ≤ k.length; omega) (may_two HBR.out (by omega) (by have := HKZ.out; show ((k.length / 2 : Nat) : Int) - 5 < _; omega)) H10.out).mono ?_
          rintro e w11 ⟨rfl, hk11⟩
          have H11 := Lib.hid (H10.out.keep0 hk11)
          clear hk11
          go_wp2_with fail
          refine (two_told HRC.out H11.out).mono ?_
          rintro e w12 ⟨rfl, hk12⟩
          have H12 := Lib.hid (H11.out.keep0 hk12).swap
          clear hk12
          go_wp2_with fail
          go_roundw
          case rel => exact ⟨j + 1, nn, a, m, k, x, by omega, by go_num, rfl, rfl, by omega, HKL.out, HHF.out, by have := HTU.out; omega, H12.out⟩
          case measure => simp [intOf]; omega
      | false =>
        by_cases hroom : x.stop + ((byteN z1) + 5) ≤ L / 2
        · obtain ⟨k', hk', ⟨nn', hh'⟩, ce1, ce2, hdo⟩ := does_append HHF.out (bytesL z1) (by rw [HBL.out]; omega) (by rw [HBL.out, HKZ.out]; exact hroom)
          have hdoa := hdo a
          obtain ⟨x', hx'⟩ : ∃ x', x' = (x.plus (bytesL z1)) := ⟨_, rfl⟩
          have htu' : x'.turn ≤ 1 + ((j + 1 : Nat) : Int) := by rw [hx']; show x.turn ≤ 1 + ((j + 1 : Nat) : Int); have := HTU.out; omega
          rw [← hx'] at hh' hdoa
          have HX' := Lib.hid hx'
          have HDOA := Lib.hid hdoa
          have HH' := Lib.hid hh'
          have CE1 := Lib.hid ce1
          have CE2 := Lib.hid ce2
          have HKL' := Lib.hid hk'
          have HTU' := Lib.hid htu'
          have hrc' := hh'.recs_le
          have HRC' := Lib.hid hrc'
          clear hdo hdoa hh' ce1 ce2 hk' htu' hrc' hx'
          go_wp2_with fail
          refine (bytes_any z1 wr HZ1.out).mono ?_
          rintro e w8 ⟨A8, c8, rfl, ho8, hk8⟩
          have H8 := Lib.hid (HTW.out.add hk8)
          have HSL8 : Hid (Sl w8 (New Nil wr w8) A8 (byteN z1) c8 (bytesL z1)) := ho8.sl.mono fun b hb hx => .inr ⟨hx, hb⟩
          clear ho8 hk8
          go_wp2_with fail
          refine (two_append (bytesL z1) _ (byteN z1) _ HSL8.out (by omega) (by omega) (by have := HKL.out; show 48 ≤ k.length; omega) HRC.out (by rw [HBL.out]; show x.stop + (byteN z1 + 5) ≤ k.length / 2; rw [HKZ.out]; exact hroom) HBR.out H8.out).mono ?_
          rintro e w9 ⟨he, h9, -⟩
          have h9' : Two w1 w9 (dlT D G ((up k a).steps (appendOps (k.length / 2) x.half x.stop (bytesL z1))) (pickL ((up k a).stepsE (appendOps (k.length / 2) x.half x.stop (bytesL z1))) x' { x with broken := true }) (m + 8)) (dlT D2 G2 (calm k) x m) Nil := by
            rw [HX'.out]
            exact h9.less fun b hb => hb.elim
          have HE : Hid (e = .returned (.int .i64 ((up k a).stepsE (appendOps (k.length / 2) x.half x.stop (bytesL z1))))) := he
          have H9 := Lib.hid h9'
          have hcs9 := HCS.out w9 h9.keep
          obtain ⟨hc0, hc1⟩ := hcs9
          clear he h9 h9'
          rcases HDOA.out with ⟨a', e1, e2⟩ | ⟨e1, hsafe⟩
          · have he' : e = .returned (.int .i64 0) := by rw [HE.out]; exact ret_i e1
            subst he'
            have h9 := H9.out
            rw [e1, e2, pickL_0] at h9
            have H9' := Lib.hid h9.swap
            clear e1 e2 h9
            go_wp2_with fail
            refine (bytes_any z1 w9 HZ1.out).mono ?_
            rintro e w10 ⟨A10, c10, rfl, ho10, hk10⟩
            have H10 := Lib.hid (H9'.out.add hk10)
            have HSL10 : Hid (Sl w10 (New Nil w9 w10) A10 (byteN z1) c10 (bytesL z1)) := ho10.sl.mono fun b hb hx => .inr ⟨hx, hb⟩
            clear ho10 hk10
            go_wp2_with fail
            refine (two_append (bytesL z1) _ (byteN z1) _ HSL10.out (by omega) (by omega) (by have := HKL.out; show 48 ≤ k.length; omega) HRC.out (by rw [HBL.out]; show x.stop + (byteN z1 + 5) ≤ k.length / 2; rw [HKZ.out]; exact hroom) HBR.out H10.out).mono ?_
            rintro e w11 ⟨he, h11, -⟩
            have he' : e = .returned (.int .i64 0) := by rw [he]; exact ret_i CE1.out
            subst he'
            have h11' : Two w1 w11 (dlT D2 G2 ((calm k).steps (appendOps (k.length / 2) x.half x.stop (bytesL z1))) (pickL ((calm k).stepsE (appendOps (k.length / 2) x.half x.stop (bytesL z1))) x' { x with broken := true }) (m + 8)) (dlT D G (up k' a') x' (m + 8)) Nil := by
              rw [HX'.out]
              have h12 := h11.less (Y := Nil) fun b hb => hb.elim
              rw [HX'.out] at h12
              exact h12
            rw [CE1.out, CE2.out, pickL_0] at h11'
            have H11 := Lib.hid h11'
            clear he h11 h11'
            go_wp2_with fail
            refine (two_told HRC'.out H11.out).mono ?_
            rintro e w12 ⟨rfl, hk12⟩
            have H12 := Lib.hid (H11.out.keep0 hk12).swap
            clear hk12
            go_wp2_with fail
            go_roundw
            case rel => exact ⟨j + 1, nn', a', m + 8, k', x', by omega, by go_num, rfl, rfl, by omega, by rw [HKL'.out]; exact HKL.out, HH'.out, HTU'.out, H12.out⟩
            case measure => simp [intOf]; omega
          · have he' : e = .returned (.int .i64 15) := by rw [HE.out]; exact ret_i e1
            subst he'
            have h9 := H9.out
            rw [e1, pickL_ne (by decide)] at h9
            have H9' := Lib.hid h9.swap
            have hsafe' : Safe ((up k a).steps (appendOps (k.length / 2) x.half x.stop (bytesL z1))) L (fun q => q = x ∨ q = x') := by rw [← HKL.out]; exact hsafe
            have HSAFE := Lib.hid hsafe'
            clear e1 h9 hsafe hsafe'
            go_wp2_with fail
            refine (bytes_any z1 w9 HZ1.out).mono ?_
            rintro e w10 ⟨A10, c10, rfl, ho10, hk10⟩
            have H10 := Lib.hid (H9'.out.add hk10)
            have HSL10 : Hid (Sl w10 (New Nil w9 w10) A10 (byteN z1) c10 (bytesL z1)) := ho10.sl.mono fun b hb hx => .inr ⟨hx, hb⟩
            clear ho10 hk10
            go_wp2_with fail
            refine (two_append (bytesL z1) _ (byteN z1) _ HSL10.out (by omega) (by omega) (by have := HKL.out; show 48 ≤ k.length; omega) HRC.out (by rw [HBL.out]; show x.stop + (byteN z1 + 5) ≤ k.length / 2; rw [HKZ.out]; exact hroom) HBR.out H10.out).mono ?_
            rintro e w11 ⟨he, h11, -⟩
            have he' : e = .returned (.int .i64 0) := by rw [he]; exact ret_i CE1.out
            subst he'
            have h11' : Two w1 w11 (dlT D2 G2 ((calm k).steps (appendOps (k.length / 2) x.half x.stop (bytesL z1))) (pickL ((calm k).stepsE (appendOps (k.length / 2) x.half x.stop (bytesL z1))) x' { x with broken := true }) (m + 8)) (dlT D G ((up k a).steps (appendOps (k.length / 2) x.half x.stop (bytesL z1))) { x with broken := true } (m + 8)) Nil := by
              rw [HX'.out]
              exact h11.less (Y := Nil) fun b hb => hb.elim
            rw [CE1.out, CE2.out, pickL_0] at h11'
            have H11 := Lib.hid h11'
            clear he h11 h11'
            go_wp2_with fail
            refine (two_told HRC'.out H11.out).mono ?_
            rintro e w12 ⟨rfl, hk12⟩
            have HONE := Lib.hid (H11.out.keep0 hk12).swap.one
            clear hk12
            go_wp2_with fail
            refine (again_any keep (by omega) zs HZS.out SA sn sc HSN.out (by omega) (HRD.out.keep0 (HK1.out.and0 HONE.out.keep)) (fun b hb => Nat.lt_of_lt_of_le (HF.out b hb) HK1.out.size) ⟨hL48, by omega⟩ (by omega) HSAFE.out HONE.out).mono ?_
            rintro e w20 ⟨G9, s9, x9, m9, rfl, h9, hT9, hrc9⟩
            obtain ⟨FL9, hl9⟩ := h9.log
            have HL9 := Lib.hid hl9
            have HK9 := Lib.hid h9.keep
            have HRC9 := Lib.hid hrc9
            clear h9 hl9 hrc9
            go_wp2_with fail
            refine (told_any HRC9.out HL9.out).mono ?_
            rintro e w21 ⟨rfl, hk21⟩
            have HK21 := Lib.hid hk21
            clear hk21
            rcases hT9 with rfl | rfl
            · generalize strB x9.told = S1
              generalize strB x'.told = S2
              have hs1 : (S1.toList == S1.toList) = true := by simp
              go_wp2_with fail
              go_ret
              exact ⟨rfl, (HK1.out.and0 HK9.out).and0 HK21.out⟩
            · generalize strB x.told = S1
              generalize strB x9.told = S2
              have hs1 : (S2.toList == S2.toList) = true := by simp
              cases hs2 : (S2.toList == S1.toList) with
              | true =>
                go_wp2_with fail
                go_ret
                exact ⟨rfl, (HK1.out.and0 HK9.out).and0 HK21.out⟩
              | false =>
                go_wp2_with fail
                go_ret
                exact ⟨rfl, (HK1.out.and0 HK9.out).and0 HK21.out⟩
        · go_wp2_with fail
          refine (bytes_any z1 wr HZ1.out).mono ?_
          rintro e w8 ⟨A8, c8, rfl, ho8, hk8⟩
          have H8 := Lib.hid (HTW.out.keep0 hk8)
          clear ho8 hk8
          go_wp2_with fail
          refine (two_appendNo _ (byteN z1) _ (by omega) (may_two HBR.out (by omega) (by have := HKZ.out; show ((k.length / 2 : Nat) : Int) - (x.stop : Int) < _; omega)) H8.out).mono ?_
          rintro e w9 ⟨rfl, hk9⟩
          have H9 := Lib.hid (H8.out.keep0 hk9).swap
          obtain ⟨hc0, hc1⟩ := HCS.out w9 (H8.out.keep0 hk9).keep
          clear hk9
          go_wp2_with fail
          refine (bytes_any z1 w9 HZ1.out).mono ?_
          rintro e w10 ⟨A10, c10, rfl, ho10, hk10⟩
          have H10 := Lib.hid (H9.out.keep0 hk10)
          clear ho10 hk10
          go_wp2_with fail
          refine (two_appendNo _ (byteN z1) _ (by omega) (may_two HBR.out (by omega) (by have := HKZ.out; show ((k.length / 2 : Nat) : Int) - (x.stop : Int) < _; omega)) H10.out).mono ?_
          rintro e w11 ⟨rfl, hk11⟩
          have H11 := Lib.hid (H10.out.keep0 hk11)
          clear hk11
          go_wp2_with fail
          refine (two_told HRC.out H11.out).mono ?_
          rintro e w12 ⟨rfl, hk12⟩
          have H12 := Lib.hid (H11.out.keep0 hk12).swap
          clear hk12
          go_wp2_with fail
          go_roundw
          case rel => exact ⟨j + 1, nn, a, m, k, x, by omega, by go_num, rfl, rfl, by omega, HKL.out, HHF.out, by have := HTU.out; omega, H12.out⟩
          case measure => simp [intOf]; omega
    · obtain rfl : j = n := by omega
      obtain ⟨i1, i2, i3, i4⟩ := HI.out
      have hsafe : Safe (up k a) L (fun q => q = x ∨ q = x) := by rw [← i1]; exact safe_up i2 a
      have hone := i4.one
      have HSAFE := Lib.hid hsafe
      have HONE := Lib.hid hone
      clear HI i1 i2 i3 i4 hsafe hone
      go_wp2_with fail
      refine (again_any keep (by omega) zs HZS.out SA sn sc HSN.out (by omega) (HRD.out.keep0 (HK1.out.and0 HONE.out.keep)) (fun b hb => Nat.lt_of_lt_of_le (HF.out b hb) HK1.out.size) ⟨hL48, by omega⟩ (by omega) HSAFE.out HONE.out).mono ?_
      rintro e w20 ⟨G9, s9, x9, m9, rfl, h9, hT9, hrc9⟩
      obtain rfl : x9 = x := by rcases hT9 with h | h <;> exact h
      obtain ⟨FL9, hl9⟩ := h9.log
      have HL9 := Lib.hid hl9
      have HK9 := Lib.hid h9.keep
      have HRC9 := Lib.hid hrc9
      clear h9 hl9 hrc9 hT9
      go_wp2_with fail
      refine (told_any HRC9.out HL9.out).mono ?_
      rintro e w21 ⟨rfl, hk21⟩
      have HK21 := Lib.hid hk21
      clear hk21
      generalize strB x9.told = S1
      have hs1 : (S1.toList == S1.toList) = true := by simp
      go_wp2_with fail
      go_ret
      exact ⟨rfl, (HK1.out.and0 HK9.out).and0 HK21.out⟩
end Go.Proofs.Ytbdencfgiemliaa
