/-
  The walk of DiskStops: it returns true and changes nothing that was there; for a slice that reads as bools.
-/
import Derived.Test.YtbdencfgiemliaaDisk8
import Derived.Test.YtbdencfgiemliaaDiskLaw
namespace Go.Proofs.Ytbdencfgiemliaa
open Go.RowKit
set_option linter.unusedVariables false
set_option maxRecDepth 20000
set_option maxHeartbeats 2000000
theorem and31 (k : Nat) (h : k < 64) : bits BinOp.and IntKind.i64 (k : Int) 31 = ((k % 32 : Nat) : Int) := by
  have : ∀ j : Fin 64, bits BinOp.and IntKind.i64 ((j.1 : Nat) : Int) 31 = ((j.1 % 32 : Nat) : Int) := by decide +kernel
  exact this ⟨k, h⟩
/-- What the loop keeps: n is armed, k calls were made. -/
structure StopInv (n k : Nat) (s : DSt) : Prop where
  size : s.kept.length = 64
  up : k < n → s.down = false ∧ s.armed = n - k
  dn : n ≤ k → s.down = true
theorem stop_write {n k : Nat} {s : DSt} (h : StopInv n k s) (a : Nat) (ha : a ≤ 31) (x : UInt8) : StopInv n (k + 1) (s.write (a : Int) [x]) ∧ s.writeE (a : Int) [x] = if k + 1 < n then 0 else 15 := by
  by_cases hk : k < n
  · obtain ⟨h1, h2⟩ := h.up hk
    have hz : s.ask (a : Int) (([x] : List UInt8).length : Nat) = 0 := DSt.ask_ok s a 1 h1 (by rw [h.size]; omega)
    obtain ⟨e1, e2, e3, _⟩ := DSt.write_up s (a : Int) [x] hz
    refine ⟨⟨by rw [DSt.write_len]; exact h.size, fun hk' => ⟨?_, ?_⟩, fun hk' => ?_⟩, ?_⟩
    · rw [e2, h2]; simp; omega
    · rw [e3, h2]; omega
    · rw [e2, h2]; simp; omega
    · rw [e1, h2]
      by_cases hk' : k + 1 < n
      · rw [if_neg (by omega), if_pos hk']
      · rw [if_pos (by omega), if_neg hk']
  · have h1 := h.dn (by omega)
    obtain ⟨e1, e2⟩ := DSt.write_down s (a : Int) [x] h1
    rw [e1, e2, if_neg (by omega)]
    exact ⟨⟨h.size, fun hk' => by omega, fun _ => h1⟩, rfl⟩
theorem stop_sync {n k : Nat} {s : DSt} (h : StopInv n k s) : StopInv n (k + 1) s.sync ∧ s.syncE = if k + 1 < n then 0 else 15 := by
  by_cases hk : k < n
  · obtain ⟨h1, h2⟩ := h.up hk
    obtain ⟨e1, e2, e3⟩ := DSt.sync_up s h1
    refine ⟨⟨by rw [DSt.sync_len]; exact h.size, fun hk' => ⟨?_, ?_⟩, fun hk' => ?_⟩, ?_⟩
    · rw [e2, h2]; simp; omega
    · rw [e3, h2]; omega
    · rw [e2, h2]; simp; omega
    · rw [e1, h2]
      by_cases hk' : k + 1 < n
      · rw [if_neg (by omega), if_pos hk']
      · rw [if_pos (by omega), if_neg hk']
  · have h1 := h.dn (by omega)
    obtain ⟨e1, e2⟩ := DSt.sync_down s h1
    rw [e1, e2, if_neg (by omega)]
    exact ⟨⟨h.size, fun hk' => by omega, fun _ => h1⟩, rfl⟩
theorem stop_down {n k : Nat} {s : DSt} (h : StopInv n (k + 1) s) : s.down = decide (¬ k + 1 < n) := by
  by_cases hk : k + 1 < n
  · rw [(h.up hk).1]; simp [hk]
  · rw [h.dn (by omega)]; simp [hk]
theorem diskStops_walk (n : Int) (bs : List Bool) (G : Nat → Prop) (A : Option Addr) (L c : Nat) (w : World) (hn : -9223372036854775808 ≤ n ∧ n ≤ 9223372036854775807) (hL : bs.length = L) (hm : L ≤ maxLen) (hb : Rd w G A (bs.map Value.bool)) :
    Calls Try.prog 6 #[.int .i64 n, .slice A L c] w fun e w' => e = .returned (.bool true) ∧ Keep0 w w' := by
  have kc := fun (w : World) (C : Array Value) (n c : Nat) => Lib.run_convert_bytes_const (P := Try.prog) w 22 5 C n c Try.underlying22 Try.underlying5
  have HB := Lib.hid hb
  have HL := Lib.hid hL
  unfold maxLen at hm
  clear hb hL
  by_cases h1 : n < 1
  · go_enter Try.func6, Try.ntmps6
    go_wp2_with fail
    refine (small17 w).mono ?_
    rintro e w1 ⟨rfl, hk1⟩
    go_wp2_with fail
    refine (one_new 64 w1).mono ?_
    rintro e w2 ⟨D, rfl, h2⟩
    go_wp2_with fail
    go_ret
    exact ⟨rfl, hk1.and0 h2.keep⟩
  · by_cases h2 : 20 < n
    · go_enter Try.func6, Try.ntmps6
      go_wp2_with fail
      refine (small17 w).mono ?_
      rintro e w1 ⟨rfl, hk1⟩
      go_wp2_with fail
      refine (one_new 64 w1).mono ?_
      rintro e w2 ⟨D, rfl, h2⟩
      go_wp2_with fail
      go_ret
      exact ⟨rfl, hk1.and0 h2.keep⟩
    · obtain ⟨N, rfl⟩ := Int.eq_ofNat_of_zero_le (show 0 ≤ n by omega)
      by_cases h3 : 40 < L
      · go_enter Try.func6, Try.ntmps6
        go_wp2_with fail
        refine (small17 w).mono ?_
        rintro e w1 ⟨rfl, hk1⟩
        go_wp2_with fail
        refine (one_new 64 w1).mono ?_
        rintro e w2 ⟨D, rfl, h2⟩
        go_wp2_with fail
        go_ret
        exact ⟨rfl, hk1.and0 h2.keep⟩
      · go_enter Try.func6, Try.ntmps6
        go_wp2_with fail
        refine (small17 w).mono ?_
        rintro e w1 ⟨rfl, hk1⟩
        go_wp2_with fail
        refine (one_new 64 w1).mono ?_
        rintro e w2 ⟨D, rfl, h2⟩
        have HB2 : Hid (Rd w2 G A (bs.map Value.bool)) := (HB.out.keep0 hk1).keep0 h2.keep
        go_wp2_with fail
        refine (one_arm (N : Int) (by omega) h2).mono ?_
        rintro e w3 ⟨rfl, h3, hk3⟩
        have hinv : StopInv N 0 ((DSt.new (newSize 64)).arm (N : Int)) := ⟨rfl, fun _ => ⟨rfl, rfl⟩, fun hx => by omega⟩
        have HI := Lib.hid hinv
        have H3 := Lib.hid h3
        have HK1 := Lib.hid hk1
        clear hinv h3 hk1 hk3 h2
        go_wp2_with fail
        go_loopw [7] (fun i wr => ∃ (k : Nat) (s : DSt), k ≤ L ∧ i = .int .i64 k ∧ StopInv N k s ∧ One w1 wr D s k Nil) (fun i _ => L - (intOf i).toNat)
        case atStart => exact ⟨0, _, Nat.zero_le _, rfl, HI.out, H3.out⟩
        case round =>
          obtain ⟨k, s, hk, rfl, hinv, hone⟩ := hrel
          have HO := Lib.hid hone
          have HI := Lib.hid hinv
          clear hone hinv
          by_cases hlt : k < L
          · have hkl : k < (bs.map Value.bool).length := by rw [List.length_map, HL.out]; exact hlt
            obtain ⟨b, oo, rfl, _, hcell⟩ := ((HB.out.keep0 HK1.out).keep0 HO.out.keep).at_ hkl
            rw [List.getElem_map] at hcell
            generalize bs[k]'(by simpa using hkl) = y at hcell
            have hk40 : k < 40 := by omega
            cases y with
            | true =>
              go_wp2_with fail
              refine (one_sync (by omega) HO.out).mono ?_
              rintro e w4 ⟨rfl, h4, _⟩
              obtain ⟨hi4, he4⟩ := stop_sync HI.out
              have hdn := stop_down hi4
              rw [he4]
              have H4 := Lib.hid h4
              have HI4 := Lib.hid hi4
              have HDN := Lib.hid hdn
              clear h4 hi4 hdn he4
              by_cases hc : k + 1 < N
              · rw [if_pos hc]
                have hd1 : decide ((k : Int) < (N : Int) - 1) = true := by simp; omega
                have hd2 : decide ((N : Int) - 1 ≤ (k : Int)) = false := by simp; omega
                go_wp2_with fail
                refine (one_down H4.out).mono ?_
                rintro e w' ⟨rfl, rfl⟩
                rw [HDN.out, decide_eq_false (by omega)]
                go_wp2_with fail
                go_roundw
                case rel => exact ⟨k + 1, _, by omega, by go_num, HI4.out, H4.out.more (by omega)⟩
                case measure => simp [intOf]; omega
              · rw [if_neg hc]
                have hd1 : decide ((k : Int) < (N : Int) - 1) = false := by simp; omega
                have hd2 : decide ((N : Int) - 1 ≤ (k : Int)) = true := by simp; omega
                go_wp2_with fail
                refine (one_down H4.out).mono ?_
                rintro e w' ⟨rfl, rfl⟩
                rw [HDN.out, decide_eq_true (by omega)]
                go_wp2_with fail
                go_roundw
                case rel => exact ⟨k + 1, _, by omega, by go_num, HI4.out, H4.out.more (by omega)⟩
                case measure => simp [intOf]; omega
            | false =>
              have hand := and31 k (by omega)
              obtain ⟨r, hr⟩ : ∃ r, r = k % 32 := ⟨_, rfl⟩
              have hr31 : r ≤ 31 := by omega
              rw [← hr] at hand
              clear hr
              go_wp2_with fail
              refine (one_write (r : Int) [UInt8.ofNat k] (fun _ => True) _ 1 1 (by omega) ?hw1 (by omega) (HO.out.keep0 ?hw2)).mono ?_
              case hw2 => exact Keep.alloc _ _
              case hw1 => exact sl_one _ k (by omega) _ _ fun _ _ => trivial
              rintro e w4 ⟨rfl, h4, _⟩
              obtain ⟨hi4, he4⟩ := stop_write HI.out r hr31 (UInt8.ofNat k)
              have hdn := stop_down hi4
              rw [he4]
              have H4 := Lib.hid h4
              have HI4 := Lib.hid hi4
              have HDN := Lib.hid hdn
              clear h4 hi4 hdn he4 hand
              by_cases hc : k + 1 < N
              · rw [if_pos hc]
                have hd1 : decide ((k : Int) < (N : Int) - 1) = true := by simp; omega
                have hd2 : decide ((N : Int) - 1 ≤ (k : Int)) = false := by simp; omega
                go_wp2_with fail
                refine (one_down H4.out).mono ?_
                rintro e w' ⟨rfl, rfl⟩
                rw [HDN.out, decide_eq_false (by omega)]
                go_wp2_with fail
                go_roundw
                case rel => exact ⟨k + 1, _, by omega, by go_num, HI4.out, H4.out.more (by omega)⟩
                case measure => simp [intOf]; omega
              · rw [if_neg hc]
                have hd1 : decide ((k : Int) < (N : Int) - 1) = false := by simp; omega
                have hd2 : decide ((N : Int) - 1 ≤ (k : Int)) = true := by simp; omega
                go_wp2_with fail
                refine (one_down H4.out).mono ?_
                rintro e w' ⟨rfl, rfl⟩
                rw [HDN.out, decide_eq_true (by omega)]
                go_wp2_with fail
                go_roundw
                case rel => exact ⟨k + 1, _, by omega, by go_num, HI4.out, H4.out.more (by omega)⟩
                case measure => simp [intOf]; omega
          · go_wp2_with fail
            refine (one_restart 0 (by omega) HO.out).mono ?_
            rintro e w4 ⟨rfl, h4, _⟩
            have hs4 : (s.restart 0).kept.length = 64 := by rw [DSt.restart_len]; exact HI.out.size
            have hd4 : (s.restart 0).down = false := rfl
            have ha4 : (s.restart 0).armed = 0 := rfl
            obtain ⟨s4, hs⟩ : ∃ s4, s4 = s.restart 0 := ⟨_, rfl⟩
            rw [← hs] at h4 hs4 hd4 ha4
            obtain ⟨e1, e2, e3, _⟩ := DSt.write_up s4 0 [120] (DSt.ask_ok s4 0 1 hd4 (by omega))
            rw [ha4] at e1 e2
            have hsd : (s4.write 0 [120]).down = false := by rw [e2]; rfl
            obtain ⟨f1, _, _⟩ := DSt.sync_up (s4.write 0 [120]) hsd
            rw [e3, ha4] at f1
            have H4 := Lib.hid h4
            have E1 : Hid (s4.writeE 0 [120] = 0) := e1
            have F1 : Hid ((s4.write 0 [120]).syncE = 0) := f1
            have HD4 := Lib.hid hd4
            clear h4 hs4 hd4 ha4 hs e1 e2 e3 hsd f1
            go_wp2_with fail
            refine (one_down H4.out).mono ?_
            rintro e w' ⟨rfl, rfl⟩
            rw [HD4.out]
            go_wp2_with fail
            refine (one_write 0 [120] (fun _ => True) _ 1 1 (by omega) ?hw3 (by omega) (H4.out.keep0 ?hw4)).mono ?_
            case hw4 => exact Keep.alloc _ _
            case hw3 => exact (sl_lit _ _ [120] _ _ 1 rfl rfl (by simp [maxLen])).mono fun _ _ _ => trivial
            rintro e w5 ⟨rfl, h5, _⟩
            rw [E1.out]
            have H5 := Lib.hid h5
            clear h5
            go_wp2_with fail
            refine (one_sync (by omega) H5.out).mono ?_
            rintro e w6 ⟨rfl, h6, _⟩
            rw [F1.out]
            have H6 := Lib.hid h6
            clear h6
            go_wp2_with fail
            go_ret
            exact ⟨rfl, HK1.out.and0 H6.out.keep⟩
end Go.Proofs.Ytbdencfgiemliaa
