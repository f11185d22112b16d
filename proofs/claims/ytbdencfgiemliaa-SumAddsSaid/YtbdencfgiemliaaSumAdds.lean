/-
  The walk of SumAdds: it returns true and changes nothing that was there; for slices that read as bytes.
-/
import Derived.Test.YtbdencfgiemliaaSum5
namespace Go.Proofs.Ytbdencfgiemliaa
open Go.RowKit
theorem crc_go (l m : List UInt8) (k : Nat) (h : k < m.length) : nxt (sumOf (crc l) (m.take k)) m[k] = sumOf (crc l) (m.take (k + 1)) := by
  rw [List.take_succ_eq_append_getElem h, sumOf_snoc]
theorem xor8 (x y : UInt8) : bits BinOp.xor IntKind.u8 (x.toNat : Int) (y.toNat : Int) = (((x ^^^ y).toNat : Nat) : Int) := by
  have h : ∀ z : UInt8, BitVec.ofInt 8 (z.toNat : Int) = z.toBitVec := by
    intro z
    rw [BitVec.ofInt_natCast]
    apply BitVec.eq_of_toNat_eq
    have := byte_lt z
    rw [BitVec.toNat_ofNat, Nat.mod_eq_of_lt (by omega)]
    rfl
  show IntKind.u8.wrap ((BitVec.ofInt 8 (x.toNat : Int) ^^^ BitVec.ofInt 8 (y.toNat : Int)).toNat : Int) = _
  rw [h, h, ← UInt8.toBitVec_xor, IntKind.wrap_u8]
  have := byte_lt (x ^^^ y)
  change (((x ^^^ y).toNat : Nat) : Int) % 256 = _
  omega
set_option maxRecDepth 20000 in
set_option maxHeartbeats 1000000 in
theorem sumAdds_walk (l m : List UInt8) (F : Nat → Prop) (A B : Option Addr) (na ca nb cb : Nat) (c d : BitVec 16) (x y : UInt8) (w : World) (ha : Sl w F A na ca l) (hb : Sl w F B nb cb m) :
    Calls Try.prog 4 #[.slice A na ca, .slice B nb cb, .int .u16 (c.toNat : Int), .int .u16 (d.toNat : Int), .int .u8 (x.toNat : Int), .int .u8 (y.toNat : Int)] w fun e w' => e = .returned (.bool true) ∧ Keep0 w w' := by
  obtain ⟨i0, hi0, hz0, hz1, hz2⟩ := info_parts info5
  have HA := Lib.hid ha
  have HB := Lib.hid hb
  have hma : na ≤ maxLen := Nat.le_trans ha.cap ha.max
  have hmb : nb ≤ maxLen := Nat.le_trans hb.cap hb.max
  unfold maxLen at hma hmb
  clear ha hb
  by_cases h1 : na ≤ 2000
  · by_cases h2 : nb ≤ 2000
    · go_enter Try.func4, Try.ntmps4
      go_wp2_with fail
      refine (small16 w).mono ?_
      rintro e w1 ⟨rfl, hk1⟩
      go_wp2_with fail
      refine (sum_any l F A na ca w1 (HA.out.keep0 hk1)).mono ?_
      rintro e w' ⟨rfl, rfl⟩
      have HB1 := Lib.hid (HB.out.keep0 hk1)
      go_wp2_with fail
      go_loop [14, 15] (fun s i => ∃ k : Nat, k ≤ nb ∧ i = .int .i64 k ∧ s = .int .u16 ((sumOf (crc l) (m.take k)).toNat : Int)) (fun _ i => nb - (intOf i).toNat)
      case atStart => exact ⟨0, by omega, rfl, rfl⟩
      case round =>
        obtain ⟨k, hk, rfl, rfl⟩ := hrel
        generalize hq : sumOf (crc l) (m.take k) = q
        have HQ := Lib.hid hq
        clear hq
        by_cases hlt : k < nb
        · have hkl : k < m.length := by have := HB.out.len; omega
          obtain ⟨b, o, rfl, _, hcell⟩ := HB1.out.rd.at_ (k := k) (by simpa using hkl)
          rw [byte_at m k hkl] at hcell
          have hstep := crc_go l m k hkl
          rw [HQ.out] at hstep
          have HS := Lib.hid hstep
          clear hstep
          generalize m[k] = z at hcell HS
          have hxb := byte_lt z
          go_wp2_with fail
          refine (next_any q z w1).mono ?_
          rintro e w' ⟨rfl, rfl⟩
          go_wp2
          go_round
          case rel => exact ⟨k + 1, by omega, by go_num, by rw [HS.out]⟩
          case measure => simp [intOf]; omega
        · have hfin : q = crc (l ++ m) := by
            rw [← HQ.out, List.take_of_length_le (by have := HB.out.len; omega)]
            unfold crc; rw [sumOf_append]
          have HF := Lib.hid hfin
          clear hfin
          go_wp2_with (at_builtin; refine wpList_append_rdg _ rfl (.tmp 43) (.tmp 44) _ rfl w1.heap.size 5 i0 _ 1 1 Try.underlying22 hi0 hz0 hz1 hz2 rfl (by omega) (.slice (some ⟨w1.heap.size, 0, none⟩) 0 0) 0 [] rfl (World.ownsRow_made w1 _ 0 (Nat.le_refl _) (Nat.zero_le _) rfl) F A na ca (l.map bv) rfl ?qa ?qb (one_bv l) (by simp only [maxLen]; omega) (by omega) (by simp) ?qc)
          case qa => simpa using HA.out.len
          case qb => exact (HA.out.keep0 hk1).rd.keep0 (Keep.alloc _ _)
          case qc =>
            intro A1 c1 w2 hown1 hg1 _
            have hO1 : Own w2 w1.heap.size 5 A1 na c1 (l.map bv) := by unfold Own; simpa using hown1
            have hk2 : Keep0 w1 w2 := ((Keep.refl _ _).alloc' _).grown hg1 (by simp [Value.ownBlock])
            have hs2 := hk2.size
            clear hown1 hg1
            go_wp2_with (at_builtin; refine wpList_append_rdg _ rfl (.tmp 45) (.tmp 46) _ rfl w1.heap.size 5 i0 _ 1 1 Try.underlying22 hi0 hz0 hz1 hz2 rfl (by omega) (.slice A1 na c1) na (l.map bv) rfl hO1 F B nb cb (m.map bv) rfl ?qd (HB1.out.keep0 hk2).rd (one_bv m) (by simp only [maxLen]; omega) (by omega) (by omega) ?qe)
            case qd => simpa using HB.out.len
            case qe =>
              intro A2 c2 w3 hown2 hg2 _
              have hO2 : Own w3 w1.heap.size 5 A2 (na + nb) c2 ((l ++ m).map bv) := by unfold Own; rw [List.map_append]; exact hown2
              have hk3 : Keep0 w1 w3 := hk2.grown hg2 fun k hk => .inr (hO1.row k hk).1
              clear hown2 hg2
              go_wp2_with fail
              refine (sum_any (l ++ m) _ A2 (na + nb) c2 w3 hO2.sl).mono ?_
              rintro e w' ⟨rfl, rfl⟩
              rw [← HF.out]
              have hqq : (((q.toNat : Nat) : Int) == ((q.toNat : Nat) : Int)) = true := by simp
              have hx1 := xor16 c d
              have hx2 := xor8 x y
              have hxb := byte_lt x
              have hyb := byte_lt y
              go_wp2_with fail
              rw [← BitVec.toNat_xor, ← UInt8.toNat_xor]
              refine (next_any (c ^^^ d) (x ^^^ y) w3).mono ?_
              rintro e w' ⟨rfl, rfl⟩
              rw [nxt_xor]
              go_wp2_with fail
              refine (next_any c x w3).mono ?_
              rintro e w' ⟨rfl, rfl⟩
              go_wp2_with fail
              refine (next_any d y w3).mono ?_
              rintro e w' ⟨rfl, rfl⟩
              have hx3 := xor16 (nxt c x) (nxt d y)
              go_wp2
              go_ret
              exact ⟨rfl, hk1.and0 hk3⟩
    · go_enter Try.func4, Try.ntmps4
      go_wp2_with fail
      refine (small16 w).mono ?_
      rintro e w1 ⟨rfl, hk1⟩
      go_wp2
      go_ret
      exact ⟨rfl, hk1⟩
  · go_enter Try.func4, Try.ntmps4
    go_wp2_with fail
    refine (small16 w).mono ?_
    rintro e w1 ⟨rfl, hk1⟩
    go_wp2
    go_ret
    exact ⟨rfl, hk1⟩
end Go.Proofs.Ytbdencfgiemliaa
