/-
  The walk of SumFirst: it returns true and changes nothing that was there; for a slice that reads as bytes.
-/
import Derived.Test.YtbdencfgiemliaaSum5
namespace Go.Proofs.Ytbdencfgiemliaa
open Go.RowKit
theorem crc_stamp (l : List UInt8) : isWhole (stampL l) = true ∧ wholeL (stampL l) = l := by
  have h : isWhole (stampL l) = true := by
    unfold stampL
    rw [whole_pair]
    have hc := (crc l).isLt
    have h1 : (hi8 (crc l)).toNat = (crc l).toNat / 256 := by unfold hi8; rw [UInt8.toNat_ofNat', Nat.mod_eq_of_lt (by omega)]
    have h2 : (lo8 (crc l)).toNat = (crc l).toNat % 256 := by unfold lo8; rw [UInt8.toNat_ofNat']
    rw [decide_eq_true h1, decide_eq_true h2]; rfl
  refine ⟨h, ?_⟩
  unfold wholeL
  rw [h, if_pos rfl]
  unfold stampL
  exact whole_take l _ _
theorem one_cell (w : World) (x : Value) (t : TypeId) (n c : Nat) (hc : n = 1) (hn : c = 1) (e : TypeId) (he : t = e) : Own (w.alloc (.cells #[x] t)) w.heap.size e (some ⟨w.heap.size, 0, none⟩) n c [x] := by
  subst hc; subst hn; subst he
  exact ⟨rfl, .inr ⟨w.heap.size, 1, #[x], rfl, Nat.le_refl _, heap_alloc_new w _, Nat.le_refl _, by simp [maxLen], rfl, rfl⟩⟩
theorem toList_made (z : Value) (n : Nat) : (madeCells #[z] n).toList = List.replicate n z := toList_madeCells_one z n
set_option maxRecDepth 20000 in
set_option maxHeartbeats 1000000 in
theorem sumFirst_walk (x y : UInt8) (l : List UInt8) (F : Nat → Prop) (A : Option Addr) (na ca : Nat) (n : Int) (w : World) (ha : Sl w F A na ca l) :
    Calls Try.prog 5 #[.int .u8 (x.toNat : Int), .int .u8 (y.toNat : Int), .slice A na ca, .int .i64 n] w fun e w' => e = .returned (.bool true) ∧ Keep0 w w' := by
  obtain ⟨i0, hi0, hz0, hz1, hz2⟩ := info_parts info5
  have HA := Lib.hid ha
  have hma : na ≤ maxLen := Nat.le_trans ha.cap ha.max
  unfold maxLen at hma
  clear ha
  by_cases h1 : na ≤ 2000
  · by_cases h2 : n < 0
    · go_enter Try.func5, Try.ntmps5
      go_wp2_with fail
      refine (small16 w).mono ?_
      rintro e w1 ⟨rfl, hk1⟩
      go_wp2
      go_ret
      exact ⟨rfl, hk1⟩
    · by_cases h3 : 200 < n
      · go_enter Try.func5, Try.ntmps5
        go_wp2_with fail
        refine (small16 w).mono ?_
        rintro e w1 ⟨rfl, hk1⟩
        go_wp2
        go_ret
        exact ⟨rfl, hk1⟩
      · obtain ⟨k, rfl⟩ := Int.eq_ofNat_of_zero_le (show 0 ≤ n by omega)
        have hk200 : k ≤ 200 := by omega
        go_enter Try.func5, Try.ntmps5
        go_wp2_with fail
        refine (small16 w).mono ?_
        rintro e w1 ⟨rfl, hk1⟩
        have HA1 := Lib.hid (HA.out.keep0 hk1)
        go_wp2_with (at_builtin; refine wpList_append_rd _ rfl (.tmp 29) (.tmp 30) _ rfl w1.heap.size 5 i0 _ 1 1 Try.underlying22 hi0 hz0 hz1 hz2 rfl (by omega) (.slice (some ⟨w1.heap.size, 0, none⟩) 1 1) 1 [.int .u8 (x.toNat : Int)] rfl (one_cell w1 _ 5 1 1 rfl rfl 5 rfl) F A na ca (l.map bv) rfl ?qa ?qb (one_bv l) (by simp only [maxLen]; omega) (by omega) (by simp) ?qc)
        case qa => simpa using HA.out.len
        case qb => exact HA1.out.rd.keep0 (Keep.alloc _ _)
        case qc =>
          intro A1 c1 w2 hown1 hg1 _
          have hO1 : Own w2 w1.heap.size 5 A1 (1 + na) c1 ((x :: l).map bv) := hown1
          have hk2 : Keep0 w1 w2 := ((Keep.refl _ _).alloc' _).grown hg1 (by simp [Value.ownBlock])
          clear hown1 hg1
          go_wp2_with fail
          refine (sum_any (x :: l) (fun b => w1.heap.size ≤ b) A1 (1 + na) c1 w2 ?hs1).mono ?_
          case hs1 => exact hO1.sl
          rintro e w' ⟨rfl, rfl⟩
          have HA2 := Lib.hid (HA1.out.keep0 hk2)
          go_wp2_with (at_builtin; refine wpList_append_rd _ rfl (.tmp 34) (.tmp 35) _ rfl w2.heap.size 5 i0 _ 1 1 Try.underlying22 hi0 hz0 hz1 hz2 rfl (by omega) (.slice (some ⟨w2.heap.size, 0, none⟩) 1 1) 1 [.int .u8 (y.toNat : Int)] rfl (one_cell w2 _ 5 1 1 rfl rfl 5 rfl) F A na ca (l.map bv) rfl ?qd ?qe (one_bv l) (by simp only [maxLen]; omega) (by omega) (by simp) ?qf)
          case qd => simpa using HA.out.len
          case qe => exact HA2.out.rd.keep0 (Keep.alloc _ _)
          case qf =>
            intro A2 c2 w3 hown2 hg2 _
            have hO2 : Own w3 w2.heap.size 5 A2 (1 + na) c2 ((y :: l).map bv) := hown2
            have hk3 : Keep0 w2 w3 := ((Keep.refl _ _).alloc' _).grown hg2 (by simp [Value.ownBlock])
            clear hown2 hg2
            go_wp2_with fail
            refine (sum_any (y :: l) (fun b => w2.heap.size ≤ b) A2 (1 + na) c2 w3 ?hs2).mono ?_
            case hs2 => exact hO2.sl
            rintro e w' ⟨rfl, rfl⟩
            have HA3 := Lib.hid (HA2.out.keep0 hk3)
            have hmk := run_make_full (P := Try.prog) w3 w3.heap.size 22 5 i0 (.int .u8 0) 1 Try.underlying22 hi0 hz0 hz1 .i64 .i64 k (by rw [hz2]; omega) (by simp only [maxLen]; omega) (Nat.le_refl _)
            obtain ⟨w4, hmk, hown4, hg4⟩ := hmk
            have hown4' : w4.ownsRow w3.heap.size 5 1 (.slice (some ⟨w3.heap.size, 0, none⟩) k k) k ((List.replicate k (0 : UInt8)).map bv) := by
              rw [List.map_replicate, show bv 0 = .int .u8 0 from rfl, ← toList_made]; rw [Nat.mul_one] at hown4; exact hown4
            clear hown4
            have hk4 : Keep0 w3 w4 := (Keep.refl _ _).grown hg4 (by simp)
            have hs4 := hk4.size
            have HA4 := Lib.hid (HA3.out.keep0 hk4)
            clear hg4
            go_wp2_with (at_builtin; refine wpList_append_rd _ rfl (.tmp 39) (.tmp 40) _ rfl w3.heap.size 5 i0 _ 1 1 Try.underlying22 hi0 hz0 hz1 hz2 rfl (by omega) (.slice (some ⟨w3.heap.size, 0, none⟩) k k) k _ rfl hown4' F A na ca (l.map bv) rfl ?qg HA4.out.rd (one_bv l) (by simp only [maxLen]; omega) (by omega) (by omega) ?qh)
            case qg => simpa using HA.out.len
            case qh =>
              intro A5 c5 w5 hown5 hg5 _
              obtain ⟨z, hz⟩ : ∃ z, z = List.replicate k (0 : UInt8) ++ l := ⟨_, rfl⟩
              have hO5 : Own w5 w3.heap.size 5 A5 (k + na) c5 (z.map bv) := by rw [hz, List.map_append, List.map_replicate]; exact hown5
              have hk5 : Keep0 w3 w5 := hk4.grown hg5 (by simp [Value.ownBlock])
              clear hown5 hg5 hmk hown4' hz
              go_wp2_with fail
              refine (stamp_any z (fun b => w3.heap.size ≤ b) A5 (k + na) c5 w5 ?hs3 (by omega)).mono ?_
              case hs3 => exact hO5.sl
              rintro e w6 ⟨A6, c6, rfl, hO6, hk6⟩
              go_wp2_with fail
              refine (whole_any (stampL z) (fun b => w5.heap.size ≤ b) A6 (k + na + 2) c6 w6 ?hs4 (by omega)).mono ?_
              case hs4 => exact hO6.sl
              rintro e w7 ⟨A7, n7, c7, rfl, hO7, hk7⟩
              obtain ⟨ez, ez'⟩ := crc_stamp z
              rw [ez]
              rw [ez'] at hO7
              obtain rfl : n7 = k + na := by have h1 := hO7.len; have h2 := hO5.len; simp at h1 h2; omega
              clear ez ez'
              have hkeep : Keep0 w w7 := ((((hk1.and0 hk2).and0 hk3).and0 hk5).and0 hk6).and0 hk7
              have hfin : ∀ P Q : Bool, (((crc (x :: l)).toNat : Int) == ((crc (y :: l)).toNat : Int)) = P → ((x.toNat : Int) == (y.toNat : Int)) = Q → P = Q := by
                intro P Q hP hQ
                rw [← hP, ← hQ, Bool.eq_iff_iff, beq_iff_eq, beq_iff_eq]
                constructor
                · intro h
                  have h1 : crc (x :: l) = crc (y :: l) := BitVec.eq_of_toNat_eq (by omega)
                  rw [(crc_first x y l).1 h1]
                · intro h
                  rw [u8_ext (show x.toNat = y.toNat by omega)]
              generalize crc (x :: l) = p at hfin
              generalize crc (y :: l) = q at hfin
              obtain ⟨P, hP⟩ : ∃ P, ((p.toNat : Int) == (q.toNat : Int)) = P := ⟨_, rfl⟩
              have hQ : ((x.toNat : Int) == (y.toNat : Int)) = P := (hfin P _ hP rfl).symm
              clear hfin
              go_wp2_with fail
              refine (sum_any z (fun b => w3.heap.size ≤ b) A5 (k + na) c5 w7 ?hs5).mono ?_
              case hs5 => exact (hO5.sl.keep0 hk6).keep0 hk7
              rintro e w' ⟨rfl, rfl⟩
              go_wp2_with fail
              refine (sum_any z (fun b => w6.heap.size ≤ b) A7 (k + na) c7 w7 ?hs6).mono ?_
              case hs6 => exact hO7.sl
              rintro e w' ⟨rfl, rfl⟩
              go_wp2
              go_ret
              exact ⟨rfl, hkeep⟩
  · go_enter Try.func5, Try.ntmps5
    go_wp2_with fail
    refine (small16 w).mono ?_
    rintro e w1 ⟨rfl, hk1⟩
    go_wp2
    go_ret
    exact ⟨rfl, hk1⟩
end Go.Proofs.Ytbdencfgiemliaa
