/-
  Contracts of sum.Next, sum.Sum and of the reference's Next and Sum: they compute the plain functions nxt and crc and change nothing; for a slice that reads as bytes.
-/
import Derived.Test.YtbdencfgiemliaaProg
import Derived.Test.YtbdencfgiemliaaSum0
import Derived.Test.YtbdencfgiemliaaWords
import Derived.WalkSpells
namespace Go.Proofs.Ytbdencfgiemliaa
open Go.RowKit
set_option maxHeartbeats 400000 in
theorem next_any (c : BitVec 16) (b : UInt8) (w : World) :
    Calls Try.prog 21 #[.int .u16 (c.toNat : Int), .int .u8 (b.toNat : Int)] w fun e w' => e = .returned (.int .u16 ((nxt c b).toNat : Int)) ∧ w = w' := by
  have hc := c.isLt
  have hb : b.toNat < 256 := b.toBitVec.isLt
  go_enter Try.func21, Try.ntmps21
  go_wp2
  go_loop [0, 5, 11] (fun x o i => ∃ k : Nat, k ≤ 8 ∧ i = .int .i64 k ∧ x = .int .u16 ((stps k (c ^^^ BitVec.ofNat 16 (b.toNat * 256))).toNat : Int)) (fun _ _ i => 8 - (intOf i).toNat)
  case atStart => exact ⟨0, by omega, rfl, congrArg (Value.int .u16) (startb c b)⟩
  case round =>
    obtain ⟨k, hk, rfl, rfl⟩ := hrel
    generalize hq : stps k (c ^^^ BitVec.ofNat 16 (b.toNat * 256)) = q
    have HQ := Lib.hid hq
    clear hq
    by_cases hlt : k < 8
    · go_wp2
      · have h1 : (0 : Int) < bits BinOp.and IntKind.u16 (q.toNat : Int) 32768 := by assumption
        go_round
        case rel => exact ⟨k + 1, by omega, by go_num, by rw [shl16, xor16k, ← stp_hi h1, ← HQ.out]; rfl⟩
        case measure => simp [intOf]; omega
      · have h1 : bits BinOp.and IntKind.u16 (q.toNat : Int) 32768 ≤ 0 := by assumption
        go_round
        case rel => exact ⟨k + 1, by omega, by go_num, by rw [shl16, ← stp_lo h1, ← HQ.out]; rfl⟩
        case measure => simp [intOf]; omega
    · go_wp2
      go_ret
      obtain rfl : k = 8 := by omega
      exact ⟨ret_i (by rw [← HQ.out]; rfl), rfl⟩
set_option maxHeartbeats 400000 in
theorem rnext_any (c : BitVec 16) (b : UInt8) (w : World) :
    Calls Try.prog 22 #[.int .u16 (c.toNat : Int), .int .u8 (b.toNat : Int)] w fun e w' => e = .returned (.int .u16 ((nxt c b).toNat : Int)) ∧ w = w' := by
  have hc := c.isLt
  have hb : b.toNat < 256 := b.toBitVec.isLt
  go_enter Try.func22, Try.ntmps22
  go_wp2
  go_loop [0, 5, 6] (fun x i o => ∃ k : Nat, k ≤ 8 ∧ i = .int .i64 k ∧ x = .int .u16 ((stps k (c ^^^ BitVec.ofNat 16 (b.toNat * 256))).toNat : Int)) (fun _ i _ => 8 - (intOf i).toNat)
  case atStart => exact ⟨0, by omega, rfl, congrArg (Value.int .u16) (startb c b)⟩
  case round =>
    obtain ⟨k, hk, rfl, rfl⟩ := hrel
    generalize hq : stps k (c ^^^ BitVec.ofNat 16 (b.toNat * 256)) = q
    have HQ := Lib.hid hq
    clear hq
    by_cases hlt : k < 8
    · by_cases h1 : (32768 : Int) ≤ (q.toNat : Int)
      · have hd : decide ((32768 : Int) ≤ (q.toNat : Int)) = true := by simpa using h1
        go_wp2
        go_round
        case rel => exact ⟨k + 1, by omega, by go_num, by rw [shl16, xor16k, ← stp_hi' h1, ← HQ.out]; rfl⟩
        case measure => simp [intOf]; omega
      · have hd : decide ((32768 : Int) ≤ (q.toNat : Int)) = false := by simpa using h1
        go_wp2
        go_round
        case rel => exact ⟨k + 1, by omega, by go_num, by rw [shl16l _ (by omega), ← stp_lo' (by omega), ← HQ.out]; rfl⟩
        case measure => simp [intOf]; omega
    · go_wp2
      go_ret
      obtain rfl : k = 8 := by omega
      exact ⟨ret_i (by rw [← HQ.out]; rfl), rfl⟩
theorem byte_at (l : List UInt8) (k : Nat) (h : k < l.length) : (l.map bv)[k]'(by simpa using h) = .int .u8 ((l[k].toNat : Nat) : Int) := by simp [bv]
theorem crc_take (l : List UInt8) (k : Nat) (h : k < l.length) : nxt (crc (l.take k)) l[k] = crc (l.take (k + 1)) := by
  rw [List.take_succ_eq_append_getElem h]; unfold crc; rw [sumOf_snoc]
set_option maxHeartbeats 400000 in
theorem sum_any (l : List UInt8) (F : Nat → Prop) (A : Option Addr) (n c : Nat) (w : World) (h : Sl w F A n c l) :
    Calls Try.prog 19 #[.slice A n c] w fun e w' => e = .returned (.int .u16 ((crc l).toNat : Int)) ∧ w = w' := by
  have hm : n ≤ maxLen := Nat.le_trans h.cap h.max
  unfold maxLen at hm
  have HN := Lib.hid h.len.symm
  have HR := Lib.hid h.rd
  clear h
  go_enter Try.func19, Try.ntmps19
  go_wp2
  go_loop [3, 5, 8] (fun x y i => ∃ k : Nat, k ≤ n ∧ i = .int .i64 k ∧ x = .int .u16 ((crc (l.take k)).toNat : Int)) (fun _ _ i => n - (intOf i).toNat)
  case atStart => exact ⟨0, by omega, rfl, rfl⟩
  case round =>
    obtain ⟨k, hk, rfl, rfl⟩ := hrel
    generalize hq : crc (l.take k) = q
    have HQ := Lib.hid hq
    clear hq
    by_cases hlt : k < n
    · have hkl : k < l.length := by have := HN.out; omega
      obtain ⟨b, o, rfl, _, hcell⟩ := HR.out.at_ (k := k) (by simpa using hkl)
      rw [byte_at l k hkl] at hcell
      have hstep := crc_take l k hkl
      rw [HQ.out] at hstep
      have HS := Lib.hid hstep
      clear hstep
      generalize l[k] = x at hcell HS
      have hxb := byte_lt x
      go_wp2_with fail
      refine (next_any q x w).mono ?_
      rintro e w' ⟨rfl, rfl⟩
      go_wp2
      go_round
      case rel => exact ⟨k + 1, by omega, by go_num, by rw [HS.out]⟩
      case measure => simp [intOf]; omega
    · go_wp2
      go_ret
      exact ⟨ret_i (by rw [← HQ.out, List.take_of_length_le (by have := HN.out; omega)]), rfl⟩
set_option maxHeartbeats 400000 in
theorem rsum_any (l : List UInt8) (F : Nat → Prop) (A : Option Addr) (n c : Nat) (w : World) (h : Sl w F A n c l) :
    Calls Try.prog 20 #[.slice A n c] w fun e w' => e = .returned (.int .u16 ((crc l).toNat : Int)) ∧ w = w' := by
  have hm : n ≤ maxLen := Nat.le_trans h.cap h.max
  unfold maxLen at hm
  have HN := Lib.hid h.len.symm
  have HR := Lib.hid h.rd
  clear h
  go_enter Try.func20, Try.ntmps20
  go_wp2
  go_loop [3, 4] (fun x i => ∃ k : Nat, k ≤ n ∧ i = .int .i64 k ∧ x = .int .u16 ((crc (l.take k)).toNat : Int)) (fun _ i => n - (intOf i).toNat)
  case atStart => exact ⟨0, by omega, rfl, rfl⟩
  case round =>
    obtain ⟨k, hk, rfl, rfl⟩ := hrel
    generalize hq : crc (l.take k) = q
    have HQ := Lib.hid hq
    clear hq
    by_cases hlt : k < n
    · have hkl : k < l.length := by have := HN.out; omega
      obtain ⟨b, o, rfl, _, hcell⟩ := HR.out.at_ (k := k) (by simpa using hkl)
      rw [byte_at l k hkl] at hcell
      have hstep := crc_take l k hkl
      rw [HQ.out] at hstep
      have HS := Lib.hid hstep
      clear hstep
      generalize l[k] = x at hcell HS
      have hxb := byte_lt x
      go_wp2_with fail
      refine (rnext_any q x w).mono ?_
      rintro e w' ⟨rfl, rfl⟩
      go_wp2
      go_round
      case rel => exact ⟨k + 1, by omega, by go_num, by rw [HS.out]⟩
      case measure => simp [intOf]; omega
    · go_wp2
      go_ret
      exact ⟨ret_i (by rw [← HQ.out, List.take_of_length_le (by have := HN.out; omega)]), rfl⟩
end Go.Proofs.Ytbdencfgiemliaa
