/-
  The turn of a half: contract of turn, for a slice of 5 to 65536 bytes.
-/
import Derived.Test.YtbdencfgiemliaaWal1
namespace Go.Proofs.Ytbdencfgiemliaa
open Go.RowKit
theorem or8 (m : Nat) (x : UInt8) (h : m < 16777216) : bits BinOp.or IntKind.i64 ((m : Int) * 256) (x.toNat : Int) = ((m * 256 + x.toNat : Nat) : Int) := by
  have hx := byte_lt x
  have h1 : bits BinOp.or IntKind.i64 ((m : Int) * 256) (x.toNat : Int) = IntKind.i64.wrap (((BitVec.ofInt 64 ((m : Int) * 256) ||| BitVec.ofInt 64 (x.toNat : Int)).toNat : Nat) : Int) := rfl
  have e1 : BitVec.ofInt 64 ((m : Int) * 256) = BitVec.ofNat 64 (m * 256) := by
    rw [← BitVec.ofInt_natCast]; congr 1
  have e2 : BitVec.ofInt 64 (x.toNat : Int) = BitVec.ofNat 64 x.toNat := by rw [← BitVec.ofInt_natCast]
  have e3 : m * 256 ||| x.toNat = m * 256 + x.toNat := by
    have := Nat.shiftLeft_add_eq_or_of_lt (i := 8) (b := x.toNat) hx m
    rw [Nat.shiftLeft_eq] at this
    exact this.symm
  rw [h1, e1, e2, BitVec.toNat_or, BitVec.toNat_ofNat, BitVec.toNat_ofNat, Nat.mod_eq_of_lt (by omega), Nat.mod_eq_of_lt (by omega), e3, IntKind.wrap_i64]
  omega
/-- The number that bytes spell. -/
def spell (l : List UInt8) : Nat := l.foldl (fun n x => n * 256 + x.toNat) 0
theorem spell_snoc (l : List UInt8) (x : UInt8) : spell (l ++ [x]) = spell l * 256 + x.toNat := by simp [spell]
theorem spell_lt' (l : List UInt8) : ∀ a : Nat, l.foldl (fun n x => n * 256 + x.toNat) a < (a + 1) * 256 ^ l.length := by
  induction l with
  | nil => intro a; simp
  | cons x l ih =>
    intro a
    have hx := byte_lt x
    rw [List.foldl_cons, List.length_cons, Nat.pow_succ]
    refine Nat.lt_of_lt_of_le (ih _) ?_
    rw [Nat.mul_comm (256 ^ l.length) 256, ← Nat.mul_assoc]
    exact Nat.mul_le_mul_right _ (by omega)
theorem spell_lt (l : List UInt8) : spell l < 256 ^ l.length := by
  have := spell_lt' l 0
  unfold spell
  omega
/-- The turn of a half. -/
def turnOf (l : List UInt8) : Int := if (l.getD 4 0).toNat = 165 then (spell (l.take 4) : Int) else -1
section
set_option maxRecDepth 20000
set_option maxHeartbeats 1000000
theorem turn_any (l : List UInt8) (F : Nat → Prop) (A : Option Addr) (n c : Nat) (w : World) (h : Sl w F A n c l) (hn : 5 ≤ n) (hm : n ≤ 65536) :
    Calls Try.prog 70 #[.slice A n c] w fun e w' => e = .returned (.int .i64 (turnOf l)) ∧ w = w' := by
  have hl := h.len
  have hcap := h.cap
  have hmax := h.max
  unfold maxLen at hmax
  obtain ⟨b, o, rfl, hc⟩ : ∃ b o, A = some ⟨b, o, none⟩ ∧ ∀ j (hj : j < l.length), w.cell? ⟨b, o + j, none⟩ = some (.int .u8 ((l[j].toNat : Nat) : Int)) := by
    rcases h.rd with h0 | ⟨b, o, hA, _, hc⟩
    · rw [List.map_eq_nil_iff] at h0; rw [h0] at hl; simp at hl; omega
    · exact ⟨b, o, hA, fun j hj => hc j _ (by simp [bv, hj])⟩
  have hc4 := hc 4 (by omega)
  have HC := Lib.hid hc
  have HL := Lib.hid hl
  have ht : turnOf l = if ((l[4]'(by omega)).toNat : Int) = 165 then (spell (l.take 4) : Int) else -1 := by
    unfold turnOf
    rw [List.getD_eq_getElem?_getD, List.getElem?_eq_getElem (by omega), Option.getD_some]
    by_cases hq : (l[4]'(by omega)).toNat = 165
    · rw [if_pos hq, if_pos (by omega)]
    · rw [if_neg hq, if_neg (by omega)]
  rw [ht]
  generalize (l[4]'(by omega)).toNat = x4 at *
  clear h hc hl ht
  by_cases h4 : (x4 : Int) = 165
  · rw [if_pos h4]
    obtain ⟨j1, j2⟩ := eqb_u8 _ _ h4
    go_enter Try.func70, Try.ntmps70
    go_wp2_with fail
    go_loopw [3, 13] (fun x i wr => ∃ k : Nat, k ≤ 4 ∧ i = .int .i64 k ∧ x = .int .i64 (spell (l.take k) : Int) ∧ wr = w) (fun _ i _ => 4 - (intOf i).toNat)
    case atStart => exact ⟨0, by omega, rfl, by simp [spell], rfl⟩
    case round =>
      obtain ⟨k, hk, rfl, rfl, rfl⟩ := hrel
      by_cases hlt : k < 4
      · have hkl : k < l.length := by rw [HL.out]; omega
        have hck := HC.out k hkl
        have hsp : spell (l.take (k + 1)) = spell (l.take k) * 256 + l[k].toNat := by rw [List.take_succ_eq_append_getElem hkl, spell_snoc]
        have hb : spell (l.take k) < 16777216 := Nat.lt_of_lt_of_le (spell_lt _) (by
          rw [List.length_take]
          calc 256 ^ min k l.length ≤ 256 ^ 3 := Nat.pow_le_pow_right (by omega) (by omega)
            _ = 16777216 := rfl)
        have hor := or8 (spell (l.take k)) l[k] hb
        have hbx := byte_lt l[k]
        have HSP := Lib.hid hsp
        have HOR := Lib.hid hor
        generalize spell (l.take k) = m at *
        go_wp2_with fail
        refine ⟨⟨k + 1, by omega, by go_num, ?_, trivial⟩, by simp [intOf]; omega⟩
        rw [hsp]
        simp
      · obtain rfl : k = 4 := by omega
        go_wp2_with fail
        go_ret
        exact ⟨rfl, rfl⟩
  · rw [if_neg h4]
    obtain ⟨j1, j2⟩ := neb_u8 _ _ h4
    go_enter Try.func70, Try.ntmps70
    go_wp2
    go_ret
    exact ⟨rfl, rfl⟩
end
end Go.Proofs.Ytbdencfgiemliaa
