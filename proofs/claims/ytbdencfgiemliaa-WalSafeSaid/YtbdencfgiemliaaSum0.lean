/-
  Plain arithmetic: a step of a 16-bit sum, as a function on BitVec 16, and the forms in which the walk meets it. No condition.
-/
import Derived.Test.YtbdencfgiemliaaWords
namespace Go.Proofs.Ytbdencfgiemliaa
open Go.RowKit

/-- One step of a sum: twice, and the polynomial if the highest bit was set. -/
def stp (c : BitVec 16) : BitVec 16 := if c.msb then (c <<< 1) ^^^ 4129#16 else c <<< 1
def stps : Nat → BitVec 16 → BitVec 16
  | 0, c => c
  | n + 1, c => stp (stps n c)
/-- The sum's next value, behind a byte. -/
def nxt (c : BitVec 16) (b : UInt8) : BitVec 16 := stps 8 (c ^^^ BitVec.ofNat 16 (b.toNat * 256))
def sumOf (c : BitVec 16) (l : List UInt8) : BitVec 16 := l.foldl nxt c
def crc (l : List UInt8) : BitVec 16 := sumOf 65535#16 l

def V16 (c : BitVec 16) : Value := .int .u16 (c.toNat : Int)

theorem u16_wrap (x : Nat) : IntKind.u16.wrap (x : Int) = ((x % 65536 : Nat) : Int) := by
  rw [IntKind.wrap_u16]; omega
theorem u16_wrap_lt (x : Nat) (h : x < 65536) : IntKind.u16.wrap (x : Int) = (x : Int) := by
  rw [u16_wrap, Nat.mod_eq_of_lt h]
theorem ofInt16 (c : BitVec 16) : BitVec.ofInt 16 (c.toNat : Int) = c := by
  rw [BitVec.ofInt_natCast, BitVec.ofNat_toNat, BitVec.setWidth_eq]
theorem xor16 (c d : BitVec 16) : bits BinOp.xor IntKind.u16 (c.toNat : Int) (d.toNat : Int) = ((c ^^^ d).toNat : Int) := by
  show IntKind.u16.wrap ((BitVec.ofInt 16 (c.toNat : Int) ^^^ BitVec.ofInt 16 (d.toNat : Int)).toNat : Int) = _
  rw [ofInt16, ofInt16, u16_wrap_lt _ (BitVec.isLt _)]
theorem and16 (c d : BitVec 16) : bits BinOp.and IntKind.u16 (c.toNat : Int) (d.toNat : Int) = ((c &&& d).toNat : Int) := by
  show IntKind.u16.wrap ((BitVec.ofInt 16 (c.toNat : Int) &&& BitVec.ofInt 16 (d.toNat : Int)).toNat : Int) = _
  rw [ofInt16, ofInt16, u16_wrap_lt _ (BitVec.isLt _)]
theorem shl16 (c : BitVec 16) : IntKind.u16.wrap ((c.toNat : Int) * 2) = ((c <<< 1).toNat : Int) := by
  rw [show ((c.toNat : Int) * 2) = ((c.toNat * 2 : Nat) : Int) from by omega, u16_wrap, BitVec.toNat_shiftLeft, Nat.shiftLeft_eq]
theorem shl16l (c : BitVec 16) (h : c.toNat < 32768) : (c.toNat : Int) * (2 : Int) = (((c <<< 1).toNat : Nat) : Int) := by
  rw [BitVec.toNat_shiftLeft, Nat.shiftLeft_eq, Nat.mod_eq_of_lt (by omega)]; omega
theorem xor16k (c : BitVec 16) : bits BinOp.xor IntKind.u16 (c.toNat : Int) 4129 = ((c ^^^ 4129#16).toNat : Int) := xor16 c 4129#16
theorem wrapb (b : UInt8) : IntKind.u16.wrap (IntKind.u16.wrap (b.toNat : Int) * 256) = ((BitVec.ofNat 16 (b.toNat * 256)).toNat : Int) := by
  have := b.toBitVec.isLt
  have h : b.toNat < 256 := this
  rw [u16_wrap_lt _ (by omega), show ((b.toNat : Int) * 256) = ((b.toNat * 256 : Nat) : Int) from by omega, u16_wrap, BitVec.toNat_ofNat]
theorem startb (c : BitVec 16) (b : UInt8) : bits BinOp.xor IntKind.u16 (c.toNat : Int) ((b.toNat : Int) * 256) = ((stps 0 (c ^^^ BitVec.ofNat 16 (b.toNat * 256))).toNat : Int) := by
  have h : b.toNat < 256 := b.toBitVec.isLt
  have e : ((b.toNat : Int) * 256) = ((BitVec.ofNat 16 (b.toNat * 256)).toNat : Int) := by
    rw [BitVec.toNat_ofNat, Nat.mod_eq_of_lt (by omega)]; omega
  rw [e, xor16]; rfl
theorem and_high (c : BitVec 16) : (c &&& 32768#16).toNat = if c.msb then 32768 else 0 := by
  have h : c &&& 32768#16 = if c.msb then 32768#16 else 0#16 := by
    apply BitVec.eq_of_getElem_eq
    intro i hi
    have h32 : (32768#16)[i] = decide (i = 15) := by
      have : ∀ j : Fin 16, (32768#16).getLsbD j.1 = decide (j.1 = 15) := by decide
      rw [← BitVec.getLsbD_eq_getElem]
      exact this ⟨i, hi⟩
    rw [BitVec.getElem_and, h32]
    by_cases hm : c.msb
    · rw [if_pos hm, h32]
      by_cases h15 : i = 15
      · subst h15; simp [BitVec.msb_eq_getLsbD_last] at hm; simp [hm]
      · simp [h15]
    · rw [if_neg hm]
      by_cases h15 : i = 15
      · subst h15; simp [BitVec.msb_eq_getLsbD_last] at hm; simp [hm]
      · simp [h15]
  rw [h]; split <;> rfl
theorem stp_hi {c : BitVec 16} (h : (0 : Int) < bits BinOp.and IntKind.u16 (c.toNat : Int) 32768) : stp c = (c <<< 1) ^^^ 4129#16 := by
  have e : bits BinOp.and IntKind.u16 (c.toNat : Int) 32768 = ((c &&& 32768#16).toNat : Int) := and16 c 32768#16
  rw [e, and_high] at h
  unfold stp
  by_cases hm : c.msb
  · rw [if_pos hm]
  · rw [if_neg hm] at h; simp at h
theorem stp_lo {c : BitVec 16} (h : bits BinOp.and IntKind.u16 (c.toNat : Int) 32768 ≤ 0) : stp c = c <<< 1 := by
  have e : bits BinOp.and IntKind.u16 (c.toNat : Int) 32768 = ((c &&& 32768#16).toNat : Int) := and16 c 32768#16
  rw [e, and_high] at h
  unfold stp
  by_cases hm : c.msb
  · rw [if_pos hm] at h; simp at h
  · rw [if_neg hm]
theorem msb_iff (c : BitVec 16) : c.msb = decide (32768 ≤ c.toNat) := by
  rw [BitVec.msb_eq_decide]
theorem stp_hi' {c : BitVec 16} (h : (32768 : Int) ≤ (c.toNat : Int)) : stp c = (c <<< 1) ^^^ 4129#16 := by
  unfold stp; rw [msb_iff, if_pos (by simp; omega)]
theorem stp_lo' {c : BitVec 16} (h : (c.toNat : Int) < 32768) : stp c = c <<< 1 := by
  unfold stp; rw [msb_iff, if_neg (by simp; omega)]
theorem sumOf_snoc (c : BitVec 16) (l : List UInt8) (x : UInt8) : sumOf c (l ++ [x]) = nxt (sumOf c l) x := by simp [sumOf]
theorem sumOf_append (c : BitVec 16) (l m : List UInt8) : sumOf c (l ++ m) = sumOf (sumOf c l) m := by simp [sumOf]
end Go.Proofs.Ytbdencfgiemliaa
