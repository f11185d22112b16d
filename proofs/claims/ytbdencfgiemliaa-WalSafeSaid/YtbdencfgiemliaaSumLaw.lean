/-
  Plain laws of sums: linear, one to one, and two bytes behind a sum make it zero just if they are the sum's own. No condition.
-/
import Derived.Test.YtbdencfgiemliaaSum0
namespace Go.Proofs.Ytbdencfgiemliaa
theorem stp_xor (c d : BitVec 16) : stp (c ^^^ d) = stp c ^^^ stp d := by
  unfold stp
  rw [BitVec.msb_xor]
  cases hc : c.msb <;> cases hd : d.msb <;> simp [BitVec.shiftLeft_xor_distrib]
  · ac_rfl
  · ac_rfl
  · rw [show c <<< 1 ^^^ 4129#16 ^^^ (d <<< 1 ^^^ 4129#16) = (c <<< 1 ^^^ d <<< 1) ^^^ (4129#16 ^^^ 4129#16) from by ac_rfl]; simp
theorem stps_xor (n : Nat) (c d : BitVec 16) : stps n (c ^^^ d) = stps n c ^^^ stps n d := by
  induction n with
  | zero => rfl
  | succ n ih => simp only [stps, ih, stp_xor]
theorem stps_zero (n : Nat) : stps n 0#16 = 0#16 := by
  induction n with
  | zero => rfl
  | succ n ih => simp only [stps, ih]; decide
theorem stp_eq_zero {c : BitVec 16} (h : stp c = 0#16) : c = 0#16 := by
  unfold stp at h
  rw [msb_iff] at h
  by_cases hm : 32768 ≤ c.toNat
  · rw [if_pos (by simpa using hm)] at h
    have h0 : ((c <<< 1) ^^^ 4129#16).getLsbD 0 = false := by rw [h]; rfl
    rw [BitVec.getLsbD_xor, BitVec.getLsbD_shiftLeft] at h0
    simp at h0
  · rw [if_neg (by simpa using hm)] at h
    have h0 : (c <<< 1).toNat = 0 := by rw [h]; rfl
    rw [BitVec.toNat_shiftLeft, Nat.shiftLeft_eq, Nat.mod_eq_of_lt (by omega)] at h0
    apply BitVec.eq_of_toNat_eq
    simp only [BitVec.toNat_ofNat]
    omega
theorem stps_eq_zero {n : Nat} {c : BitVec 16} (h : stps n c = 0#16) : c = 0#16 := by
  induction n with
  | zero => exact h
  | succ n ih => exact ih (stp_eq_zero h)
theorem stps_inj {n : Nat} {c d : BitVec 16} (h : stps n c = stps n d) : c = d := by
  have h1 : stps n (c ^^^ d) = 0#16 := by rw [stps_xor, h, BitVec.xor_self]
  exact BitVec.xor_eq_zero_iff.1 (stps_eq_zero h1)
theorem xor_left_inj16 {a b c : BitVec 16} (h : a ^^^ c = b ^^^ c) : a = b := by
  have h1 : a ^^^ c ^^^ c = b ^^^ c ^^^ c := by rw [h]
  simpa [BitVec.xor_assoc] using h1
theorem nxt_inj {c d : BitVec 16} {b : UInt8} (h : nxt c b = nxt d b) : c = d := xor_left_inj16 (stps_inj h)
theorem sumOf_inj (l : List UInt8) : ∀ {c d : BitVec 16}, sumOf c l = sumOf d l → c = d := by
  induction l with
  | nil => intro c d h; exact h
  | cons x t ih => intro c d h; exact nxt_inj (ih h)
theorem u8_lt (x : UInt8) : x.toNat < 256 := x.toBitVec.isLt
theorem u8_ext {x y : UInt8} (h : x.toNat = y.toNat) : x = y := UInt8.toNat_inj.1 h
theorem nxt_byte_inj {c : BitVec 16} {a b : UInt8} (h : nxt c a = nxt c b) : a = b := by
  have h1 := stps_inj h
  rw [BitVec.xor_comm c, BitVec.xor_comm c] at h1
  have h2 := congrArg BitVec.toNat (xor_left_inj16 h1)
  have ha := u8_lt a
  have hb := u8_lt b
  rw [BitVec.toNat_ofNat, BitVec.toNat_ofNat, Nat.mod_eq_of_lt (by omega), Nat.mod_eq_of_lt (by omega)] at h2
  exact u8_ext (by omega)
theorem crc_first (a b : UInt8) (l : List UInt8) : crc (a :: l) = crc (b :: l) ↔ a = b :=
  ⟨fun h => nxt_byte_inj (sumOf_inj l (show sumOf (nxt 65535#16 a) l = sumOf (nxt 65535#16 b) l from h)), fun h => by rw [h]⟩
theorem shift8 : ∀ y : Fin 256, stps 8 (BitVec.ofNat 16 y.1) = BitVec.ofNat 16 (y.1 * 256) := by decide +kernel
theorem shift8b (y : UInt8) : stps 8 (BitVec.ofNat 16 y.toNat) = BitVec.ofNat 16 (y.toNat * 256) := shift8 ⟨y.toNat, u8_lt y⟩
theorem low_xor (a b : Nat) (hb : b < 256) : b ^^^ (a * 256) = a * 256 + b := by
  obtain ⟨i, hi⟩ : ∃ i : Nat, i = 8 := ⟨8, rfl⟩
  have h256 : 256 = 2 ^ i := by rw [hi]
  rw [h256] at hb ⊢
  have h2 := Nat.two_pow_add_eq_or_of_lt (i := i) (b := b) hb a
  rw [Nat.mul_comm a, h2]
  apply Nat.eq_of_testBit_eq
  intro k
  rw [Nat.testBit_xor, Nat.testBit_or, Nat.testBit_two_pow_mul]
  by_cases hk : i ≤ k
  · have : b.testBit k = false := Nat.testBit_lt_two_pow (Nat.lt_of_lt_of_le hb (Nat.pow_le_pow_right (by omega) hk))
    simp [this]
  · simp [hk]
theorem toNat_xor_bytes (x y : UInt8) : (BitVec.ofNat 16 y.toNat ^^^ BitVec.ofNat 16 (x.toNat * 256)).toNat = x.toNat * 256 + y.toNat := by
  have hx := u8_lt x
  have hy := u8_lt y
  rw [BitVec.toNat_xor, BitVec.toNat_ofNat, BitVec.toNat_ofNat, Nat.mod_eq_of_lt (by omega), Nat.mod_eq_of_lt (by omega)]
  exact low_xor _ _ hy
/-- Two bytes behind a sum make it zero just if they are the sum's own. -/
theorem two_zero (c : BitVec 16) (x y : UInt8) : nxt (nxt c x) y = 0#16 ↔ x.toNat = c.toNat / 256 ∧ y.toNat = c.toNat % 256 := by
  have hx := u8_lt x
  have hy := u8_lt y
  have hc := c.isLt
  have key : nxt (nxt c x) y = 0#16 ↔ c = BitVec.ofNat 16 y.toNat ^^^ BitVec.ofNat 16 (x.toNat * 256) := by
    constructor
    · intro h
      have h1 := BitVec.xor_eq_zero_iff.1 (stps_eq_zero h)
      rw [← shift8b y] at h1
      have h2 := stps_inj h1
      rw [← h2]
      simp [BitVec.xor_assoc]
    · intro h
      have h1 : nxt c x = BitVec.ofNat 16 (y.toNat * 256) := by
        unfold nxt
        rw [h, BitVec.xor_assoc, BitVec.xor_self, BitVec.xor_zero, shift8b]
      unfold nxt at h1 ⊢
      rw [h1, BitVec.xor_self, stps_zero]
  rw [key]
  constructor
  · intro h
    have := congrArg BitVec.toNat h
    rw [toNat_xor_bytes] at this
    omega
  · intro h
    apply BitVec.eq_of_toNat_eq
    rw [toNat_xor_bytes]
    omega
theorem crc_two (p : List UInt8) (x y : UInt8) : crc (p ++ [x, y]) = 0#16 ↔ x.toNat = (crc p).toNat / 256 ∧ y.toNat = (crc p).toNat % 256 := by
  rw [← two_zero]
  unfold crc
  rw [sumOf_append]
  rfl
theorem nxt_xor (c d : BitVec 16) (x y : UInt8) : nxt (c ^^^ d) (x ^^^ y) = nxt c x ^^^ nxt d y := by
  unfold nxt
  rw [← stps_xor]
  congr 1
  have hx := u8_lt x
  have hy := u8_lt y
  have e : BitVec.ofNat 16 ((x ^^^ y).toNat * 256) = BitVec.ofNat 16 (x.toNat * 256) ^^^ BitVec.ofNat 16 (y.toNat * 256) := by
    apply BitVec.eq_of_toNat_eq
    have hxy := u8_lt (x ^^^ y)
    rw [BitVec.toNat_xor, BitVec.toNat_ofNat, BitVec.toNat_ofNat, BitVec.toNat_ofNat, Nat.mod_eq_of_lt (by omega), Nat.mod_eq_of_lt (by omega), Nat.mod_eq_of_lt (by omega)]
    rw [UInt8.toNat_xor, show (256 : Nat) = 2 ^ 8 from rfl, ← Nat.shiftLeft_eq, ← Nat.shiftLeft_eq, ← Nat.shiftLeft_eq, Nat.shiftLeft_xor_distrib]
  rw [e]
  ac_rfl
end Go.Proofs.Ytbdencfgiemliaa
