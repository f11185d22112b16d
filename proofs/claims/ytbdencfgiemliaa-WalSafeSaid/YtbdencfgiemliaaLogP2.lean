/-
  Plain laws of halves: what a write into one half leaves of both; what find tells of a disk's bytes. No program.
-/
import Derived.Test.YtbdencfgiemliaaLogP1
import Derived.Test.YtbdencfgiemliaaWalLaw
namespace Go.Proofs.Ytbdencfgiemliaa
set_option linter.unusedVariables false
theorem poke_eq (b : List UInt8) : ∀ (k : List UInt8) (a : Nat), a + b.length ≤ k.length → poke k a b = k.take a ++ (b ++ k.drop (a + b.length)) := by
  induction b with
  | nil =>
    intro k a h
    show k = _
    simp
  | cons x t ih =>
    intro k a h
    rw [List.length_cons] at h
    have h1 : poke k a (x :: t) = poke (k.set a x) (a + 1) t := by
      unfold poke
      show layAll 0 (layOne 0 k (a, x)) (at_ (a + 1) t) = _
      congr 1
      unfold layOne
      rw [if_pos ⟨Nat.zero_le _, by simp only [Nat.sub_zero]; omega⟩]
      rfl
    rw [h1, ih (k.set a x) (a + 1) (by rw [List.length_set]; omega)]
    have h2 : (k.set a x).take (a + 1) = k.take a ++ [x] := by
      rw [List.take_add_one, List.getElem?_set_self (by omega), List.take_set_of_le (Nat.le_refl _)]
      rfl
    have h3 : (k.set a x).drop (a + 1 + t.length) = k.drop (a + (t.length + 1)) := by
      rw [List.drop_set_of_lt (by omega)]
      congr 1
      omega
    rw [h2, h3, List.append_assoc, List.length_cons]
    rfl
theorem poke_left (h t : List UInt8) (a : Nat) (b : List UInt8) (hf : a + b.length ≤ h.length) : poke (h ++ t) a b = poke h a b ++ t := by
  rw [poke_eq b (h ++ t) a (by rw [List.length_append]; omega), poke_eq b h a hf, List.take_append_of_le_length (by omega), List.drop_append_of_le_length (by omega)]
  simp
theorem poke_right (h t : List UInt8) (a : Nat) (b : List UInt8) (hf : a + b.length ≤ t.length) : poke (h ++ t) (h.length + a) b = h ++ poke t a b := by
  rw [poke_eq b (h ++ t) (h.length + a) (by rw [List.length_append]; omega), poke_eq b t a hf, List.take_append, List.take_of_length_le (by omega), Nat.add_sub_cancel_left, Nat.add_assoc, List.drop_append, List.drop_of_length_le (by omega), Nat.add_sub_cancel_left]
  simp
theorem pokes_left (ps : List (Nat × List UInt8)) : ∀ (h t : List UInt8), (∀ p ∈ ps, p.1 + p.2.length ≤ h.length) → pokes (h ++ t) ps = pokes h ps ++ t := by
  induction ps with
  | nil => intro h t _; rfl
  | cons p r ih =>
    intro h t hf
    show pokes (poke (h ++ t) p.1 p.2) r = pokes (poke h p.1 p.2) r ++ t
    rw [poke_left h t p.1 p.2 (hf p (by simp)), ih _ _ fun q hq => by rw [poke_len]; exact hf q (by simp [hq])]
/-- A half's bytes. -/
def hb (k : List UInt8) (i : Nat) : List UInt8 := (k.drop (i * (k.length / 2))).take (k.length / 2)
theorem hb_len (k : List UInt8) (i : Nat) (hi : i ≤ 1) : (hb k i).length = k.length / 2 := by
  unfold hb
  rw [List.length_take, List.length_drop]
  obtain rfl | rfl : i = 0 ∨ i = 1 := by omega
  · omega
  · omega
theorem calm_halfB (s : DSt) (h : s.waits = []) (i : Nat) : s.halfB i = hb s.kept i := by
  unfold DSt.halfB DSt.read DSt.all hb
  rw [h]
  rfl
/-- A disk's bytes: two halves, and what is left. -/
theorem halves (k : List UInt8) : k = hb k 0 ++ (hb k 1 ++ k.drop (2 * (k.length / 2))) := by
  unfold hb
  rw [Nat.zero_mul, List.drop_zero, Nat.one_mul]
  have h1 : (k.drop (k.length / 2)).take (k.length / 2) ++ k.drop (2 * (k.length / 2)) = k.drop (k.length / 2) := by
    have := List.take_append_drop (k.length / 2) (k.drop (k.length / 2))
    rw [List.drop_drop] at this
    rw [show 2 * (k.length / 2) = k.length / 2 + k.length / 2 by omega]
    exact this
  rw [h1, List.take_append_drop]
theorem hb_of (h0 h1 e : List UInt8) (he : e.length ≤ 1) (hl : h0.length = h1.length) : hb (h0 ++ (h1 ++ e)) 0 = h0 ∧ hb (h0 ++ (h1 ++ e)) 1 = h1 ∧ (h0 ++ (h1 ++ e)).length / 2 = h0.length := by
  have hz : (h0 ++ (h1 ++ e)).length / 2 = h0.length := by rw [List.length_append, List.length_append]; omega
  unfold hb
  rw [hz, Nat.zero_mul, Nat.one_mul, List.drop_zero, List.drop_left]
  refine ⟨by simp, ?_, rfl⟩
  rw [hl]
  simp
/-- A write within a half: that half has turned, the other has not. -/
theorem hb_poke (k : List UInt8) (i a : Nat) (b : List UInt8) (hi : i ≤ 1) (hf : a + b.length ≤ k.length / 2) : hb (poke k (i * (k.length / 2) + a) b) i = poke (hb k i) a b ∧ hb (poke k (i * (k.length / 2) + a) b) (1 - i) = hb k (1 - i) := by
  obtain ⟨z, hz⟩ : ∃ z, z = k.length / 2 := ⟨_, rfl⟩
  have l0 := hb_len k 0 (by omega)
  have l1 := hb_len k 1 (by omega)
  have he : (k.drop (2 * (k.length / 2))).length ≤ 1 := by rw [List.length_drop]; omega
  obtain ⟨e, hee⟩ : ∃ e, e = k.drop (2 * (k.length / 2)) := ⟨_, rfl⟩
  obtain ⟨h0, hh0⟩ : ∃ h0, h0 = hb k 0 := ⟨_, rfl⟩
  obtain ⟨h1, hh1⟩ : ∃ h1, h1 = hb k 1 := ⟨_, rfl⟩
  have hk := halves k
  rw [← hee, ← hh0, ← hh1] at hk
  rw [← hh0] at l0
  rw [← hh1] at l1
  rw [← hee] at he
  rw [← hz] at l0 l1 hf ⊢
  obtain rfl | rfl : i = 0 ∨ i = 1 := by omega
  · have hp : poke k (0 * z + a) b = poke h0 a b ++ (h1 ++ e) := by
      rw [hk, Nat.zero_mul, Nat.zero_add, poke_left _ _ _ _ (by omega)]
    obtain ⟨q0, q1, _⟩ := hb_of (poke h0 a b) h1 e he (by rw [poke_len]; omega)
    rw [hp, q0, ← hh0]
    exact ⟨rfl, by rw [q1, ← hh1]⟩
  · have hp : poke k (1 * z + a) b = h0 ++ (poke h1 a b ++ e) := by
      rw [hk, Nat.one_mul, ← l0, poke_right _ _ _ _ (by rw [List.length_append]; omega), poke_left _ _ _ _ (by omega)]
    obtain ⟨q0, q1, _⟩ := hb_of h0 (poke h1 a b) e he (by rw [poke_len]; omega)
    rw [hp, q1, ← hh1]
    exact ⟨rfl, by rw [q0, ← hh0]⟩
/-- Writes within a half, one behind the other. -/
def inHalf (i z : Nat) (ps : List (Nat × List UInt8)) : List (Nat × List UInt8) := ps.map fun p => (i * z + p.1, p.2)
theorem hb_pokes (i : Nat) (hi : i ≤ 1) (ps : List (Nat × List UInt8)) : ∀ k : List UInt8, (∀ p ∈ ps, p.1 + p.2.length ≤ k.length / 2) → hb (pokes k (inHalf i (k.length / 2) ps)) i = pokes (hb k i) ps ∧ hb (pokes k (inHalf i (k.length / 2) ps)) (1 - i) = hb k (1 - i) := by
  induction ps with
  | nil => intro k _; exact ⟨rfl, rfl⟩
  | cons p r ih =>
    intro k hf
    obtain ⟨h1, h2⟩ := hb_poke k i p.1 p.2 hi (hf p (by simp))
    have h3 := ih (poke k (i * (k.length / 2) + p.1) p.2) fun q hq => by rw [poke_len]; exact hf q (by simp [hq])
    rw [poke_len, h1, h2] at h3
    exact h3
theorem compactW_in (z half turn : Nat) (l : List UInt8) : compactW z half turn l = inHalf half z [(0, List.replicate 5 0), (5, List.replicate (z - 5) 0), (5, frameL l), (0, headL turn)] := rfl
theorem clearW_in (z half stop q : Nat) : clearW z half stop q = inHalf half z [(q, List.replicate (z - q) 0), (stop, List.replicate (q - stop) 0)] := rfl
/-- The half in use. -/
theorem findK_congr {s s' : DSt} (h : ∀ i, s.halfB i = s'.halfB i) (n : Nat) : s.findK n = s'.findK n := by
  induction n with
  | zero => rfl
  | succ n ih => rw [DSt.findK, DSt.findK, ih, h n]
theorem findK_two (s : DSt) : s.findK 2 = if turnOf (s.halfB 0) < turnOf (s.halfB 1) then (1, turnOf (s.halfB 1), some (s.halfB 1)) else if -1 < turnOf (s.halfB 0) then (0, turnOf (s.halfB 0), some (s.halfB 0)) else (0, -1, none) := by
  have e0 : s.findK 0 = (0, -1, none) := rfl
  have h0 := (turnOf_ge (s.halfB 0)).1
  have h1 := (turnOf_ge (s.halfB 1)).1
  rw [DSt.findK, DSt.findK, e0]
  by_cases ha : -1 < turnOf (s.halfB 0)
  · rw [if_pos ha]
  · rw [if_neg ha]
    have : turnOf (s.halfB 0) = -1 := by omega
    rw [this]
/-- A half of the greater turn is the one in use. -/
theorem findK_use {s : DSt} {i : Nat} (hi : i ≤ 1) (h0 : 0 ≤ turnOf (s.halfB i)) (h1 : turnOf (s.halfB (1 - i)) < turnOf (s.halfB i)) : s.findK 2 = (i, turnOf (s.halfB i), some (s.halfB i)) := by
  rw [findK_two]
  obtain rfl | rfl : i = 0 ∨ i = 1 := by omega
  · rw [Nat.sub_zero] at h1
    rw [if_neg (by omega), if_pos (by omega)]
  · rw [Nat.sub_self] at h1
    rw [if_pos h1]
end Go.Proofs.Ytbdencfgiemliaa
