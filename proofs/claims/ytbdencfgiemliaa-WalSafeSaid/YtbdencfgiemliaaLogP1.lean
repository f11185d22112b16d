/-
  Plain laws of frames: a frame reads back as what it holds, whatever stands behind it; frames in a row read back in their order; zeroes behind frames change nothing. No program.
-/
import Derived.Test.YtbdencfgiemliaaWal10
namespace Go.Proofs.Ytbdencfgiemliaa
set_option linter.unusedVariables false
theorem whole_of_stamp (l : List UInt8) : isWhole (stampL l) = true ∧ wholeL (stampL l) = l := by
  have h : isWhole (stampL l) = true := by
    unfold stampL
    rw [whole_pair]
    have h1 : (hi8 (crc l)).toNat = (crc l).toNat / 256 := by
      have := (crc l).isLt
      simp only [hi8, UInt8.toNat_ofNat']
      rw [Nat.mod_eq_of_lt (by omega)]
    have h2 : (lo8 (crc l)).toNat = (crc l).toNat % 256 := by
      simp only [lo8, UInt8.toNat_ofNat']
    rw [decide_eq_true h1, decide_eq_true h2]
    rfl
  refine ⟨h, ?_⟩
  unfold wholeL
  rw [if_pos h]
  unfold stampL
  rw [List.length_append]
  simp
/-- Whatever stands behind a closed frame makes no difference to it. -/
theorem first_congr {p t t' : List UInt8} (h : hasFrame (p ++ t)) (hp : p.length = firstN (p ++ t) + 5) : firstN (p ++ t') = firstN (p ++ t) ∧ hasFrame (p ++ t') ∧ midL (p ++ t') = midL (p ++ t) ∧ (p ++ t').drop (firstN (p ++ t) + 5) = t' := by
  have hg : ∀ j, j < p.length → (p ++ t').getD j 0 = (p ++ t).getD j 0 := fun j hj => by
    rw [List.getD_eq_getElem?_getD, List.getD_eq_getElem?_getD, List.getElem?_append_left hj, List.getElem?_append_left hj]
  have hN : firstN (p ++ t') = firstN (p ++ t) := by
    unfold firstN
    rw [hg 0 (by omega), hg 1 (by omega)]
  refine ⟨hN, ⟨?_, ?_, ?_, ?_⟩, ?_, ?_⟩
  · rw [List.length_append]; omega
  · rw [hN]; exact h.2.1
  · rw [hN, List.length_append]; omega
  · rw [hN, hg _ (by omega)]; exact h.2.2.2
  · unfold midL
    rw [hN, List.take_append_of_le_length (by omega), List.take_append_of_le_length (by omega)]
  · rw [← hp, List.drop_left]
theorem first_same {p t t' : List UInt8} (h : hasFrame (p ++ t)) (hp : p.length = firstN (p ++ t) + 5) : isFirst (p ++ t') = isFirst (p ++ t) ∧ heldL (p ++ t') = heldL (p ++ t) ∧ restL (p ++ t') = t' ∧ restL (p ++ t) = t := by
  obtain ⟨h1, h2, h3, h4⟩ := first_congr (t' := t') h hp
  obtain ⟨_, _, _, h5⟩ := first_congr (t' := t) h hp
  unfold isFirst heldL restL
  rw [if_pos h, if_pos h, if_pos h, if_pos h2, if_pos h2, if_pos h2, h3, h1, h4, h5]
  exact ⟨rfl, rfl, rfl, rfl⟩
/-- A frame reads back. -/
theorem frame_has (b t : List UInt8) (hb : b.length ≤ 8192) : hasFrame (frameL b ++ t) ∧ firstN (frameL b ++ t) = b.length := by
  have h0 : (frameL b ++ t).getD 0 0 = UInt8.ofNat (b.length / 256) := rfl
  have h1 : (frameL b ++ t).getD 1 0 = UInt8.ofNat b.length := rfl
  have hN : firstN (frameL b ++ t) = b.length := by
    unfold firstN
    rw [h0, h1, UInt8.toNat_ofNat', UInt8.toNat_ofNat', Nat.mod_eq_of_lt (by omega)]
    simp only [Nat.reducePow]
    omega
  refine ⟨⟨?_, ?_, ?_, ?_⟩, hN⟩
  · rw [List.length_append, frameL_len]; omega
  · rw [hN]; exact hb
  · rw [hN, List.length_append, frameL_len]; omega
  · rw [hN, List.getD_eq_getElem?_getD, List.getElem?_append_left (by rw [frameL_len]; omega)]
    have : (frameL b)[b.length + 4]? = some 1 := by
      unfold frameL
      rw [List.getElem?_append_right (by simp), List.getElem?_append_right (by unfold stampL; simp)]
      unfold stampL
      simp
    rw [this]
    rfl
theorem frame_mid (b t : List UInt8) (hb : b.length ≤ 8192) : midL (frameL b ++ t) = stampL b := by
  unfold midL
  rw [(frame_has b t hb).2, List.take_append_of_le_length (by rw [frameL_len]; omega)]
  unfold frameL
  have hl : ([UInt8.ofNat (b.length / 256), UInt8.ofNat b.length] ++ stampL b).length = b.length + 4 := by unfold stampL; simp
  rw [← List.append_assoc, List.take_append_of_le_length (by omega), List.take_of_length_le (by omega)]
  rfl
theorem frame_first (b t : List UInt8) (hb : b.length ≤ 8192) : isFirst (frameL b ++ t) = true ∧ heldL (frameL b ++ t) = b ∧ restL (frameL b ++ t) = t := by
  obtain ⟨h1, h2⟩ := frame_has b t hb
  obtain ⟨w1, w2⟩ := whole_of_stamp b
  unfold isFirst heldL restL
  rw [if_pos h1, if_pos h1, if_pos h1, frame_mid b t hb, h2, w1, w2]
  refine ⟨rfl, rfl, ?_⟩
  rw [← frameL_len b, List.drop_left]
/-- Frames in a row. -/
def framesT (fs : List (List UInt8)) : List UInt8 := fs.flatMap frameL
theorem framesT_cons (b : List UInt8) (fs : List (List UInt8)) : framesT (b :: fs) = frameL b ++ framesT fs := rfl
theorem framesT_snoc (fs : List (List UInt8)) (b : List UInt8) : framesT (fs ++ [b]) = framesT fs ++ frameL b := by
  unfold framesT
  simp
/-- Frames in a row read back in their order, up to what does not begin with one. -/
theorem frames_parse (fs : List (List UInt8)) : ∀ (k : Nat) (t : List UInt8), (∀ b ∈ fs, b.length ≤ 8192) → isFirst t = false → (framesT fs ++ t).length ≤ k → framesF k (framesT fs ++ t) = (fs, t) := by
  induction fs with
  | nil =>
    intro k t _ ht _
    exact framesF_no ht
  | cons b fs ih =>
    intro k t hb ht hk
    rw [framesT_cons, List.append_assoc] at hk ⊢
    obtain ⟨h1, h2, h3⟩ := frame_first b (framesT fs ++ t) (hb b (by simp))
    rw [List.length_append, frameL_len] at hk
    obtain ⟨k, rfl⟩ : ∃ k', k = k' + 1 := ⟨k - 1, by omega⟩
    rw [framesF_yes h1, h2, h3, ih k t (fun q hq => hb q (by simp [hq])) ht (by omega)]
/-- What does not begin with a closed frame. -/
def Junk (t : List UInt8) : Prop := (t.getD (firstN t + 4) 0).toNat ≠ 1
theorem Junk.no {t : List UInt8} (h : Junk t) : isFirst t = false := by
  unfold isFirst
  rw [if_neg]
  intro hf
  exact h hf.2.2.2
theorem zeros_getD (n j : Nat) : (List.replicate n (0 : UInt8)).getD j 0 = 0 := by
  rw [List.getD_eq_getElem?_getD, List.getElem?_replicate]
  split <;> rfl
theorem junk_zeros (n : Nat) : Junk (List.replicate n 0) := by
  unfold Junk
  rw [zeros_getD]
  decide
theorem zeros_clean (n : Nat) : ((List.replicate n (0 : UInt8)).any fun x => x != 0) = false := by
  rw [List.any_eq_false]
  intro x hx
  rw [List.eq_of_mem_replicate hx]
  decide
theorem clean_zeros (t : List UInt8) (h : (t.any fun x => x != 0) = false) : t = List.replicate t.length 0 := by
  rw [List.any_eq_false] at h
  apply List.eq_replicate_of_mem
  intro x hx
  have := h x hx
  simpa using this
/-- Zeroes in place of what stands behind the frames: the same frames. -/
theorem frames_zero (k : Nat) : ∀ (l : List UInt8), l.length ≤ k → framesF k (l.take (l.length - (framesF k l).2.length) ++ List.replicate (framesF k l).2.length 0) = ((framesF k l).1, List.replicate (framesF k l).2.length 0) := by
  induction k with
  | zero =>
    intro l hl
    have : l = [] := List.eq_nil_of_length_eq_zero (by omega)
    subst this
    rfl
  | succ k ih =>
    intro l hl
    by_cases h : isFirst l = true
    · have hf := isFirst_has h
      have hlt := restL_lt h
      have hrl : restL l = l.drop (firstN l + 5) := by unfold restL; rw [if_pos hf]
      have hpl : (l.take (firstN l + 5)).length = firstN l + 5 := by rw [List.length_take]; have := hf.2.2.1; omega
      have hsplit : l.take (firstN l + 5) ++ restL l = l := by rw [hrl]; exact List.take_append_drop _ _
      have hle := framesF_rest_le k (restL l)
      rw [framesF_yes h]
      simp only
      have htake : l.take (l.length - (framesF k (restL l)).2.length) = l.take (firstN l + 5) ++ (restL l).take ((restL l).length - (framesF k (restL l)).2.length) := by
        have e1 : l.length = firstN l + 5 + (restL l).length := by rw [← hpl, ← List.length_append, hsplit]
        have e2 : l.length - (framesF k (restL l)).2.length = firstN l + 5 + ((restL l).length - (framesF k (restL l)).2.length) := by omega
        rw [e2, hrl, ← List.take_add]
      rw [htake, List.append_assoc]
      have hf' : hasFrame (l.take (firstN l + 5) ++ restL l) := by rw [hsplit]; exact hf
      have hp' : (l.take (firstN l + 5)).length = firstN (l.take (firstN l + 5) ++ restL l) + 5 := by rw [hsplit]; exact hpl
      obtain ⟨g1, g2, g3, _⟩ := first_same (t' := (restL l).take ((restL l).length - (framesF k (restL l)).2.length) ++ List.replicate (framesF k (restL l)).2.length 0) hf' hp'
      rw [hsplit] at g1 g2
      rw [framesF_yes (by rw [g1]; exact h), g2, g3, ih (restL l) (by omega)]
    · have h' : isFirst l = false := by simpa using h
      rw [framesF_no h']
      simp only
      rw [Nat.sub_self, List.take_zero, List.nil_append, framesF_no (junk_zeros _).no]
end Go.Proofs.Ytbdencfgiemliaa
