/-
  Plain laws of a log on a disk that stops: wherever it stops, and whatever it keeps, the half in use tells the log as it was, or as it would have been; opening where the disk may stop; one call upon such a log. No program.
-/
import Derived.Test.YtbdencfgiemliaaLogP4
namespace Go.Proofs.Ytbdencfgiemliaa
set_option linter.unusedVariables false
/-- A disk that is up, with nothing pending, armed or not. -/
def up (k : List UInt8) (a : Nat) : DSt := ⟨k, [], false, a⟩
theorem at_take (b : List UInt8) : ∀ (a n : Nat), (at_ a b).take n = at_ a (b.take n) := by
  induction b with
  | nil => intro a n; simp [at_]
  | cons x t ih =>
    intro a n
    cases n with
    | zero => rfl
    | succ n => simp [at_, ih]
theorem crash_steps (ps : List (Nat × List UInt8)) : ∀ (k : List UInt8) (a : Nat), (∀ p ∈ ps, p.1 + p.2.length ≤ k.length) →
    (∃ a', (up k a).stepsE (opsOf ps) = 0 ∧ (up k a).steps (opsOf ps) = up (pokes k ps) a' ∧ (a = 0 → a' = 0)) ∨
    ((up k a).stepsE (opsOf ps) = 15 ∧ a ≠ 0 ∧ ∃ ps1 p ps2, ps = ps1 ++ p :: ps2 ∧ (up k a).steps (opsOf ps) = ⟨pokes k ps1, at_ p.1 p.2, true, 0⟩) := by
  induction ps with
  | nil => intro k a _; exact .inl ⟨a, rfl, rfl, fun h => h⟩
  | cons p t ih =>
    intro k a hf
    have hz : (up k a).ask (p.1 : Int) (p.2.length : Int) = 0 := DSt.ask_ok (up k a) p.1 p.2.length rfl (hf p (by simp))
    have hwE : (up k a).opE (some ((p.1 : Int), p.2)) = if a = 1 then 15 else 0 := by
      show (up k a).writeE (p.1 : Int) p.2 = _
      unfold DSt.writeE
      rw [if_pos hz]
      show (if decide (a = 1) = true then (15 : Int) else 0) = _
      by_cases h1 : a = 1
      · rw [if_pos h1, if_pos (by simpa using h1)]
      · rw [if_neg h1, if_neg (by simpa using h1)]
    have hw : (up k a).op (some ((p.1 : Int), p.2)) = ⟨k, at_ p.1 p.2, decide (a = 1), a - 1⟩ := by
      show (up k a).write (p.1 : Int) p.2 = _
      unfold DSt.write
      rw [if_pos hz]
      rfl
    rw [opsOf, DSt.stepsE, DSt.steps, hwE, hw]
    by_cases h1 : a = 1
    · subst h1
      right
      rw [if_pos rfl, if_neg (by decide), if_neg (by decide)]
      exact ⟨rfl, by decide, [], p, t, rfl, rfl⟩
    · rw [if_neg h1, if_pos rfl, if_pos rfl, decide_eq_false h1]
      have hsE : (⟨k, at_ p.1 p.2, false, a - 1⟩ : DSt).opE none = if a - 1 = 1 then 15 else 0 := by
        show (if decide (a - 1 = 1) = true then (15 : Int) else 0) = _
        by_cases h2 : a - 1 = 1
        · rw [if_pos h2, if_pos (by simpa using h2)]
        · rw [if_neg h2, if_neg (by simpa using h2)]
      rw [DSt.stepsE, DSt.steps, hsE]
      by_cases h2 : a - 1 = 1
      · right
        rw [if_pos h2, if_neg (by decide), if_neg (by decide)]
        refine ⟨rfl, by omega, [], p, t, rfl, ?_⟩
        show (if (decide (a - 1 = 1)) = true then (⟨k, at_ p.1 p.2, decide (a - 1 = 1), a - 1 - 1⟩ : DSt) else _) = _
        rw [if_pos (by simpa using h2), decide_eq_true h2, show a - 1 - 1 = 0 by omega]
        rfl
      · rw [if_neg h2, if_pos rfl, if_pos rfl]
        have hs : (⟨k, at_ p.1 p.2, false, a - 1⟩ : DSt).op none = up (poke k p.1 p.2) (a - 1 - 1) := by
          show (if (decide (a - 1 = 1)) = true then _ else (⟨layAll 0 k ((at_ p.1 p.2).take (at_ p.1 p.2).length), [], decide (a - 1 = 1), a - 1 - 1⟩ : DSt)) = _
          rw [if_neg (by simpa using h2), List.take_length, decide_eq_false h2]
          rfl
        rw [hs]
        rcases ih (poke k p.1 p.2) (a - 1 - 1) (fun q hq => by rw [poke_len]; exact hf q (by simp [hq])) with ⟨a', e1, e2, e3⟩ | ⟨e1, e2, ps1, q, ps2, e3, e4⟩
        · exact .inl ⟨a', e1, e2, fun h => e3 (by omega)⟩
        · right
          refine ⟨e1, by omega, p :: ps1, q, ps2, by rw [e3]; rfl, ?_⟩
          rw [e4]
          rfl
theorem crash_restart (k : List UInt8) (a : Nat) (b : List UInt8) (keep : Int) : ∃ j, j ≤ b.length ∧ (⟨k, at_ a b, true, 0⟩ : DSt).restart keep = calm (poke k a (b.take j)) := by
  obtain ⟨j, hj⟩ : ∃ j, j = (⟨k, at_ a b, true, 0⟩ : DSt).cut keep := ⟨_, rfl⟩
  refine ⟨j, ?_, ?_⟩
  · rw [hj]
    unfold DSt.cut
    simp only [at_len]
    omega
  · have e : (⟨k, at_ a b, true, 0⟩ : DSt).restart keep = calm (layAll 0 k ((at_ a b).take j)) := by rw [hj]; rfl
    rw [e, at_take]
    rfl
theorem up_restart (k : List UInt8) (a : Nat) (keep : Int) : (up k a).restart keep = calm k := by
  show calm (layAll 0 k (([] : List (Nat × UInt8)).take _)) = _
  rw [List.take_nil]
  rfl
theorem poke_getD (k : List UInt8) (a : Nat) (b : List UInt8) (h : a + b.length ≤ k.length) (i : Nat) : (poke k a b).getD i 0 = if i < a then k.getD i 0 else if i < a + b.length then b.getD (i - a) 0 else k.getD i 0 := by
  rw [poke_eq b k a h]
  have hl : (k.take a).length = a := by rw [List.length_take]; omega
  simp only [List.getD_eq_getElem?_getD]
  by_cases h1 : i < a
  · rw [if_pos h1, List.getElem?_append_left (by omega), List.getElem?_take, if_pos h1]
  · rw [if_neg h1, List.getElem?_append_right (by omega), hl]
    by_cases h2 : i < a + b.length
    · rw [if_pos h2, List.getElem?_append_left (by omega)]
    · rw [if_neg h2, List.getElem?_append_right (by omega), List.getElem?_drop]
      congr 2
      omega
theorem spell_zeros (l : List UInt8) : ∀ (j a : Nat), (List.replicate j (0 : UInt8) ++ l.drop j).foldl (fun n x => n * 256 + x.toNat) a ≤ (l.foldl (fun n x => n * 256 + x.toNat) a) ∨ l.length < j := by
  induction l with
  | nil =>
    intro j a
    cases j with
    | zero => left; exact Nat.le_refl _
    | succ j => right; simp
  | cons x t ih =>
    intro j a
    cases j with
    | zero => left; exact Nat.le_refl _
    | succ j =>
      rcases ih j (a * 256) with h | h
      · left
        rw [List.replicate_succ, List.drop_succ_cons, List.cons_append, List.foldl_cons, List.foldl_cons]
        have h0 : (0 : UInt8).toNat = 0 := by decide
        rw [h0, Nat.add_zero]
        refine Nat.le_trans h ?_
        have mono : ∀ (l : List UInt8) (a b : Nat), a ≤ b → l.foldl (fun n x => n * 256 + x.toNat) a ≤ l.foldl (fun n x => n * 256 + x.toNat) b := by
          intro l
          induction l with
          | nil => intro a b h; exact h
          | cons y s ih2 => intro a b h; exact ih2 _ _ (by show a * 256 + y.toNat ≤ b * 256 + y.toNat; omega)
        exact mono t _ _ (by show a * 256 ≤ a * 256 + x.toNat; omega)
      · right
        simp only [List.length_cons]
        omega
theorem turnOf_bare {b : List UInt8} (h : b.getD 4 0 = 0) : turnOf b = -1 := turnOf_none (by rw [h]; decide)
theorem turnOf_zeros (h : List UInt8) (h5 : 5 ≤ h.length) (j : Nat) (hj : j ≤ 5) : turnOf (poke h 0 (List.replicate j 0)) ≤ turnOf h := by
  by_cases h4 : j = 5
  · rw [turnOf_bare]
    · exact (turnOf_ge h).1
    · rw [poke_getD _ _ _ (by rw [List.length_replicate]; omega), if_neg (by omega), List.length_replicate, if_pos (by omega), zeros_getD]
  · have hg : (poke h 0 (List.replicate j 0)).getD 4 0 = h.getD 4 0 := by
      rw [poke_getD _ _ _ (by rw [List.length_replicate]; omega), if_neg (by omega), List.length_replicate, if_neg (by omega)]
    have ht : (poke h 0 (List.replicate j 0)).take 4 = List.replicate j 0 ++ (h.take 4).drop j := by
      rw [poke_eq _ _ _ (by rw [List.length_replicate]; omega), List.take_zero, List.nil_append, Nat.zero_add, List.length_replicate, List.take_append, List.take_of_length_le (by rw [List.length_replicate]; omega), List.length_replicate, List.drop_take]
    unfold turnOf
    rw [hg, ht]
    by_cases hm : (h.getD 4 0).toNat = 165
    · rw [if_pos hm, if_pos hm]
      rcases spell_zeros (h.take 4) j 0 with hs | hs
      · unfold spell
        omega
      · rw [List.length_take] at hs
        omega
    · rw [if_neg hm, if_neg hm]
      exact Int.le_refl _
section
variable {k : List UInt8} {x : LSt} {J : List UInt8}
/-- The log as it is appended to. -/
def LSt.plus (x : LSt) (l : List UInt8) : LSt := { x with stop := x.stop + (l.length + 5), recs := x.recs ++ [l] }
/-- The log as it is compacted. -/
def LSt.anew (x : LSt) (l : List UInt8) : LSt := ⟨1 - x.half, ((x.turn.toNat + 1 : Nat) : Int), l.length + 10, l, [], false⟩
theorem frame_part_junk (l : List UInt8) (hl : l.length ≤ 8192) (n j : Nat) (hj : j < l.length + 5) (hn : l.length + 5 ≤ n) : Junk (poke (List.replicate n 0) 0 ((frameL l).take j)) := by
  have hfl := frameL_len l
  have htl : ((frameL l).take j).length = j := by rw [List.length_take]; omega
  have hg : ∀ i, (poke (List.replicate n 0) 0 ((frameL l).take j)).getD i 0 = if i < j then (frameL l).getD i 0 else 0 := by
    intro i
    rw [poke_getD _ _ _ (by rw [htl, List.length_replicate]; omega), if_neg (by omega), htl, Nat.zero_add]
    by_cases hi : i < j
    · rw [if_pos hi, if_pos hi, Nat.sub_zero, List.getD_eq_getElem?_getD, List.getElem?_take, if_pos hi, ← List.getD_eq_getElem?_getD]
    · rw [if_neg hi, if_neg hi, zeros_getD]
  unfold Junk
  rw [hg]
  have h0 : (frameL l).getD 0 0 = UInt8.ofNat (l.length / 256) := rfl
  have h1 : (frameL l).getD 1 0 = UInt8.ofNat l.length := rfl
  by_cases h2 : 2 ≤ j
  · have hN : firstN (poke (List.replicate n 0) 0 ((frameL l).take j)) = l.length := by
      unfold firstN
      rw [hg, hg, if_pos (by omega), if_pos (by omega), h0, h1, UInt8.toNat_ofNat', UInt8.toNat_ofNat', Nat.mod_eq_of_lt (by omega)]
      simp only [Nat.reducePow]
      omega
    rw [hN, if_neg (by omega)]
    decide
  · rw [if_neg (by omega)]
    decide
theorem append_crash {n : Nat} (h : Half k x (List.replicate n 0)) (l : List UInt8) (hl : l.length ≤ 8192) (hf : x.stop + (l.length + 5) ≤ k.length / 2) (j : Nat) (hj : j ≤ (frameL l).length) :
    ∃ x' J', Half (poke k (x.half * (k.length / 2) + x.stop) ((frameL l).take j)) x' J' ∧ (x' = x ∨ x' = x.plus l) := by
  have hst := h.stop
  rw [List.length_replicate] at hst
  rw [frameL_len] at hj
  by_cases hjl : j = l.length + 5
  · rw [List.take_of_length_le (by rw [frameL_len]; omega)]
    exact ⟨_, _, h.append l hl hf, .inr rfl⟩
  · have := h.junked 0 ((frameL l).take j) (by rw [List.length_take, frameL_len, List.length_replicate]; omega) (frame_part_junk l hl n j (by omega) (by omega))
    rw [Nat.add_zero] at this
    exact ⟨_, _, this, .inl rfl⟩
theorem list4 {α : Type} {a b c d : α} {ps1 ps2 : List α} {p : α} (h : [a, b, c, d] = ps1 ++ p :: ps2) : (ps1 = [] ∧ p = a) ∨ (ps1 = [a] ∧ p = b) ∨ (ps1 = [a, b] ∧ p = c) ∨ (ps1 = [a, b, c] ∧ p = d) := by
  match ps1, h with
  | [], h => injection h with h1 h2; exact .inl ⟨rfl, h1.symm⟩
  | [y], h => injection h with h1 h2; injection h2 with h3 h4; exact .inr (.inl ⟨by rw [h1], h3.symm⟩)
  | [y, y'], h => injection h with h1 h2; injection h2 with h3 h4; injection h4 with h5 h6; exact .inr (.inr (.inl ⟨by rw [h1, h3], h5.symm⟩))
  | [y, y', y''], h => injection h with h1 h2; injection h2 with h3 h4; injection h4 with h5 h6; injection h6 with h7 h8; exact .inr (.inr (.inr ⟨by rw [h1, h3, h5], h7.symm⟩))
  | y :: y' :: y'' :: y''' :: r, h =>
    have := congrArg List.length h
    simp at this
theorem list2 {α : Type} {a b : α} {ps1 ps2 : List α} {p : α} (h : [a, b] = ps1 ++ p :: ps2) : (ps1 = [] ∧ p = a) ∨ (ps1 = [a] ∧ p = b) := by
  match ps1, h with
  | [], h => injection h with h1 h2; exact .inl ⟨rfl, h1.symm⟩
  | [y], h => injection h with h1 h2; injection h2 with h3 h4; exact .inr ⟨by rw [h1], h3.symm⟩
  | y :: y' :: r, h =>
    have := congrArg List.length h
    simp at this
theorem compact_crash (h : Half k x J) (l : List UInt8) (hl : l.length ≤ 8192) (hf : l.length + 10 ≤ k.length / 2) (ht : x.turn + 1 < 4294967296) (ps1 ps2 : List (Nat × List UInt8)) (p : Nat × List UInt8)
    (hps : compactW (k.length / 2) (1 - x.half) (x.turn.toNat + 1) l = ps1 ++ p :: ps2) (j : Nat) (hj : j ≤ p.2.length) :
    ∃ x' J', Half (poke (pokes k ps1) p.1 (p.2.take j)) x' J' ∧ (x' = x ∨ x' = x.anew l) := by
  obtain ⟨z, hz⟩ : ∃ z, z = k.length / 2 := ⟨_, rfl⟩
  have hlen := h.len
  have hhl := hb_len k (1 - x.half) (by have := h.half; omega)
  have htp := h.turn
  rw [← hz] at hps hf hhl
  -- the first write
  have r1 : ∀ j, j ≤ 5 → turnOf (poke (hb k (1 - x.half)) 0 (List.replicate j 0)) < x.turn := fun j hj => by
    have h1 := turnOf_zeros (hb k (1 - x.half)) (by omega) j hj
    have h2 := h.other
    omega
  have b1 := h.beside 0 (List.replicate 5 0) (by rw [List.length_replicate, ← hz]; omega) (r1 5 (by omega))
  obtain ⟨k1, hk1⟩ : ∃ k1, k1 = poke k ((1 - x.half) * (k.length / 2) + 0) (List.replicate 5 0) := ⟨_, rfl⟩
  rw [← hk1] at b1
  obtain ⟨H1, e1⟩ := b1
  have l1 : k1.length = k.length := by rw [hk1, poke_len]
  have g1 : (hb k1 (1 - x.half)).getD 4 0 = 0 := by
    rw [e1, poke_getD _ _ _ (by rw [List.length_replicate]; omega), if_neg (by omega), List.length_replicate, if_pos (by omega), zeros_getD]
  have far : ∀ (kk : List UInt8), kk.length = k.length → (hb kk (1 - x.half)).getD 4 0 = 0 → ∀ (b : List UInt8), 5 + b.length ≤ z → (poke (hb kk (1 - x.half)) 5 b).getD 4 0 = 0 := by
    intro kk hkk hg b hb'
    rw [poke_getD _ _ _ (by rw [hb_len kk _ (by have := h.half; omega), hkk, ← hz]; omega), if_pos (by omega), hg]
  -- the second
  have b2 := H1.beside 5 (List.replicate (z - 5) 0) (by rw [List.length_replicate, l1, ← hz]; omega) (by rw [turnOf_bare (far k1 l1 g1 _ (by rw [List.length_replicate]; omega))]; omega)
  obtain ⟨k2, hk2⟩ : ∃ k2, k2 = poke k1 ((1 - x.half) * (k1.length / 2) + 5) (List.replicate (z - 5) 0) := ⟨_, rfl⟩
  rw [← hk2] at b2
  obtain ⟨H2, e2⟩ := b2
  have l2 : k2.length = k.length := by rw [hk2, poke_len, l1]
  have g2 : (hb k2 (1 - x.half)).getD 4 0 = 0 := by rw [e2]; exact far k1 l1 g1 _ (by rw [List.length_replicate]; omega)
  -- the third
  have b3 := H2.beside 5 (frameL l) (by rw [frameL_len, l2, ← hz]; omega) (by rw [turnOf_bare (far k2 l2 g2 _ (by rw [frameL_len]; omega))]; omega)
  obtain ⟨k3, hk3⟩ : ∃ k3, k3 = poke k2 ((1 - x.half) * (k2.length / 2) + 5) (frameL l) := ⟨_, rfl⟩
  rw [← hk3] at b3
  obtain ⟨H3, e3⟩ := b3
  have l3 : k3.length = k.length := by rw [hk3, poke_len, l2]
  have g3 : (hb k3 (1 - x.half)).getD 4 0 = 0 := by rw [e3]; exact far k2 l2 g2 _ (by rw [frameL_len]; omega)
  rw [Nat.add_zero, ← hz] at hk1
  rw [l1, ← hz] at hk2
  rw [l2, ← hz] at hk3
  unfold compactW at hps
  rcases list4 hps with ⟨rfl, rfl⟩ | ⟨rfl, rfl⟩ | ⟨rfl, rfl⟩ | ⟨rfl, rfl⟩
  · simp only [List.length_replicate] at hj
    simp only [List.take_replicate, Nat.min_eq_left hj, pokes_nil]
    have := (h.beside 0 (List.replicate j 0) (by rw [List.length_replicate, ← hz]; omega) (r1 j hj)).1
    rw [Nat.add_zero, ← hz] at this
    exact ⟨_, _, this, .inl rfl⟩
  · simp only [List.length_replicate] at hj
    simp only [List.take_replicate, Nat.min_eq_left hj, pokes_cons, pokes_nil, ← hk1]
    have := (H1.beside 5 (List.replicate j 0) (by rw [List.length_replicate, l1, ← hz]; omega) (by rw [turnOf_bare (far k1 l1 g1 _ (by rw [List.length_replicate]; omega))]; omega)).1
    rw [l1, ← hz] at this
    exact ⟨_, _, this, .inl rfl⟩
  · simp only [frameL_len] at hj
    simp only [pokes_cons, pokes_nil, ← hk1, ← hk2]
    have hl5 : ((frameL l).take j).length ≤ l.length + 5 := by rw [List.length_take]; omega
    have := (H2.beside 5 ((frameL l).take j) (by rw [l2, ← hz]; omega) (by rw [turnOf_bare (far k2 l2 g2 _ (by omega))]; omega)).1
    rw [l2, ← hz] at this
    exact ⟨_, _, this, .inl rfl⟩
  · simp only [headL_len] at hj
    by_cases h5 : j = 5
    · have hc := h.compact l hl (by omega) ht
      rw [← hz] at hc
      subst h5
      refine ⟨x.anew l, List.replicate (z - 10 - l.length) 0, ?_, .inr rfl⟩
      simp only [pokes_cons, pokes_nil]
      rw [show (headL (x.turn.toNat + 1)).take 5 = headL (x.turn.toNat + 1) from rfl]
      unfold compactW at hc
      simp only [pokes_cons, pokes_nil] at hc
      exact hc
    · simp only [pokes_cons, pokes_nil, ← hk1, ← hk2, ← hk3]
      have hl5 : ((headL (x.turn.toNat + 1)).take j).length = j := by rw [List.length_take, headL_len]; omega
      have hg : (poke (hb k3 (1 - x.half)) 0 ((headL (x.turn.toNat + 1)).take j)).getD 4 0 = 0 := by
        rw [poke_getD _ _ _ (by rw [hl5, hb_len k3 _ (by have := h.half; omega), l3, ← hz]; omega), if_neg (by omega), hl5, if_neg (by omega), g3]
      have := (H3.beside 0 ((headL (x.turn.toNat + 1)).take j) (by rw [hl5, l3, ← hz]; omega) (by rw [turnOf_bare hg]; omega)).1
      rw [Nat.add_zero, l3, ← hz] at this
      exact ⟨_, _, this, .inl rfl⟩
end
end Go.Proofs.Ytbdencfgiemliaa
namespace Go.Proofs.Ytbdencfgiemliaa
set_option linter.unusedVariables false
section
variable {k : List UInt8} {x : LSt} {J : List UInt8}
theorem junk_mid {J : List UInt8} (h : Junk J) (j : Nat) (hj : min 2 J.length + j ≤ J.length) : Junk (poke J (min 2 J.length) (List.replicate j 0)) := by
  by_cases h2 : 2 ≤ J.length
  · have hq : min 2 J.length = 2 := Nat.min_eq_left h2
    rw [hq] at hj ⊢
    have hg : ∀ i, (poke J 2 (List.replicate j 0)).getD i 0 = if i < 2 then J.getD i 0 else if i < 2 + j then 0 else J.getD i 0 := fun i => by
      rw [poke_getD _ _ _ (by rw [List.length_replicate]; exact hj), List.length_replicate, zeros_getD]
    have hN : firstN (poke J 2 (List.replicate j 0)) = firstN J := by
      unfold firstN
      rw [hg, hg, if_pos (by omega), if_pos (by omega)]
    unfold Junk
    rw [hN, hg, if_neg (by omega)]
    by_cases h4 : firstN J + 4 < 2 + j
    · rw [if_pos h4]; decide
    · rw [if_neg h4]; exact h
  · have hq : min 2 J.length = J.length := Nat.min_eq_right (by omega)
    rw [hq] at hj ⊢
    have h0 : j = 0 := by omega
    subst h0
    exact h
theorem junk_tail {J : List UInt8} (h : ∀ i, 2 ≤ i → J.getD i 0 = 0) (j : Nat) (hj : j ≤ J.length) : Junk (poke J 0 (List.replicate j 0)) := by
  unfold Junk
  rw [poke_getD _ _ _ (by rw [List.length_replicate]; omega), if_neg (by omega), zeros_getD]
  split
  · decide
  · rw [h _ (by omega)]; decide
/-- A clearing that is not done. -/
theorem clear_crash (h : Half k x J) (ps1 ps2 : List (Nat × List UInt8)) (p : Nat × List UInt8) (hps : clearW (k.length / 2) x.half x.stop (min (x.stop + 2) (k.length / 2)) = ps1 ++ p :: ps2) (j : Nat) (hj : j ≤ p.2.length) :
    ∃ J', Half (poke (pokes k ps1) p.1 (p.2.take j)) x J' := by
  have hst := h.stop
  obtain ⟨q, hq⟩ : ∃ q, q = min 2 J.length := ⟨_, rfl⟩
  have hqq : min (x.stop + 2) (k.length / 2) = x.stop + q := by omega
  rw [hqq] at hps
  unfold clearW at hps
  have e1 : x.half * (k.length / 2) + (x.stop + q) = x.half * (k.length / 2) + (x.stop + q) := rfl
  rcases list2 hps with ⟨rfl, rfl⟩ | ⟨rfl, rfl⟩
  · simp only [List.length_replicate] at hj
    simp only [List.take_replicate, Nat.min_eq_left hj, pokes_nil]
    exact ⟨_, h.junked q (List.replicate j 0) (by rw [List.length_replicate]; omega) (by rw [hq]; exact junk_mid h.junk j (by omega))⟩
  · simp only [List.length_replicate] at hj
    simp only [List.take_replicate, Nat.min_eq_left hj, pokes_cons, pokes_nil]
    have h1 := h.junked q (List.replicate (k.length / 2 - (x.stop + q)) 0) (by rw [List.length_replicate]; omega) (by rw [hq]; exact junk_mid h.junk _ (by omega))
    have hlen : (poke k (x.half * (k.length / 2) + (x.stop + q)) (List.replicate (k.length / 2 - (x.stop + q)) 0)).length = k.length := poke_len _ _ _
    have hz : ∀ i, 2 ≤ i → (poke J q (List.replicate (k.length / 2 - (x.stop + q)) 0)).getD i 0 = 0 := by
      intro i hi
      rw [poke_getD _ _ _ (by rw [List.length_replicate]; omega), if_neg (by omega), List.length_replicate, zeros_getD]
      by_cases h9 : i < q + (k.length / 2 - (x.stop + q))
      · rw [if_pos h9]
      · rw [if_neg h9, List.getD_eq_getElem?_getD, List.getElem?_eq_none (by omega)]
        rfl
    have h2 := h1.junked 0 (List.replicate j 0) (by rw [List.length_replicate, poke_len]; omega) (junk_tail hz j (by rw [poke_len]; omega))
    rw [hlen, Nat.add_zero] at h2
    exact ⟨_, h2⟩
/-- A disk that may stop once, opened. -/
theorem open_armed (h : Half k x J) (a : Nat) : (up k a).openL = x ∧ ((up k a).openE = 0 ∨ ((up k a).openE = 15 ∧ a ≠ 0 ∧ ∀ keep, ∃ k' J', (up k a).openD.restart keep = calm k' ∧ k'.length = k.length ∧ Half k' x J')) := by
  have hL := h.openL (s := up k a) rfl rfl
  refine ⟨hL, ?_⟩
  have hf := h.find (s := up k a) rfl rfl
  cases ht : tornL (hb k x.half) with
  | false => exact .inl (open_clean rfl hf ht).1
  | true =>
    obtain ⟨g1, g2, g3⟩ := (up k a).openL_some (hb k x.half) (by rw [hf])
    obtain ⟨o1, o2⟩ := (up k a).openE_up rfl
    have hops := g2 ht
    rw [hL, show (up k a).kept = k from rfl, clearOps_eq] at hops
    have hst := h.stop
    have hh := h.half
    have hfit : ∀ p ∈ clearW (k.length / 2) x.half x.stop (min (x.stop + 2) (k.length / 2)), p.1 + p.2.length ≤ k.length := by
      intro p hp
      unfold clearW at hp
      simp only [List.mem_cons, List.not_mem_nil, or_false] at hp
      have hm : x.half * (k.length / 2) + k.length / 2 ≤ k.length := by
        obtain h0 | h0 : x.half = 0 ∨ x.half = 1 := by omega
        · rw [h0]; omega
        · rw [h0]; omega
      rcases hp with rfl | rfl
      · simp only [List.length_replicate]; omega
      · simp only [List.length_replicate]; omega
    rw [o1, o2, hops]
    rcases crash_steps _ k a hfit with ⟨a', e1, _, _⟩ | ⟨e1, e2, ps1, p, ps2, e3, e4⟩
    · exact .inl e1
    · right
      refine ⟨e1, e2, fun keep => ?_⟩
      rw [e4]
      obtain ⟨j, hj, hr⟩ := crash_restart (pokes k ps1) p.1 p.2 keep
      obtain ⟨J', hJ⟩ := clear_crash h ps1 ps2 p e3 j hj
      exact ⟨_, J', hr, by rw [poke_len, pokes_len], hJ⟩
end
/-- Whatever is kept when it is started, the disk's bytes tell one of the logs that T lets in. -/
def Safe (s : DSt) (L : Nat) (T : LSt → Prop) : Prop := ∀ keep, ∃ k x J, s.restart keep = calm k ∧ k.length = L ∧ Half k x J ∧ T x
end Go.Proofs.Ytbdencfgiemliaa
namespace Go.Proofs.Ytbdencfgiemliaa
set_option linter.unusedVariables false
/-- What the steps make of a disk of bytes k: done where it does not stop, else safe for the log before and the log behind. -/
def Does (k : List UInt8) (x x' : LSt) (ops : List DOp) : Prop :=
  ∃ k', k'.length = k.length ∧ (∃ n', Half k' x' (List.replicate n' 0)) ∧ (calm k).stepsE ops = 0 ∧ (calm k).steps ops = calm k' ∧
    ∀ a, (∃ a', (up k a).stepsE ops = 0 ∧ (up k a).steps ops = up k' a') ∨ ((up k a).stepsE ops = 15 ∧ Safe ((up k a).steps ops) k.length (fun q => q = x ∨ q = x'))
theorem does_compact {k : List UInt8} {x : LSt} {n : Nat} (h : Half k x (List.replicate n 0)) (l : List UInt8) (hl : l.length ≤ 8192) (hf : l.length + 10 ≤ k.length / 2) (ht : x.turn + 1 < 4294967296) :
    Does k x (x.anew l) (compactOps (k.length / 2) (1 - x.half) (x.turn.toNat + 1) l) := by
  have hh := h.half
  have hlen := h.len
  have hfit := compactW_fits (z := k.length / 2) (half := 1 - x.half) (turn := x.turn.toNat + 1) (l := l) (L := k.length) rfl (by omega) (by omega) hf
  have hc := calm_steps (compactW (k.length / 2) (1 - x.half) (x.turn.toNat + 1) l) k hfit
  refine ⟨pokes k (compactW (k.length / 2) (1 - x.half) (x.turn.toNat + 1) l), pokes_len _ _, ⟨_, h.compact l hl hf ht⟩, ?_, ?_, fun a => ?_⟩
  · rw [compactOps_eq]; exact hc.1
  · rw [compactOps_eq]; exact hc.2
  · rw [compactOps_eq]
    rcases crash_steps _ k a hfit with ⟨a', e1, e2, _⟩ | ⟨e1, _, ps1, p, ps2, e3, e4⟩
    · exact .inl ⟨a', e1, e2⟩
    · refine .inr ⟨e1, fun keep => ?_⟩
      rw [e4]
      obtain ⟨j, hj, hr⟩ := crash_restart (pokes k ps1) p.1 p.2 keep
      obtain ⟨x', J', q1, q2⟩ := compact_crash h l hl hf ht ps1 ps2 p e3 j hj
      exact ⟨_, x', J', hr, by rw [poke_len, pokes_len], q1, q2⟩
theorem list1 {α : Type} {a : α} {ps1 ps2 : List α} {p : α} (h : [a] = ps1 ++ p :: ps2) : ps1 = [] ∧ p = a := by
  match ps1, h with
  | [], h => injection h with h1 h2; exact ⟨rfl, h1.symm⟩
  | y :: r, h =>
    have := congrArg List.length h
    simp at this
theorem does_append {k : List UInt8} {x : LSt} {n : Nat} (h : Half k x (List.replicate n 0)) (l : List UInt8) (hl : l.length ≤ 8192) (hf : x.stop + (l.length + 5) ≤ k.length / 2) :
    Does k x (x.plus l) (appendOps (k.length / 2) x.half x.stop l) := by
  have hh := h.half
  have hfit : ∀ p ∈ [(x.half * (k.length / 2) + x.stop, frameL l)], p.1 + p.2.length ≤ k.length := by
    intro p hp
    rw [List.mem_singleton] at hp
    subst hp
    simp only [frameL_len]
    obtain h0 | h0 : x.half = 0 ∨ x.half = 1 := by omega
    · rw [h0]; omega
    · rw [h0]; omega
  have hc := calm_steps [(x.half * (k.length / 2) + x.stop, frameL l)] k hfit
  refine ⟨pokes k [(x.half * (k.length / 2) + x.stop, frameL l)], pokes_len _ _, ⟨_, h.append l hl hf⟩, ?_, ?_, fun a => ?_⟩
  · rw [appendOps_eq]; exact hc.1
  · rw [appendOps_eq]; exact hc.2
  · rw [appendOps_eq]
    rcases crash_steps _ k a hfit with ⟨a', e1, e2, _⟩ | ⟨e1, _, ps1, p, ps2, e3, e4⟩
    · exact .inl ⟨a', e1, e2⟩
    · refine .inr ⟨e1, fun keep => ?_⟩
      rw [e4]
      obtain ⟨rfl, rfl⟩ := list1 e3
      obtain ⟨j, hj, hr⟩ := crash_restart (pokes k []) (x.half * (k.length / 2) + x.stop) (frameL l) keep
      obtain ⟨x', J', q1, q2⟩ := append_crash h l hl hf j hj
      exact ⟨_, x', J', hr, poke_len _ _ _, q1, q2⟩
theorem safe_up {k : List UInt8} {x : LSt} {n : Nat} (h : Half k x (List.replicate n 0)) (a : Nat) : Safe (up k a) k.length (fun q => q = x ∨ q = x) := fun keep => ⟨k, x, _, up_restart k a keep, rfl, h, .inl rfl⟩
end Go.Proofs.Ytbdencfgiemliaa
