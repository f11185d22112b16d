/-
  Plain law of opening twice: what is opened again is the same, and nothing is written then; any bytes on a disk that does not stop. No program.
-/
import Derived.Test.YtbdencfgiemliaaLogP2
namespace Go.Proofs.Ytbdencfgiemliaa
set_option linter.unusedVariables false
theorem turnOf_head (t : Nat) (r : List UInt8) (ht : t < 4294967296) : turnOf (headL t ++ r) = (t : Int) := by
  have h4 : (headL t ++ r).getD 4 0 = 165 := rfl
  have h5 : (headL t ++ r).take 4 = turnL t := rfl
  unfold turnOf
  rw [h4, h5, if_pos (by decide)]
  unfold spell turnL
  simp only [List.foldl_cons, List.foldl_nil, UInt8.toNat_ofNat', Nat.reducePow]
  omega
theorem turnOf_congr {b b' : List UInt8} (h4 : b.getD 4 0 = b'.getD 4 0) (ht : b.take 4 = b'.take 4) : turnOf b = turnOf b' := by
  unfold turnOf
  rw [h4, ht]
theorem pokes_cons (k : List UInt8) (a : Nat) (b : List UInt8) (t : List (Nat × List UInt8)) : pokes k ((a, b) :: t) = pokes (poke k a b) t := rfl
theorem pokes_nil (k : List UInt8) : pokes k [] = k := rfl
theorem poke_all (h : List UInt8) (b : List UInt8) (hl : b.length = h.length) : poke h 0 b = b := by
  rw [poke_eq b h 0 (by omega), List.take_zero, Nat.zero_add, hl, List.drop_length]
  simp
/-- What a compaction leaves of a half. -/
theorem compact_half (h : List UInt8) (z t : Nat) (l : List UInt8) (hz : h.length = z) (hl : l.length + 10 ≤ z) :
    pokes h [(0, List.replicate 5 0), (5, List.replicate (z - 5) 0), (5, frameL l), (0, headL t)] = headL t ++ (frameL l ++ List.replicate (z - 10 - l.length) 0) := by
  have e2 : poke (poke h 0 (List.replicate 5 0)) 5 (List.replicate (z - 5) 0) = List.replicate 5 0 ++ List.replicate (z - 5) 0 := by
    rw [poke_eq _ (poke h 0 (List.replicate 5 0)) 5 (by rw [poke_len, List.length_replicate]; omega), poke_eq (List.replicate 5 0) h 0 (by rw [List.length_replicate]; omega)]
    rw [List.take_zero, List.nil_append, List.take_append_of_le_length (by simp), List.take_of_length_le (by simp), List.length_replicate, List.length_replicate]
    rw [List.drop_of_length_le (by rw [List.length_append, List.length_replicate, List.length_drop]; omega), List.append_nil]
  rw [pokes_cons, pokes_cons, pokes_cons, pokes_cons, pokes_nil, e2]
  have e3 : poke (List.replicate 5 0 ++ List.replicate (z - 5) 0) 5 (frameL l) = List.replicate 5 0 ++ (frameL l ++ List.replicate (z - 10 - l.length) 0) := by
    have h5 : (List.replicate 5 (0 : UInt8)).length = 5 := rfl
    have := poke_right (List.replicate 5 0) (List.replicate (z - 5) 0) 0 (frameL l) (by rw [frameL_len, List.length_replicate]; omega)
    rw [h5, Nat.add_zero] at this
    rw [this, poke_eq (frameL l) (List.replicate (z - 5) 0) 0 (by rw [frameL_len, List.length_replicate]; omega), List.take_zero, List.nil_append, Nat.zero_add, frameL_len, List.drop_replicate]
    congr 3
    omega
  rw [e3, poke_left _ _ _ _ (by rw [headL_len]; simp), poke_all _ _ (by rw [headL_len]; rfl)]
theorem framesOf_head (t : Nat) (fs : List (List UInt8)) (J : List UInt8) (hfs : ∀ b ∈ fs, b.length ≤ 8192) (hJ : isFirst J = false) : framesOf (headL t ++ (framesT fs ++ J)) = (fs, J) := by
  unfold framesOf
  have hd : (headL t ++ (framesT fs ++ J)).drop 5 = framesT fs ++ J := rfl
  rw [hd]
  exact frames_parse fs _ J hfs hJ (by simp only [List.length_append, headL_len]; omega)
/-- Opening a disk that need not be cleared. -/
theorem open_clean {s : DSt} (hd : s.down = false) {i : Nat} {t : Int} {b : List UInt8} (hf : s.findK 2 = (i, t, some b)) (ht : tornL b = false) : s.openE = 0 ∧ s.openD = s ∧ s.openL = s.logOf i t b := by
  obtain ⟨h1, _, h3⟩ := s.openL_some b (by rw [hf])
  obtain ⟨h4, h5⟩ := s.openE_up hd
  rw [h4, h5, h3 ht, h1, hf]
  exact ⟨rfl, rfl, rfl⟩
/-- What a clearing leaves of a half. -/
theorem clear_half (b : List UInt8) (z stop q : Nat) (hz : b.length = z) (h1 : stop ≤ q) (h2 : q ≤ z) : pokes b [(q, List.replicate (z - q) 0), (stop, List.replicate (q - stop) 0)] = b.take stop ++ List.replicate (z - stop) 0 := by
  rw [pokes_cons, pokes_cons, pokes_nil]
  have e1 : poke b q (List.replicate (z - q) 0) = b.take q ++ List.replicate (z - q) 0 := by
    rw [poke_eq _ b q (by rw [List.length_replicate]; omega), List.length_replicate, List.drop_of_length_le (by omega), List.append_nil]
  have hq : (b.take q).length = q := by rw [List.length_take]; omega
  rw [e1, poke_left _ _ _ _ (by rw [List.length_replicate]; omega), poke_eq _ (b.take q) stop (by rw [List.length_replicate]; omega), List.length_replicate, List.take_take, Nat.min_eq_left h1, List.drop_of_length_le (by omega), List.append_nil, List.append_assoc, List.replicate_append_replicate]
  congr 2
  omega
theorem clear_frames (b : List UInt8) (hb5 : 5 ≤ b.length) (stop : Nat) (hs : stop = b.length - (framesOf b).2.length) : framesOf (b.take stop ++ List.replicate (b.length - stop) 0) = ((framesOf b).1, List.replicate (framesOf b).2.length 0) ∧ 5 ≤ stop ∧ (b.take stop ++ List.replicate (b.length - stop) 0).length = b.length := by
  have hle : (framesOf b).2.length ≤ b.length - 5 := by
    have := framesF_rest_le b.length (b.drop 5)
    rw [List.length_drop] at this
    exact this
  have hlen : (b.take stop ++ List.replicate (b.length - stop) 0).length = b.length := by
    rw [List.length_append, List.length_take, List.length_replicate]; omega
  refine ⟨?_, by omega, hlen⟩
  have hd : (b.take stop ++ List.replicate (b.length - stop) 0).drop 5 = (b.drop 5).take ((b.drop 5).length - (framesF b.length (b.drop 5)).2.length) ++ List.replicate (framesF b.length (b.drop 5)).2.length 0 := by
    rw [List.drop_append_of_le_length (by rw [List.length_take]; omega), List.drop_take, List.length_drop]
    have e1 : (framesF b.length (b.drop 5)).2.length = (framesOf b).2.length := rfl
    rw [e1]
    congr 2 <;> omega
  have h := frames_zero b.length (b.drop 5) (by rw [List.length_drop]; omega)
  show framesF (b.take stop ++ List.replicate (b.length - stop) 0).length ((b.take stop ++ List.replicate (b.length - stop) 0).drop 5) = _
  rw [hlen, hd]
  exact h
theorem twice_law (k : List UInt8) (h48 : 48 ≤ k.length) : (calm k).openE = 0 ∧ ∃ k2, (calm k).openD = calm k2 ∧ k2.length = k.length ∧ ∀ s2 : DSt, s2.kept = k2 → s2.waits = [] → s2.down = false → s2.openE = 0 ∧ s2.openD = s2 ∧ s2.openL = (calm k).openL := by
  have hB : ∀ i, (calm k).halfB i = hb k i := calm_halfB (calm k) rfl
  have l0 := hb_len k 0 (by omega)
  have l1 := hb_len k 1 (by omega)
  obtain ⟨ho1, ho2⟩ := (calm k).openE_up rfl
  have h2 := findK_two (calm k)
  rw [hB 0, hB 1] at h2
  have main : ∀ (i : Nat), i ≤ 1 → (calm k).findK 2 = (i, turnOf (hb k i), some (hb k i)) → (∀ s2 : DSt, turnOf (s2.halfB i) = turnOf (hb k i) → turnOf (s2.halfB (1 - i)) = turnOf (hb k (1 - i)) → s2.findK 2 = (i, turnOf (hb k i), some (s2.halfB i))) →
      (calm k).openE = 0 ∧ ∃ k2, (calm k).openD = calm k2 ∧ k2.length = k.length ∧ ∀ s2 : DSt, s2.kept = k2 → s2.waits = [] → s2.down = false → s2.openE = 0 ∧ s2.openD = s2 ∧ s2.openL = (calm k).openL := by
    intro i hi hf hs2
    have li := hb_len k i hi
    obtain ⟨b, hbb⟩ : ∃ b, b = hb k i := ⟨_, rfl⟩
    rw [← hbb] at hf hs2 li
    obtain ⟨g1, g2, g3⟩ := (calm k).openL_some b (by rw [hf])
    rw [hf] at g1
    cases ht : tornL b with
    | false =>
      refine ⟨by rw [ho1, g3 ht]; rfl, k, by rw [ho2, g3 ht]; rfl, rfl, fun s2 e1 e2 e3 => ?_⟩
      have hB2 : ∀ j, s2.halfB j = hb k j := fun j => by rw [calm_halfB s2 e2 j, e1]
      have hf2 := hs2 s2 (by rw [hB2, ← hbb]) (by rw [hB2])
      rw [hB2, ← hbb] at hf2
      obtain ⟨q1, q2, q3⟩ := open_clean e3 hf2 ht
      refine ⟨q1, q2, ?_⟩
      rw [q3, g1]
      unfold DSt.logOf
      rw [e1]
      rfl
    | true =>
      obtain ⟨z, hz⟩ : ∃ z, z = k.length / 2 := ⟨_, rfl⟩
      obtain ⟨stop, hstop⟩ : ∃ stop, stop = b.length - (framesOf b).2.length := ⟨_, rfl⟩
      have hLs : (calm k).openL.stop = stop := by rw [g1, hstop, li]; rfl
      have hLh : (calm k).openL.half = i := by rw [g1]; rfl
      have hkl : (calm k).kept.length = k.length := rfl
      have hops := g2 ht
      rw [hLs, hLh, hkl, ← hz, clearOps_eq, clearW_in] at hops
      obtain ⟨q, hq⟩ : ∃ q, q = min (stop + 2) z := ⟨_, rfl⟩
      rw [← hq] at hops
      rw [← hz] at li
      have hfit : ∀ p ∈ [(q, List.replicate (z - q) (0 : UInt8)), (stop, List.replicate (q - stop) 0)], p.1 + p.2.length ≤ k.length / 2 := by
        intro p hp
        simp only [List.mem_cons, List.not_mem_nil, or_false] at hp
        rcases hp with rfl | rfl
        · simp only [List.length_replicate]; omega
        · simp only [List.length_replicate]; omega
      have hfit2 : ∀ p ∈ inHalf i z [(q, List.replicate (z - q) (0 : UInt8)), (stop, List.replicate (q - stop) 0)], p.1 + p.2.length ≤ k.length := by
        intro p hp
        unfold inHalf at hp
        obtain ⟨p', hp', rfl⟩ := List.mem_map.1 hp
        have := hfit p' hp'
        simp only
        obtain rfl | rfl : i = 0 ∨ i = 1 := by omega
        · omega
        · omega
      obtain ⟨c1, c2⟩ := calm_steps _ k hfit2
      have hp := hb_pokes i hi _ k hfit
      rw [← hz] at hp
      obtain ⟨hp1, hp2⟩ := hp
      rw [← hbb, clear_half b z stop q li (by omega) (by omega), ← li] at hp1
      obtain ⟨f1, f2, f3⟩ := clear_frames b (by omega) stop hstop
      obtain ⟨k2, hk2⟩ : ∃ k2, k2 = pokes k (inHalf i z [(q, List.replicate (z - q) (0 : UInt8)), (stop, List.replicate (q - stop) 0)]) := ⟨_, rfl⟩
      have hk2l : k2.length = k.length := by rw [hk2, pokes_len]
      rw [li] at hp1
      rw [← hk2] at c2 hp1 hp2
      rw [li] at f1 f3
      refine ⟨by rw [ho1, hops]; exact c1, k2, by rw [ho2, hops]; exact c2, hk2l, fun s2 e1 e2 e3 => ?_⟩
      have hB2 : ∀ j, s2.halfB j = hb k2 j := fun j => by rw [calm_halfB s2 e2 j, e1]
      have ht2 : turnOf (b.take stop ++ List.replicate (z - stop) 0) = turnOf b := turnOf_congr (by
        rw [List.getD_eq_getElem?_getD, List.getD_eq_getElem?_getD, List.getElem?_append_left (by rw [List.length_take]; omega), List.getElem?_take, if_pos (by omega)]) (by
        rw [List.take_append_of_le_length (by rw [List.length_take]; omega), List.take_take, Nat.min_eq_left (by omega)])
      have hf2 := hs2 s2 (by rw [hB2, hp1, ht2]) (by rw [hB2, hp2])
      rw [hB2, hp1] at hf2
      obtain ⟨q1, q2, q3⟩ := open_clean e3 hf2 (by unfold tornL; rw [f1]; exact zeros_clean _)
      refine ⟨q1, q2, ?_⟩
      rw [q3, g1]
      unfold DSt.logOf
      rw [e1, f1, hk2l, hkl, List.length_replicate]
  by_cases ha : turnOf (hb k 0) < turnOf (hb k 1)
  · rw [if_pos ha] at h2
    refine main 1 (by omega) h2 fun s2 e1 e2 => ?_
    rw [findK_two, e1, show s2.halfB 0 = s2.halfB (1 - 1) from rfl, e2, if_pos ha]
  · rw [if_neg ha] at h2
    by_cases hc : -1 < turnOf (hb k 0)
    · rw [if_pos hc] at h2
      refine main 0 (by omega) h2 fun s2 e1 e2 => ?_
      rw [findK_two, e1, show s2.halfB 1 = s2.halfB (1 - 0) from rfl, e2, if_neg ha, if_pos hc]
    · rw [if_neg hc] at h2
      obtain ⟨g1, g2⟩ := (calm k).openL_none (by rw [h2])
      have c := calm_compact (k := k) (half := 0) (turn := 1) (l := []) h48 (by omega) (by simp; omega)
      have hkl : (calm k).kept.length = k.length := rfl
      rw [hkl] at g2
      have hfit : ∀ p ∈ [(0, List.replicate 5 (0 : UInt8)), (5, List.replicate (k.length / 2 - 5) 0), (5, frameL []), (0, headL 1)], p.1 + p.2.length ≤ k.length / 2 := by
        intro p hp
        simp only [List.mem_cons, List.not_mem_nil, or_false] at hp
        rcases hp with rfl | rfl | rfl | rfl
        · simp only [List.length_replicate]; omega
        · simp only [List.length_replicate]; omega
        · simp only [frameL_len, List.length_nil]; omega
        · simp only [headL_len]; omega
      have hp := hb_pokes 0 (by omega) _ k hfit
      rw [compact_half (hb k 0) (k.length / 2) 1 [] l0 (by simp; omega)] at hp
      obtain ⟨hp1, hp2⟩ := hp
      rw [compactW_in] at c
      obtain ⟨k2, hk2⟩ : ∃ k2, k2 = pokes k (inHalf 0 (k.length / 2) [(0, List.replicate 5 (0 : UInt8)), (5, List.replicate (k.length / 2 - 5) 0), (5, frameL []), (0, headL 1)]) := ⟨_, rfl⟩
      have hk2l : k2.length = k.length := by rw [hk2, pokes_len]
      rw [← compactW_in] at c hk2
      rw [← compactW_in, ← hk2] at hp1 hp2
      rw [← hk2] at c
      have ht1 : turnOf (hb k 1) = -1 := by
        have := (turnOf_ge (hb k 1)).1
        omega
      refine ⟨by rw [ho1, g2]; exact c.1, k2, by rw [ho2, g2]; exact c.2, hk2l, fun s2 e1 e2 e3 => ?_⟩
      have hB2 : ∀ j, s2.halfB j = hb k2 j := fun j => by rw [calm_halfB s2 e2 j, e1]
      have hT := turnOf_head 1 (frameL [] ++ List.replicate (k.length / 2 - 10 - ([] : List UInt8).length) 0) (by omega)
      have hf2 : s2.findK 2 = (0, turnOf (s2.halfB 0), some (s2.halfB 0)) := findK_use (by omega) (by rw [hB2, hp1, hT]; decide) (by rw [hB2, hB2, hp1, hT, show hb k2 (1 - 0) = hb k (1 - 0) from hp2, show hb k (1 - 0) = hb k 1 from rfl, ht1]; decide)
      rw [hB2, hp1, hT] at hf2
      have hfr : framesOf (headL 1 ++ (frameL [] ++ List.replicate (k.length / 2 - 10 - ([] : List UInt8).length) 0)) = ([[]], List.replicate (k.length / 2 - 10 - ([] : List UInt8).length) 0) := by
        have := framesOf_head 1 [[]] (List.replicate (k.length / 2 - 10 - ([] : List UInt8).length) 0) (by simp) (junk_zeros _).no
        rw [framesT_cons, show framesT [] = [] from rfl, List.append_nil] at this
        exact this
      obtain ⟨q1, q2, q3⟩ := open_clean e3 hf2 (by unfold tornL; rw [hfr]; exact zeros_clean _)
      refine ⟨q1, q2, ?_⟩
      rw [q3, g1]
      unfold DSt.logOf
      rw [hfr, e1, hk2l, List.length_replicate]
      simp
      omega
end Go.Proofs.Ytbdencfgiemliaa
