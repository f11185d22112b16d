/-
  Plain laws of a log on a disk: how the half in use lies there (Half), what opening tells of it, what an append and a compaction make of it. No program.
-/
import Derived.Test.YtbdencfgiemliaaLogP3
namespace Go.Proofs.Ytbdencfgiemliaa
set_option linter.unusedVariables false
/-- The half in use holds the log x, and behind its frames J; the other half's turn is lower. -/
structure Half (k : List UInt8) (x : LSt) (J : List UInt8) : Prop where
  len : 48 ≤ k.length ∧ k.length ≤ 65536
  half : x.half ≤ 1
  turn : 1 ≤ x.turn ∧ x.turn < 4294967296
  img : hb k x.half = headL x.turn.toNat ++ (framesT (x.base :: x.recs) ++ J)
  stop : x.stop + J.length = k.length / 2
  fits : ∀ b ∈ x.base :: x.recs, b.length ≤ 8192
  junk : Junk J
  other : turnOf (hb k (1 - x.half)) < x.turn
  ok : x.broken = false
section
variable {k : List UInt8} {x : LSt} {J : List UInt8}
theorem Half.frames (h : Half k x J) : framesOf (hb k x.half) = (x.base :: x.recs, J) := by
  rw [h.img]
  exact framesOf_head _ _ _ h.fits h.junk.no
theorem Half.turnH (h : Half k x J) : turnOf (hb k x.half) = x.turn := by
  rw [h.img, turnOf_head _ _ (by have := h.turn; omega)]
  have := h.turn
  omega
theorem Half.size (h : Half k x J) : x.stop = 5 + (framesT (x.base :: x.recs)).length := by
  have h1 := hb_len k x.half h.half
  rw [h.img] at h1
  simp only [List.length_append, headL_len] at h1
  have := h.stop
  omega
theorem Half.find (h : Half k x J) {s : DSt} (hk : s.kept = k) (hw : s.waits = []) : s.findK 2 = (x.half, x.turn, some (hb k x.half)) := by
  have hB : ∀ i, s.halfB i = hb k i := fun i => by rw [calm_halfB s hw i, hk]
  have h1 := findK_use (s := s) h.half (by rw [hB, h.turnH]; have := h.turn; omega) (by rw [hB, hB, h.turnH]; exact h.other)
  rw [hB, h.turnH] at h1
  exact h1
theorem Half.openL (h : Half k x J) {s : DSt} (hk : s.kept = k) (hw : s.waits = []) : s.openL = x := by
  have hf := h.find hk hw
  rw [(s.openL_some _ (by rw [hf])).1, hf]
  unfold DSt.logOf
  rw [h.frames, hk]
  have h1 := h.stop
  have h2 := h.ok
  obtain ⟨half, turn, stop, base, recs, broken⟩ := x
  simp only at h1 h2 ⊢
  subst h2
  congr 1
  omega
/-- Opening where nothing stands behind the frames. -/
theorem Half.open_ {n : Nat} (h : Half k x (List.replicate n 0)) {s : DSt} (hk : s.kept = k) (hw : s.waits = []) (hd : s.down = false) : s.openE = 0 ∧ s.openD = s ∧ s.openL = x := by
  have hf := h.find hk hw
  obtain ⟨h1, h2, _⟩ := open_clean hd hf (by unfold tornL; rw [h.frames]; exact zeros_clean _)
  exact ⟨h1, h2, h.openL hk hw⟩
/-- A write behind the frames. -/
theorem Half.behind (h : Half k x J) (a : Nat) (b : List UInt8) (hf : a + b.length ≤ J.length) : hb (poke k (x.half * (k.length / 2) + (x.stop + a)) b) x.half = headL x.turn.toNat ++ (framesT (x.base :: x.recs) ++ poke J a b) ∧ hb (poke k (x.half * (k.length / 2) + (x.stop + a)) b) (1 - x.half) = hb k (1 - x.half) := by
  have hst := h.stop
  obtain ⟨h1, h2⟩ := hb_poke k x.half (x.stop + a) b h.half (by omega)
  refine ⟨?_, h2⟩
  rw [h1, h.img, ← List.append_assoc, ← List.append_assoc]
  have hl : (headL x.turn.toNat ++ framesT (x.base :: x.recs)).length = x.stop := by rw [List.length_append, headL_len, h.size]
  rw [← hl]
  exact poke_right _ J a b hf
theorem Half.junked (h : Half k x J) (a : Nat) (b : List UInt8) (hf : a + b.length ≤ J.length) (hj : Junk (poke J a b)) : Half (poke k (x.half * (k.length / 2) + (x.stop + a)) b) x (poke J a b) := by
  obtain ⟨h1, h2⟩ := h.behind a b hf
  exact { len := by rw [poke_len]; exact h.len, half := h.half, turn := h.turn, img := h1, stop := by rw [poke_len, poke_len]; exact h.stop, fits := h.fits, junk := hj, other := by rw [h2]; exact h.other, ok := h.ok }
/-- A write into the other half. -/
theorem Half.beside (h : Half k x J) (a : Nat) (b : List UInt8) (hf : a + b.length ≤ k.length / 2) (ht : turnOf (poke (hb k (1 - x.half)) a b) < x.turn) : Half (poke k ((1 - x.half) * (k.length / 2) + a) b) x J ∧ hb (poke k ((1 - x.half) * (k.length / 2) + a) b) (1 - x.half) = poke (hb k (1 - x.half)) a b := by
  have hh := h.half
  obtain ⟨h1, h2⟩ := hb_poke k (1 - x.half) a b (by omega) hf
  rw [show 1 - (1 - x.half) = x.half by omega] at h2
  exact ⟨{ len := by rw [poke_len]; exact h.len, half := h.half, turn := h.turn, img := by rw [h2]; exact h.img, stop := by rw [poke_len]; exact h.stop, fits := h.fits, junk := h.junk, other := by rw [h1]; exact ht, ok := h.ok }, h1⟩
theorem poke_zeros (n : Nat) (b : List UInt8) (h : b.length ≤ n) : poke (List.replicate n 0) 0 b = b ++ List.replicate (n - b.length) 0 := by
  rw [poke_eq b _ 0 (by rw [List.length_replicate]; omega), List.take_zero, Nat.zero_add, List.drop_replicate, List.nil_append]
/-- An append that is done. -/
theorem Half.append {n : Nat} (h : Half k x (List.replicate n 0)) (l : List UInt8) (hl : l.length ≤ 8192) (hf : x.stop + (l.length + 5) ≤ k.length / 2) :
    Half (poke k (x.half * (k.length / 2) + x.stop) (frameL l)) { x with stop := x.stop + (l.length + 5), recs := x.recs ++ [l] } (List.replicate (n - (l.length + 5)) 0) := by
  have hst := h.stop
  rw [List.length_replicate] at hst
  obtain ⟨h1, h2⟩ := h.behind 0 (frameL l) (by rw [frameL_len, List.length_replicate]; omega)
  rw [Nat.add_zero] at h1 h2
  rw [poke_zeros n (frameL l) (by rw [frameL_len]; omega), frameL_len] at h1
  have e : framesT (x.base :: (x.recs ++ [l])) = framesT (x.base :: x.recs) ++ frameL l := framesT_snoc (x.base :: x.recs) l
  exact { len := by rw [poke_len]; exact h.len, half := h.half, turn := h.turn
          img := by show _ = headL x.turn.toNat ++ (framesT (x.base :: (x.recs ++ [l])) ++ _); rw [h1, e, List.append_assoc]
          stop := by show x.stop + (l.length + 5) + _ = _; rw [poke_len, List.length_replicate]; omega
          fits := by
            intro b hb'
            have : b ∈ (x.base :: x.recs) ++ [l] := hb'
            rcases List.mem_append.1 this with h9 | h9
            · exact h.fits b h9
            · rw [List.mem_singleton] at h9; rw [h9]; exact hl
          junk := junk_zeros _
          other := by rw [show (1 - ({ x with stop := x.stop + (l.length + 5), recs := x.recs ++ [l] } : LSt).half) = 1 - x.half from rfl, h2]; exact h.other
          ok := h.ok }
/-- The four writes of a compaction, within a half. -/
def cW (z t : Nat) (l : List UInt8) : List (Nat × List UInt8) := [(0, List.replicate 5 0), (5, List.replicate (z - 5) 0), (5, frameL l), (0, headL t)]
theorem cW_fits {z t : Nat} {l : List UInt8} (hz : 5 ≤ z) (hl : l.length + 10 ≤ z) : ∀ p ∈ cW z t l, p.1 + p.2.length ≤ z := by
  intro p hp
  unfold cW at hp
  simp only [List.mem_cons, List.not_mem_nil, or_false] at hp
  rcases hp with rfl | rfl | rfl | rfl
  · simp only [List.length_replicate]; omega
  · simp only [List.length_replicate]; omega
  · simp only [frameL_len]; omega
  · simp only [headL_len]; omega
/-- A compaction that is done. -/
theorem Half.compact (h : Half k x J) (l : List UInt8) (hl : l.length ≤ 8192) (hf : l.length + 10 ≤ k.length / 2) (ht : x.turn + 1 < 4294967296) :
    Half (pokes k (compactW (k.length / 2) (1 - x.half) (x.turn.toNat + 1) l)) ⟨1 - x.half, ((x.turn.toNat + 1 : Nat) : Int), l.length + 10, l, [], false⟩ (List.replicate (k.length / 2 - 10 - l.length) 0) := by
  have hh := h.half
  have htu := h.turn
  have hlen := h.len
  have hp := hb_pokes (1 - x.half) (by omega) (cW (k.length / 2) (x.turn.toNat + 1) l) k (cW_fits (by omega) hf)
  rw [show inHalf (1 - x.half) (k.length / 2) (cW (k.length / 2) (x.turn.toNat + 1) l) = compactW (k.length / 2) (1 - x.half) (x.turn.toNat + 1) l from rfl, show 1 - (1 - x.half) = x.half by omega] at hp
  obtain ⟨hp1, hp2⟩ := hp
  have hc := compact_half (hb k (1 - x.half)) (k.length / 2) (x.turn.toNat + 1) l (hb_len k _ (by omega)) hf
  rw [show [(0, List.replicate 5 (0 : UInt8)), (5, List.replicate (k.length / 2 - 5) 0), (5, frameL l), (0, headL (x.turn.toNat + 1))] = cW (k.length / 2) (x.turn.toNat + 1) l from rfl] at hc
  rw [hc] at hp1
  exact { len := by rw [pokes_len]; exact hlen, half := by show 1 - x.half ≤ 1; omega, turn := by show 1 ≤ ((x.turn.toNat + 1 : Nat) : Int) ∧ ((x.turn.toNat + 1 : Nat) : Int) < 4294967296; omega
          img := by
            show hb _ (1 - x.half) = headL (x.turn.toNat + 1) ++ (framesT [l] ++ _)
            rw [hp1, framesT_cons, show framesT [] = [] from rfl, List.append_nil]
          stop := by show l.length + 10 + _ = _; rw [pokes_len, List.length_replicate]; omega
          fits := by intro b hb'; rw [List.mem_singleton] at hb'; rw [hb']; exact hl
          junk := junk_zeros _
          other := by
            show turnOf (hb _ (1 - (1 - x.half))) < ((x.turn.toNat + 1 : Nat) : Int)
            rw [show 1 - (1 - x.half) = x.half by omega, hp2, h.turnH]
            omega
          ok := rfl }
end
/-- A new disk, opened. -/
theorem new_half {L : Nat} (h48 : 48 ≤ L) (hL : L ≤ 65536) : Half (pokes (List.replicate L 0) (compactW (L / 2) 0 1 [])) ⟨0, 1, 10, [], [], false⟩ (List.replicate (L / 2 - 10) 0) := by
  obtain ⟨k, hk⟩ : ∃ k, k = List.replicate L (0 : UInt8) := ⟨_, rfl⟩
  have hkl : k.length = L := by rw [hk]; exact List.length_replicate
  have hp := hb_pokes 0 (by omega) (cW (k.length / 2) 1 []) k (cW_fits (by omega) (by simp; omega))
  rw [show inHalf 0 (k.length / 2) (cW (k.length / 2) 1 []) = compactW (k.length / 2) 0 1 [] from rfl] at hp
  obtain ⟨hp1, hp2⟩ := hp
  have hc := compact_half (hb k 0) (k.length / 2) 1 [] (hb_len k _ (by omega)) (by simp; omega)
  rw [show [(0, List.replicate 5 (0 : UInt8)), (5, List.replicate (k.length / 2 - 5) 0), (5, frameL []), (0, headL 1)] = cW (k.length / 2) 1 [] from rfl] at hc
  rw [hc] at hp1
  rw [← hk, ← hkl]
  exact { len := by rw [pokes_len]; omega, half := Nat.zero_le _, turn := by decide
          img := by
            show hb _ 0 = headL 1 ++ (framesT [[]] ++ _)
            rw [hp1, framesT_cons, show framesT [] = [] from rfl, List.append_nil]
            rfl
          stop := by show 10 + _ = _; rw [pokes_len, List.length_replicate]; omega
          fits := by intro b hb'; rw [List.mem_singleton] at hb'; rw [hb']; exact Nat.zero_le _
          junk := junk_zeros _
          other := by
            show turnOf (hb _ 1) < 1
            rw [show hb (pokes k (compactW (k.length / 2) 0 1 [])) 1 = hb k 1 from hp2, turnOf_none]
            · decide
            · unfold hb
              rw [hk, List.drop_replicate, List.take_replicate, zeros_getD]
              decide
          ok := rfl }
end Go.Proofs.Ytbdencfgiemliaa
