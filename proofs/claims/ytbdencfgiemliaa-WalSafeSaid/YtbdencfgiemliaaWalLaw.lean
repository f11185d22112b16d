/-
  Plain laws of a log upon a disk that does not stop: steps that fit all tell OK; what a new disk opens to. No program.
-/
import Derived.Test.YtbdencfgiemliaaWal16
import Derived.Test.YtbdencfgiemliaaWal17
namespace Go.Proofs.Ytbdencfgiemliaa
set_option linter.unusedVariables false
/-- A disk that is up, not armed, with nothing pending. -/
def calm (k : List UInt8) : DSt := ⟨k, [], false, 0⟩
/-- Bytes laid over bytes at a place. -/
def poke (k : List UInt8) (a : Nat) (b : List UInt8) : List UInt8 := layAll 0 k (at_ a b)
theorem poke_len (k : List UInt8) (a : Nat) (b : List UInt8) : (poke k a b).length = k.length := layAll_len _ _ _
def pokes (k : List UInt8) (ps : List (Nat × List UInt8)) : List UInt8 := ps.foldl (fun k p => poke k p.1 p.2) k
theorem pokes_len (ps : List (Nat × List UInt8)) : ∀ k : List UInt8, (pokes k ps).length = k.length := by
  induction ps with
  | nil => intro k; rfl
  | cons p t ih => intro k; show (pokes (poke k p.1 p.2) t).length = _; rw [ih, poke_len]
/-- Writes, each synced. -/
def opsOf : List (Nat × List UInt8) → List DOp
  | [] => []
  | p :: t => some ((p.1 : Int), p.2) :: none :: opsOf t
theorem calm_write (k : List UInt8) (a : Nat) (b : List UInt8) (h : a + b.length ≤ k.length) : (calm k).writeE (a : Int) b = 0 ∧ (calm k).write (a : Int) b = ⟨k, at_ a b, false, 0⟩ := by
  have hz : (calm k).ask (a : Int) (b.length : Int) = 0 := DSt.ask_ok (calm k) a b.length rfl h
  unfold DSt.writeE DSt.write
  rw [if_pos hz, if_pos hz]
  constructor <;> rfl
theorem calm_sync (k : List UInt8) (ps : List (Nat × UInt8)) : (⟨k, ps, false, 0⟩ : DSt).syncE = 0 ∧ (⟨k, ps, false, 0⟩ : DSt).sync = calm (layAll 0 k ps) := by
  constructor
  · rfl
  · show calm (layAll 0 k (ps.take ps.length)) = _
    rw [List.take_length]
theorem calm_steps (ps : List (Nat × List UInt8)) : ∀ k : List UInt8, (∀ p ∈ ps, p.1 + p.2.length ≤ k.length) → (calm k).stepsE (opsOf ps) = 0 ∧ (calm k).steps (opsOf ps) = calm (pokes k ps) := by
  induction ps with
  | nil => intro k h; exact ⟨rfl, rfl⟩
  | cons p t ih =>
    intro k h
    obtain ⟨h1, h2⟩ := calm_write k p.1 p.2 (h p (by simp))
    obtain ⟨h3, h4⟩ := calm_sync k (at_ p.1 p.2)
    have h5 : (calm k).opE (some ((p.1 : Int), p.2)) = 0 := h1
    have h6 : (calm k).op (some ((p.1 : Int), p.2)) = ⟨k, at_ p.1 p.2, false, 0⟩ := h2
    have h7 : (⟨k, at_ p.1 p.2, false, 0⟩ : DSt).opE none = 0 := h3
    have h8 : (⟨k, at_ p.1 p.2, false, 0⟩ : DSt).op none = calm (poke k p.1 p.2) := h4
    have h9 := ih (poke k p.1 p.2) fun q hq => by rw [poke_len]; exact h q (by simp [hq])
    rw [opsOf, DSt.stepsE, DSt.steps, if_pos h5, if_pos h5, h6, DSt.stepsE, DSt.steps, if_pos h7, if_pos h7, h8]
    exact h9
def compactW (z half turn : Nat) (l : List UInt8) : List (Nat × List UInt8) := [(half * z, List.replicate 5 0), (half * z + 5, List.replicate (z - 5) 0), (half * z + 5, frameL l), (half * z, headL turn)]
theorem compactOps_eq (z half turn : Nat) (l : List UInt8) : compactOps z half turn l = opsOf (compactW z half turn l) := by
  unfold compactOps compactW
  simp [opsOf]
theorem appendOps_eq (z half stop : Nat) (l : List UInt8) : appendOps z half stop l = opsOf [(half * z + stop, frameL l)] := by
  unfold appendOps
  simp [opsOf]
def clearW (z half stop q : Nat) : List (Nat × List UInt8) := [(half * z + q, List.replicate (z - q) 0), (half * z + stop, List.replicate (q - stop) 0)]
theorem clearOps_eq (z half stop q : Nat) : clearOps z half stop q = opsOf (clearW z half stop q) := by
  unfold clearOps clearW
  simp [opsOf]
theorem headL_len (t : Nat) : (headL t).length = 5 := rfl
theorem compactW_fits {z half turn : Nat} {l : List UInt8} {L : Nat} (hz : z = L / 2) (h5 : 5 ≤ z) (hh : half ≤ 1) (hl : l.length + 10 ≤ z) : ∀ p ∈ compactW z half turn l, p.1 + p.2.length ≤ L := by
  have hm : half * z + z ≤ L := by
    obtain rfl | rfl : half = 0 ∨ half = 1 := by omega
    · omega
    · omega
  intro p hp
  unfold compactW at hp
  simp only [List.mem_cons, List.not_mem_nil, or_false] at hp
  rcases hp with rfl | rfl | rfl | rfl
  · simp only [List.length_replicate]; omega
  · simp only [List.length_replicate]; omega
  · simp only [frameL_len]; omega
  · simp only [headL_len]; omega
theorem calm_compact {k : List UInt8} {half turn : Nat} {l : List UInt8} (h48 : 48 ≤ k.length) (hh : half ≤ 1) (hl : l.length + 10 ≤ k.length / 2) :
    (calm k).stepsE (compactOps (k.length / 2) half turn l) = 0 ∧ (calm k).steps (compactOps (k.length / 2) half turn l) = calm (pokes k (compactW (k.length / 2) half turn l)) := by
  rw [compactOps_eq]
  exact calm_steps _ k (compactW_fits rfl (by omega) hh hl)
theorem calm_append {k : List UInt8} {half stop : Nat} {l : List UInt8} (hh : half ≤ 1) (hl : stop + (l.length + 5) ≤ k.length / 2) :
    (calm k).stepsE (appendOps (k.length / 2) half stop l) = 0 ∧ (calm k).steps (appendOps (k.length / 2) half stop l) = calm (pokes k [(half * (k.length / 2) + stop, frameL l)]) := by
  rw [appendOps_eq]
  refine calm_steps _ k fun p hp => ?_
  rw [List.mem_singleton] at hp
  subst hp
  simp only [frameL_len]
  obtain rfl | rfl : half = 0 ∨ half = 1 := by omega
  · omega
  · omega
theorem calm_read (k : List UInt8) (a n : Nat) : (calm k).read a n = (k.drop a).take n := rfl
theorem turnOf_none {b : List UInt8} (h : (b.getD 4 0).toNat ≠ 165) : turnOf b = -1 := if_neg h
theorem new_calm (L : Nat) : DSt.new L = calm (List.replicate L 0) := rfl
/-- A disk where neither half's head counts. -/
theorem findK_bare {s : DSt} (h0 : turnOf (s.halfB 0) = -1) (h1 : turnOf (s.halfB 1) = -1) : (s.findK 2).2.2 = none := by
  have e0 : s.findK 0 = (0, -1, none) := rfl
  have e1 : s.findK 1 = (0, -1, none) := by
    show (if (s.findK 0).2.1 < turnOf (s.halfB 0) then _ else s.findK 0) = _
    rw [h0, e0, if_neg (by decide)]
  show (if (s.findK 1).2.1 < turnOf (s.halfB 1) then (1, turnOf (s.halfB 1), some (s.halfB 1)) else s.findK 1).2.2 = none
  rw [h1, e1, if_neg (by decide)]
theorem new_bare (L : Nat) : ((DSt.new L).findK 2).2.2 = none := by
  have h : ∀ k, turnOf ((DSt.new L).halfB k) = -1 := fun k => turnOf_none (by
    unfold DSt.halfB
    rw [new_calm, calm_read, List.drop_replicate, List.take_replicate, List.getD_eq_getElem?_getD, List.getElem?_replicate]
    split <;> decide)
  exact findK_bare (h 0) (h 1)
theorem new_open {L : Nat} (h48 : 48 ≤ L) : (DSt.new L).openE = 0 ∧ (DSt.new L).openL = ⟨0, 1, 10, [], [], false⟩ ∧ (DSt.new L).openD = calm (pokes (List.replicate L 0) (compactW (L / 2) 0 1 [])) := by
  obtain ⟨h1, h2⟩ := (DSt.new L).openL_none (new_bare L)
  obtain ⟨h3, h4⟩ := (DSt.new L).openE_up rfl
  have hl : (List.replicate L (0 : UInt8)).length = L := List.length_replicate
  have hk : (DSt.new L).kept.length = L := hl
  have h5 := calm_compact (k := List.replicate L 0) (half := 0) (turn := 1) (l := []) (by rw [hl]; exact h48) (by omega) (by rw [hl]; simp; omega)
  rw [hl] at h5
  rw [hk] at h2
  rw [h3, h4, h2]
  exact ⟨h5.1, h1, h5.2⟩
theorem newSize_nat {n : Int} {L : Nat} (h : n = (L : Int)) (hL : L ≤ 65536) : newSize n = L := by
  unfold newSize
  omega
end Go.Proofs.Ytbdencfgiemliaa
