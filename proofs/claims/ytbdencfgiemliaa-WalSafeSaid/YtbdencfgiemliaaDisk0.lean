/-
  Plain disks: kept bytes, pending bytes with their places, down, armed; what each call does to them. No program. No condition.
-/
namespace Go.Proofs.Ytbdencfgiemliaa
/-- A disk: what is kept, what is pending (place, byte), whether it is down, what is armed. -/
structure DSt where
  kept : List UInt8
  waits : List (Nat × UInt8)
  down : Bool
  armed : Nat

/-- One byte laid over bytes that begin at the place 'start'. -/
def layOne (start : Nat) (o : List UInt8) (p : Nat × UInt8) : List UInt8 := if start ≤ p.1 ∧ p.1 - start < o.length then o.set (p.1 - start) p.2 else o
def layAll (start : Nat) (o : List UInt8) (ps : List (Nat × UInt8)) : List UInt8 := ps.foldl (layOne start) o
theorem layOne_len (start : Nat) (o : List UInt8) (p : Nat × UInt8) : (layOne start o p).length = o.length := by unfold layOne; split <;> simp
theorem layAll_len (start : Nat) (ps : List (Nat × UInt8)) : ∀ o : List UInt8, (layAll start o ps).length = o.length := by
  induction ps with
  | nil => intro o; rfl
  | cons p t ih => intro o; show (layAll start (layOne start o p) t).length = _; rw [ih, layOne_len]
theorem layAll_append (start : Nat) (o : List UInt8) (ps qs : List (Nat × UInt8)) : layAll start o (ps ++ qs) = layAll start (layAll start o ps) qs := by simp [layAll]
theorem layAll_snoc (start : Nat) (o : List UInt8) (ps : List (Nat × UInt8)) (p : Nat × UInt8) : layAll start o (ps ++ [p]) = layOne start (layAll start o ps) p := by simp [layAll]
/-- The bytes of a write, each with its place. -/
def at_ (a : Nat) : List UInt8 → List (Nat × UInt8)
  | [] => []
  | x :: t => (a, x) :: at_ (a + 1) t
theorem at_len (l : List UInt8) : ∀ a, (at_ a l).length = l.length := by
  induction l with
  | nil => intro a; rfl
  | cons x t ih => intro a; simp [at_, ih]
theorem at_append (l m : List UInt8) : ∀ a, at_ a (l ++ m) = at_ a l ++ at_ (a + l.length) m := by
  induction l with
  | nil => intro a; simp [at_]
  | cons x t ih => intro a; simp [at_, ih]; congr 1; omega
theorem at_get (l : List UInt8) : ∀ a k (h : k < l.length), (at_ a l)[k]? = some (a + k, l[k]) := by
  induction l with
  | nil => intro a k h; simp at h
  | cons x t ih =>
    intro a k h
    rcases k with _ | k
    · simp [at_]
    · simp only [at_, List.getElem?_cons_succ, List.getElem_cons_succ]
      rw [ih (a + 1) k (by simpa using h)]
      congr 2; omega
theorem at_mem (l : List UInt8) : ∀ a p, p ∈ at_ a l → a ≤ p.1 ∧ p.1 < a + l.length := by
  induction l with
  | nil => intro a p h; simp [at_] at h
  | cons x t ih =>
    intro a p h
    simp only [at_, List.mem_cons] at h
    rcases h with rfl | h
    · simp
    · have := ih _ _ h; simp; omega

/-- What keeps at, n from being asked; 0: nothing. -/
def DSt.ask (s : DSt) (a n : Int) : Int := if s.down then 15 else if a < 0 ∨ n < 0 then 1 else if (s.kept.length : Int) < a ∨ (s.kept.length : Int) - a < n then 2 else 0
/-- What stands on it, with all that is pending. -/
def DSt.all (s : DSt) : List UInt8 := layAll 0 s.kept s.waits
/-- The disk behind a write or a sync that would tell OK. -/
def DSt.stop (s : DSt) : DSt := { s with down := decide (s.armed = 1), armed := s.armed - 1 }
def DSt.errno (s : DSt) : Int := if s.down then 15 else 0
def DSt.put (s : DSt) (a : Nat) (b : List UInt8) : DSt := ({ s with waits := s.waits ++ at_ a b } : DSt).stop
def DSt.flush (s : DSt) (n : Nat) : DSt := { s with kept := layAll 0 s.kept (s.waits.take n), waits := [] }
def DSt.write (s : DSt) (a : Int) (b : List UInt8) : DSt := if s.ask a b.length = 0 then s.put a.toNat b else s
def DSt.writeE (s : DSt) (a : Int) (b : List UInt8) : Int := if s.ask a b.length = 0 then (s.put a.toNat b).errno else s.ask a b.length
def DSt.sync (s : DSt) : DSt := if s.down then s else if s.stop.down then s.stop else s.stop.flush s.waits.length
def DSt.syncE (s : DSt) : Int := if s.down then 15 else s.stop.errno
def DSt.arm (s : DSt) (n : Int) : DSt := { s with armed := n.toNat }
def DSt.cut (s : DSt) (keep : Int) : Nat := (max 0 (min keep (s.waits.length : Int))).toNat
def DSt.restart (s : DSt) (keep : Int) : DSt := { s.flush (s.cut keep) with down := false, armed := 0 }
def DSt.read (s : DSt) (a n : Nat) : List UInt8 := (s.all.drop a).take n
/-- Its size fits, and what is pending lies within. -/
structure DSt.Ok (s : DSt) : Prop where
  size : s.kept.length ≤ 65536
  pend : ∀ p ∈ s.waits, p.1 < s.kept.length
  arm : s.armed < 9223372036854775808
/-- Bytes laid over a part are that part of the bytes laid over all. -/
theorem lay_part (a n : Nat) (ps : List (Nat × UInt8)) : ∀ o : List UInt8, a + n ≤ o.length → (∀ p ∈ ps, p.1 < o.length) → layAll a ((o.drop a).take n) ps = ((layAll 0 o ps).drop a).take n := by
  induction ps with
  | nil => intro o _ _; rfl
  | cons p t ih =>
    intro o ho hp
    show layAll a (layOne a ((o.drop a).take n) p) t = ((layAll 0 (layOne 0 o p) t).drop a).take n
    have hp0 := hp p (by simp)
    have e0 : layOne 0 o p = o.set p.1 p.2 := by unfold layOne; simp [hp0]
    have e : layOne a ((o.drop a).take n) p = ((layOne 0 o p).drop a).take n := by
      rw [e0]
      unfold layOne
      have hl : ((o.drop a).take n).length = n := by simp; omega
      rw [hl]
      apply List.ext_getElem?
      intro i
      by_cases h : a ≤ p.1 ∧ p.1 - a < n
      · rw [if_pos h]
        simp only [List.getElem?_take, List.getElem?_drop, List.getElem?_set, hl]
        by_cases hi : p.1 - a = i
        · subst hi
          rw [if_pos rfl, if_pos h.2, if_pos h.2, show a + (p.1 - a) = p.1 by omega, if_pos rfl, if_pos hp0]
        · rw [if_neg hi, if_neg (show ¬ p.1 = a + i by omega)]
      · rw [if_neg h]
        simp only [List.getElem?_take, List.getElem?_drop, List.getElem?_set]
        by_cases hi : i < n
        · rw [if_pos hi, if_pos hi, if_neg (show ¬ p.1 = a + i by omega)]
        · rw [if_neg hi, if_neg hi]
    rw [e]
    exact ih (layOne 0 o p) (by rw [layOne_len]; exact ho) (fun q hq => by rw [layOne_len]; exact hp q (by simp [hq]))
end Go.Proofs.Ytbdencfgiemliaa
