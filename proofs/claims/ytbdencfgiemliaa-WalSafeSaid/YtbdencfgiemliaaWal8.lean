/-
  Slices of slices of bytes, and how a log lies in memory (LRep): its block, its base, its records. The law of append onto such a slice at any offset. No program but for the types' sizes. No condition.
-/
import Derived.Test.YtbdencfgiemliaaWal1
import Derived.ArgAppend
namespace Go.Proofs.Ytbdencfgiemliaa
open Go.RowKit
set_option linter.unusedVariables false
theorem info22 : (Try.prog.info? 22).map (fun i => (i.zero, i.size, i.bytes)) = some (some (.slice none 0 0), 1, 24) := by kernel_rfl
/-- A slice of slices of bytes whose array is known whole: it begins at any place of it, or is nil. -/
def Rw (w : World) (A : Option Addr) (n c : Nat) (cs : List Value) : Prop :=
  cs.length = n ∧ n ≤ c ∧ c ≤ maxLen ∧ ((A = none ∧ c = 0) ∨ ∃ g o cur, A = some ⟨g, o, none⟩ ∧ Blk w g 22 cur ∧ o + c ≤ cur.size ∧ ∀ j u, cs[j]? = some u → cur[o + j]? = some u)
section
variable {S F : Nat → Prop} {w w' : World} {A : Option Addr} {n c : Nat} {cs : List Value}
theorem rw_nil (w : World) : Rw w none 0 0 [] := ⟨rfl, Nat.le_refl _, Nat.zero_le _, .inl ⟨rfl, rfl⟩⟩
theorem Rw.keep (h : Rw w A n c cs) (hk : Keep S w w') (hn : ∀ b, BlkOf A b → ¬ S b) : Rw w' A n c cs := by
  refine ⟨h.1, h.2.1, h.2.2.1, ?_⟩
  rcases h.2.2.2 with h2 | ⟨g, o, cur, hA, hg, r⟩
  · exact .inl h2
  · exact .inr ⟨g, o, cur, hA, hg.keep hk (hn g ⟨_, hA, rfl⟩), r⟩
theorem Rw.rd (h : Rw w A n c cs) : Rd w (BlkOf A) A cs := by
  rcases h.2.2.2 with ⟨rfl, rfl⟩ | ⟨g, o, cur, hA, hg, _, hc⟩
  · left
    exact List.eq_nil_of_length_eq_zero (by have := h.1; have := h.2.1; omega)
  · exact .inr ⟨g, o, hA, ⟨_, hA, rfl⟩, fun j u hu => by rw [hg.cell]; exact hc j u hu⟩
theorem Rw.lt (h : Rw w A n c cs) : ∀ b, BlkOf A b → b < w.heap.size := by
  rintro b ⟨a, ha, rfl⟩
  rcases h.2.2.2 with ⟨rfl, _⟩ | ⟨g, o, cur, hA, hg, _⟩
  · cases ha
  · rw [hA] at ha
    injection ha with ha
    subst ha
    exact hg.lt
theorem Own.rw_ {base : Nat} (h : Own w base 22 A n c cs) : Rw w A n c cs ∧ ∀ b, BlkOf A b → base ≤ b := by
  have hl := h.len
  rcases h.form with ⟨rfl, rfl, rfl, rfl⟩ | ⟨g, cur, rfl, hb, hg, hc, hm, hs, ht⟩
  · exact ⟨rw_nil w, fun b hb => by obtain ⟨a, ha, _⟩ := hb; cases ha⟩
  · refine ⟨⟨hl, hc, hm, .inr ⟨g, 0, cur, rfl, hg, by omega, fun j u hu => ?_⟩⟩, fun b hb' => ?_⟩
    · have hj : j < cs.length := by
        rcases Nat.lt_or_ge j cs.length with h1 | h1
        · exact h1
        · rw [List.getElem?_eq_none h1] at hu; cases hu
      rw [← ht, List.getElem?_take, if_pos (by omega)] at hu
      rw [Nat.zero_add]
      simpa using hu
    · obtain ⟨a, ha, rfl⟩ := hb'
      injection ha with ha
      rw [← ha]
      exact hb
end
section
variable {P : Program} (w : World)
/-- ONE ELEMENT MORE. -/
theorem run_append_rw (t ty : TypeId) (i : TypeInfo) (z : Value) (bytes : Nat) (ht : P.underlying t = some (.slice 22)) (hi : P.info? 22 = some i) (hz : i.zero = some z) (hsize : i.size = 1) (hby : i.bytes = bytes) (hzs : z.cells.size = 1)
    {A : Option Addr} {n c : Nat} {cs : List Value} (h : Rw w A n c cs) (ad : Addr) (cx : Nat) (u : Value) (hu : w.cell? ad = some u) (h1 : u.oneCell' = true) (h63 : n + 1 ≤ maxLen) (hbytes : (n + 1) * bytes ≤ 140737488355328) :
    ∃ A' c' w', (Builtin.append_ #[t, t] ty #[.slice A n c, .slice (some ad) 1 cx]).run P w = .ok (.slice A' (n + 1) c') w' ∧ Rw w' A' (n + 1) c' (cs ++ [u]) ∧ Keep (BlkOf A) w w' ∧ (∀ b, BlkOf A' b → BlkOf A b ∨ (w.heap.size ≤ b ∧ b < w'.heap.size)) ∧ w.heap.size ≤ w'.heap.size := by
  have hnews : ∀ j v, ([u] : List Value)[j]? = some v → w.cell? (ad.add j) = some v := by
    intro j v hv
    match j, hv with
    | 0, hv => simp at hv; subst hv; simpa [Addr.add] using hu
  have hone : ∀ v ∈ ([u] : List Value), v.oneCell' = true := by simpa using h1
  have fromOwn : ∀ (v' : Value) (w' : World), w'.ownsRow w.heap.size 22 1 v' (n + 1) (cs ++ [u]) → Keep0 w w' → (Builtin.append_ #[t, t] ty #[.slice A n c, .slice (some ad) 1 cx]).run P w = .ok v' w' →
      ∃ A' c' w', (Builtin.append_ #[t, t] ty #[.slice A n c, .slice (some ad) 1 cx]).run P w = .ok (.slice A' (n + 1) c') w' ∧ Rw w' A' (n + 1) c' (cs ++ [u]) ∧ Keep (BlkOf A) w w' ∧ (∀ b, BlkOf A' b → BlkOf A b ∨ (w.heap.size ≤ b ∧ b < w'.heap.size)) ∧ w.heap.size ≤ w'.heap.size := by
    intro v' w' ho hk hrun
    obtain ⟨A', c', rfl, ho'⟩ := own_of ho
    obtain ⟨h2, h3⟩ := ho'.rw_
    exact ⟨A', c', w', hrun, h2, hk.of0 _, fun b hb => .inr ⟨h3 b hb, h2.lt b hb⟩, hk.size⟩
  rcases h.2.2.2 with ⟨rfl, rfl⟩ | ⟨g, o, cur, rfl, hg, hoc, hc⟩
  · obtain rfl : n = 0 := by have := h.2.1; omega
    obtain rfl : cs = [] := List.eq_nil_of_length_eq_zero h.1
    obtain ⟨v', w', hrun, r1, r2, _⟩ := run_append_own (P := P) w w.heap.size t ty 22 i z 1 bytes ht hi hz hsize hby hzs (by decide) (.slice none 0 0) 0 [] (World.ownsRow_nil w _ 22 1) ad 1 cx [u] rfl hnews hone (by simpa using h63) (by simpa using hbytes) (Nat.le_refl _)
    exact fromOwn v' w' (by simpa using r1) (Keep.ofGrown r2 (S := Nil) (by simp [Value.ownBlock])) hrun
  · by_cases hr : n + 1 ≤ c
    · have hin : o + n < cur.size := by omega
      have hsome : w.cell? ⟨g, o + n, none⟩ = some cur[o + n] := by rw [hg.cell]; exact Array.getElem?_eq_getElem hin
      have hrun := run_append_room_cells (P := P) w t ty 22 i ht hi g o n c ad 1 cx [u] (by simp [hsize]) hnews hone hr
        (fun j hj => by
          have : j = 0 := by simpa using hj
          subst this
          rw [hsize, Nat.mul_one, Nat.add_zero, hsome]; rfl)
        (fun j hj => hg.frozen _)
      rw [hsize, Nat.mul_one] at hrun
      have hw : w.setCells g (o + n) [u] = w.setCell ⟨g, o + n, none⟩ u := rfl
      rw [hw] at hrun
      refine ⟨_, _, _, hrun, ⟨by simp [h.1], hr, h.2.2.1, .inr ⟨g, o, _, rfl, hg.set_ (o + n) u, by simpa using hoc, fun j v hv => ?_⟩⟩, Keep.setCell w _ u ⟨_, rfl, rfl⟩, fun b hb => .inl hb, by simp [World.setCell]⟩
      have hlen := h.1
      by_cases hj : j < n
      · rw [List.getElem?_append_left (by omega)] at hv
        rw [Array.getElem?_setIfInBounds_ne (by omega)]
        exact hc j v hv
      · have hjn : j = n := by
          rcases Nat.lt_or_ge j (n + 1) with h5 | h5
          · omega
          · rw [List.getElem?_eq_none (by simp; omega)] at hv; cases hv
        subst hjn
        rw [List.getElem?_append_right (by omega)] at hv
        simp [hlen] at hv
        subst hv
        simp [hin]
    · have holds : ∀ j v, cs[j]? = some v → w.cell? ((⟨g, o, none⟩ : Addr).add j) = some v := by
        intro j v hv
        rw [Addr.add_lit, hg.cell]
        exact hc j v hv
      obtain ⟨v', w', hrun, r1, r2⟩ := run_append_arg_grows (P := P) w t ty 22 i z 1 bytes ht hi hz hsize hby hzs (by decide) ⟨g, o, none⟩ n c cs (by simp [h.1]) holds ad 1 cx [u] rfl hnews (by omega) h63 hbytes
      exact fromOwn v' w' r1 (Keep.ofGrown r2 (S := Nil) (by simp)) hrun
end
end Go.Proofs.Ytbdencfgiemliaa
