/-
  What a proof's frame hands to the walk: slices of bools, slices of arrays of integers, turned into lists that are read.
-/
import Derived.Test.YtbdencfgiemliaaFrame
import Derived.Deep.Slices
import Derived.ProofKit
namespace Go.Proofs.Ytbdencfgiemliaa
open Go.RowKit Go.ChangeShapes Go.WideShapes Go.Deep
section
variable {H : Type} {enc : TypeId × Value → H} {P : Program} {w : World} {base : Nat} {spare : Nat → Bool} {held : Bool}
theorem add_plain (b o j : Nat) : (⟨b, o, none⟩ : Addr).add j = ⟨b, o + j, none⟩ := by unfold Addr.add; split <;> simp_all
theorem rd_of (w : World) (x : Addr) (cs : List Value) (h : ∀ j u, cs[j]? = some u → w.cell? (x.add j) = some u) : Rd w (fun b => b < w.heap.size) (some x) cs := by
  rcases cs with _ | ⟨u, t⟩
  · exact .inl rfl
  · have h0 := h 0 u rfl
    have e0 : x.add 0 = x := by simp [Addr.add]
    rw [e0] at h0
    have hx := addr_plain h0
    obtain ⟨b, o, s⟩ := x
    simp at hx
    subst hx
    refine .inr ⟨b, o, rfl, World.block_lt_of_cell? w _ h0, fun j v hv => ?_⟩
    rw [← add_plain]
    exact h j v hv
theorem open_bools {t e : TypeId} {fuel len cap : Nat} {a : Option Addr} {x : DataW H × List MemPlace} (ht : P.underlying t = some (.slice e)) (he : P.underlying e = some .bool) (hc : P.cellsOf e = 1)
    (h : DataW.trod enc P w base (fun _ => true) held fuel t [.slice a len cap] = some x) : ∃ bs : List Bool, bs.length = len ∧ len ≤ maxLen ∧ Rd w (fun b => b < w.heap.size) a (bs.map Value.bool) := by
  rcases open_slice1 ht hc h with ⟨hcs, _⟩ | ⟨a', len', cap', m, n, V, D, Pl, hcs, _, hl, hm, hmm, _, hx⟩
  · simp at hcs
    obtain ⟨rfl, rfl, rfl⟩ := hcs
    exact ⟨[], rfl, Nat.zero_le _, .inl rfl⟩
  · simp at hcs
    obtain ⟨rfl, rfl, rfl⟩ := hcs
    simp only [if_true] at hmm
    subst hmm
    have hb : ∀ i, i < len → ∃ b, V i = .bool b ∧ w.cell? (a'.add i) = some (.bool b) := by
      intro i hi
      obtain ⟨h1, h2⟩ := hx i (by omega)
      obtain ⟨b, hb, _⟩ := DataW.trod_bool he h2
      simp at hb
      exact ⟨b, hb, by rw [h1, hb]⟩
    obtain ⟨B, hB⟩ := choose_lt (α := Bool) (p := fun i b => w.cell? (a'.add i) = some (.bool b)) (n := len) (fun i hi => by
      obtain ⟨b, _, h2⟩ := hb i hi
      exact ⟨b, h2⟩)
    refine ⟨(List.range len).map B, by simp, by omega, rd_of w a' _ fun j u hu => ?_⟩
    rw [List.map_map, List.getElem?_map] at hu
    rcases Nat.lt_or_ge j len with hj | hj
    · rw [List.getElem?_range hj] at hu
      simp at hu
      rw [← hu]
      exact hB j hj
    · rw [List.getElem?_eq_none (by simpa using hj)] at hu; cases hu
/-- A slice of arrays of k integers. -/
theorem open_arrs {t e q : TypeId} {k fuel len cap : Nat} {a : Option Addr} {x : DataW H × List MemPlace} (ht : P.underlying t = some (.slice e)) (he : P.underlying e = some (.array k q)) (hq : P.underlying q = some (.int .i64)) (hce : P.cellsOf e = k) (hcq : P.cellsOf q = 1)
    (h : DataW.trod enc P w base (fun _ => true) held fuel t [.slice a len cap] = some x) :
    ∃ Z : Nat → Nat → Int, len ≤ maxLen ∧ (∀ i j, i < len → j < k → -9223372036854775808 ≤ Z i j ∧ Z i j ≤ 9223372036854775807) ∧ (0 < len → 0 < k → ∃ b o, a = some ⟨b, o, none⟩ ∧ b < w.heap.size ∧ ∀ i j, i < len → j < k → w.cell? ⟨b, o + (i * k + j), none⟩ = some (.int .i64 (Z i j))) := by
  rcases open_slice ht h with ⟨hcs, _⟩ | ⟨a', len', cap', m, n, D, Pl, hcs, _, hl, hm, hmm, _, hx⟩
  · simp at hcs
    obtain ⟨rfl, rfl, rfl⟩ := hcs
    exact ⟨fun _ _ => 0, Nat.zero_le _, fun i j hi _ => by omega, fun h0 _ => by omega⟩
  · simp at hcs
    obtain ⟨rfl, rfl, rfl⟩ := hcs
    simp only [if_true] at hmm
    subst hmm
    rw [hce] at hx
    have hz : ∀ i, i < len → ∃ f : Nat → Int, ∀ j, j < k → w.cell? (a'.add (i * k + j)) = some (.int .i64 (f j)) ∧ -9223372036854775808 ≤ f j ∧ f j ≤ 9223372036854775807 := by
      intro i hi
      obtain ⟨cs', h1, h2⟩ := hx i (by omega)
      obtain ⟨_, hcl, hat⟩ := World.cells?_some h1
      obtain ⟨xs, m', _, _, _, hxl, hf⟩ := DataW.trod_array he h2
      obtain ⟨f, hf'⟩ := choose_lt (α := Int) (p := fun j z => w.cell? (a'.add (i * k + j)) = some (.int .i64 z) ∧ -9223372036854775808 ≤ z ∧ z ≤ 9223372036854775807) (n := k) (fun j hj => by
        have h3 := hf j hj
        rw [hcq, Nat.mul_one] at h3
        have hv : cs'[j]? = some (cs'[j]'(by omega)) := List.getElem?_eq_getElem (by omega)
        have hone : (cs'.drop j).take 1 = [cs'[j]'(by omega)] := by
          rw [List.drop_eq_getElem_cons (by omega)]
          rfl
        rw [hone] at h3
        have hys : xs[j]? = some (xs[j]'(by omega)) := List.getElem?_eq_getElem (by omega)
        rw [hys] at h3
        obtain ⟨z, hz, _, hw⟩ := DataW.trod_int hq h3
        simp at hz
        have hb := of_wf64 hw
        refine ⟨z, ?_, hb⟩
        have h4 := hat j (by omega)
        rw [Go.Deep.add_add] at h4
        rw [h4, hv, hz])
      exact ⟨f, hf'⟩
    obtain ⟨Z, hZ⟩ := choose_lt (α := Nat → Int) (p := fun i f => ∀ j, j < k → w.cell? (a'.add (i * k + j)) = some (.int .i64 (f j)) ∧ -9223372036854775808 ≤ f j ∧ f j ≤ 9223372036854775807) (n := len) hz
    refine ⟨Z, by omega, fun i j hi hj => (hZ i hi j hj).2, fun h0 hk => ?_⟩
    have h00 := (hZ 0 h0 0 hk).1
    have e0 : a'.add (0 * k + 0) = a' := by simp [Addr.add]
    rw [e0] at h00
    have hx' := addr_plain h00
    obtain ⟨b, o, s⟩ := a'
    simp at hx'
    subst hx'
    refine ⟨b, o, rfl, World.block_lt_of_cell? w _ h00, fun i j hi hj => ?_⟩
    rw [← add_plain]
    exact (hZ i hi j hj).1
end
end Go.Proofs.Ytbdencfgiemliaa
