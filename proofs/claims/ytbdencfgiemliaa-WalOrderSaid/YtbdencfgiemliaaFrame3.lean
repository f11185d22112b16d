/-
  What a proof's frame hands to the walk: a slice of slices of bytes, turned into rows that are read.
-/
import Derived.Test.YtbdencfgiemliaaFrame2
import Derived.Test.YtbdencfgiemliaaWal9
namespace Go.Proofs.Ytbdencfgiemliaa
open Go.RowKit Go.ChangeShapes Go.WideShapes Go.Deep
instance : Inhabited Row := ⟨⟨none, 0, 0, []⟩⟩
section
variable {H : Type} {enc : TypeId × Value → H} {P : Program} {w : World} {base : Nat} {held : Bool}
theorem open_brows {t e q : TypeId} {fuel len cap : Nat} {a : Option Addr} {x : DataW H × List MemPlace} (ht : P.underlying t = some (.slice e)) (he : P.underlying e = some (.slice q)) (hq : P.underlying q = some (.int .u8)) (hc : P.cellsOf e = 1) (hcq : P.cellsOf q = 1)
    (h : DataW.trod enc P w base (fun _ => true) held fuel t [.slice a len cap] = some x) : ∃ L, BRows w (fun b => b < w.heap.size) a len cap L := by
  rcases open_slice1 ht hc h with ⟨hcs, _⟩ | ⟨a', len', cap', m, n, V, D, Pl, hcs, _, hl, hm, hmm, _, hx⟩
  · simp at hcs
    obtain ⟨rfl, rfl, rfl⟩ := hcs
    exact ⟨[], [], rfl, rfl, Nat.le_refl _, Nat.zero_le _, fun _ => rfl, .inl rfl, by simp⟩
  · simp at hcs
    obtain ⟨rfl, rfl, rfl⟩ := hcs
    simp only [if_true] at hmm
    subst hmm
    have hb : ∀ i, i < len → ∃ r : Row, w.cell? (a'.add i) = some r.val ∧ Sl w (fun b => b < w.heap.size) r.A r.n r.c r.bytes := by
      intro i hi
      obtain ⟨h1, h2⟩ := hx i (by omega)
      rcases open_ints he hq hcq h2 with ⟨hcs, _⟩ | ⟨y, l, c, zs, hcs, _, hl', hm', hz', _, hcell, hwz⟩
      · simp at hcs
        refine ⟨⟨none, 0, 0, []⟩, by rw [h1, hcs]; rfl, sl_nil _ _⟩
      · simp at hcs
        obtain ⟨bs, hsl⟩ := row_sl (w := w) (a := some y) (len := l) (cap := c) (zs := zs) (.inr ⟨_, rfl, hl', hm', by simpa using hz', hcell, hwz⟩)
        exact ⟨⟨some y, l, c, bs⟩, by rw [h1, hcs]; rfl, hsl⟩
    obtain ⟨R, hR⟩ := choose_lt (α := Row) (p := fun i r => w.cell? (a'.add i) = some r.val ∧ Sl w (fun b => b < w.heap.size) r.A r.n r.c r.bytes) (n := len) hb
    refine ⟨((List.range len).map R).map Row.bytes, (List.range len).map R, rfl, by simp, hl, hm, (fun h => by cases h), rd_of w a' _ fun j u hu => ?_, fun r hr => ?_⟩
    · rw [List.map_map, List.getElem?_map] at hu
      rcases Nat.lt_or_ge j len with hj | hj
      · rw [List.getElem?_range hj] at hu
        simp at hu
        rw [← hu]
        exact (hR j hj).1
      · rw [List.getElem?_eq_none (by simpa using hj)] at hu; cases hu
    · obtain ⟨i, hi, rfl⟩ := List.mem_map.1 hr
      exact (hR i (List.mem_range.1 hi)).2
end
end Go.Proofs.Ytbdencfgiemliaa
