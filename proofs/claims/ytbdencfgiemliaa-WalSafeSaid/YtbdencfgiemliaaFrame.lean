/-
  What a proof's frame hands to the walk: arguments as Int with their bounds, slices of integers as rows; turned here into the words of the walks.
-/
import Derived.Test.YtbdencfgiemliaaWords
import Derived.OpenShut
namespace Go.Proofs.Ytbdencfgiemliaa
open Go.RowKit
/-- What the walk is told of a slice of integers that came in. -/
def IsRow (k : IntKind) (w : World) (a : Option Addr) (len cap : Nat) (zs : List Int) : Prop :=
  (a = none ∧ len = 0 ∧ cap = 0 ∧ zs = []) ∨
  ∃ x, a = some x ∧ len ≤ cap ∧ cap ≤ maxLen ∧ zs.length = cap ∧ (∀ i, i < zs.length → w.cell? (x.add i) = some (.int k (zs.getD i 0))) ∧ ∀ n ∈ zs, (Lit.int k n).wf = true
theorem of_wf16 {a : Int} (h : (Lit.int .u16 a).wf = true) : ∃ c : BitVec 16, a = ((c.toNat : Nat) : Int) := by
  have hb : 0 ≤ a ∧ a < 65536 := by
    simp [Lit.wf, IntKind.min, IntKind.max, IntKind.signed, IntKind.bits] at h
    omega
  exact ⟨BitVec.ofNat 16 a.toNat, by rw [BitVec.toNat_ofNat, Nat.mod_eq_of_lt (by omega)]; omega⟩
theorem of_wf8 {a : Int} (h : (Lit.int .u8 a).wf = true) : ∃ c : UInt8, a = ((c.toNat : Nat) : Int) := by
  have hb : 0 ≤ a ∧ a < 256 := by
    simp [Lit.wf, IntKind.min, IntKind.max, IntKind.signed, IntKind.bits] at h
    omega
  exact ⟨UInt8.ofNat a.toNat, by rw [UInt8.toNat_ofNat', Nat.mod_eq_of_lt (by omega)]; omega⟩
theorem of_wf64 {a : Int} (h : (Lit.int .i64 a).wf = true) : -9223372036854775808 ≤ a ∧ a ≤ 9223372036854775807 := by
  simp [Lit.wf, IntKind.min, IntKind.max, IntKind.signed, IntKind.bits] at h
  omega
theorem addr_plain {w : World} {x : Addr} {u : Value} (h : w.cell? x = some u) : x = ⟨x.block, x.off, none⟩ := by
  have := World.cell?_spot h
  obtain ⟨b, o, s⟩ := x
  simp at this
  subst this
  rfl
theorem row_rd {k : IntKind} {w : World} {a : Option Addr} {len cap : Nat} {zs : List Int} (h : IsRow k w a len cap zs) : Rd w (fun b => b < w.heap.size) a ((zs.take len).map (Value.int k)) := by
  rcases h with ⟨rfl, rfl, rfl, rfl⟩ | ⟨x, rfl, hl, hm, hz, hc, hw⟩
  · exact .inl rfl
  · by_cases h0 : len = 0
    · subst h0; exact .inl (by simp)
    · have h1 := hc 0 (by omega)
      have e0 : x.add 0 = x := by simp [Addr.add]
      rw [e0] at h1
      have hx := addr_plain h1
      obtain ⟨b, o, s⟩ := x
      simp at hx
      subst hx
      refine .inr ⟨b, o, rfl, World.block_lt_of_cell? w _ h1, fun j u hu => ?_⟩
      have hj : j < (zs.take len).length := by
        rcases Nat.lt_or_ge j (zs.take len).length with h2 | h2
        · exact h2
        · rw [List.getElem?_eq_none (by simpa using h2)] at hu; cases hu
      rw [List.length_take] at hj
      have h3 := hc j (by omega)
      rw [show (⟨b, o, none⟩ : Addr).add j = ⟨b, o + j, none⟩ by unfold Addr.add; split <;> simp_all] at h3
      rw [h3, ← hu]
      rw [List.getElem?_map, List.getElem?_take, if_pos (by omega), List.getElem?_eq_getElem (by omega)]
      simp [List.getD, List.getElem?_eq_getElem (show j < zs.length by omega)]
theorem row_sl {w : World} {a : Option Addr} {len cap : Nat} {zs : List Int} (h : IsRow .u8 w a len cap zs) : ∃ l, Sl w (fun b => b < w.heap.size) a len cap l := by
  have hr := row_rd h
  have hb : ∀ z ∈ zs.take len, 0 ≤ z ∧ z < 256 := by
    rcases h with ⟨rfl, rfl, rfl, rfl⟩ | ⟨x, rfl, hl, hm, hz, hc, hw⟩
    · intro z hz; simp at hz
    · intro z hz
      have := hw z (List.mem_of_mem_take hz)
      obtain ⟨c, hc⟩ := of_wf8 this
      have := byte_lt c
      omega
  refine ⟨(zs.take len).map fun z => UInt8.ofNat z.toNat, ?_, ?_, ?_, ?_, ?_⟩
  · rcases h with ⟨rfl, rfl, rfl, rfl⟩ | ⟨x, rfl, hl, hm, hz, hc, hw⟩
    · rfl
    · rw [List.length_map, List.length_take]; omega
  · rcases h with ⟨rfl, rfl, rfl, rfl⟩ | ⟨x, rfl, hl, hm, hz, hc, hw⟩ <;> omega
  · rcases h with ⟨rfl, rfl, rfl, rfl⟩ | ⟨x, rfl, hl, hm, hz, hc, hw⟩
    · exact Nat.zero_le _
    · exact hm
  · intro ha
    rcases h with ⟨rfl, rfl, rfl, rfl⟩ | ⟨x, rfl, hl, hm, hz, hc, hw⟩
    · exact ⟨rfl, rfl⟩
    · cases ha
  · have e : ((zs.take len).map fun z => UInt8.ofNat z.toNat).map bv = (zs.take len).map (Value.int .u8) := by
      rw [List.map_map]
      apply List.map_congr_left
      intro z hz
      have := hb z hz
      simp only [Function.comp, bv]
      rw [UInt8.toNat_ofNat', Nat.mod_eq_of_lt (by omega), Int.toNat_of_nonneg this.1]
    rw [e]
    exact hr
end Go.Proofs.Ytbdencfgiemliaa
