/-
  How a disk of the program lies in memory (Dsk), and contracts of its small calls: New, Size, Down, Pending, Arm, ask. No condition beyond that the disk lies so.
-/
import Derived.Test.YtbdencfgiemliaaSum5
import Derived.Test.YtbdencfgiemliaaDisk0
namespace Go.Proofs.Ytbdencfgiemliaa
open Go.RowKit
theorem ownsRow_keep {S : Nat → Prop} {w w' : World} {base : Nat} {e : TypeId} {size : Nat} {v : Value} {n : Nat} {xs : List Value} (h : w.ownsRow base e size v n xs) (hk : Keep S w w') (hn : ∀ g, v.ownBlock = some g → ¬ S g) : w'.ownsRow base e size v n xs := by
  refine ⟨h.1, ?_⟩
  rcases h.2 with h2 | ⟨g, cap, cur, hv, hb, hg, r⟩
  · exact .inl h2
  · exact .inr ⟨g, cap, cur, hv, hb, Blk.keep (t := e) hg hk (hn g (by rw [hv]; rfl)), r⟩
/-- What was written at once. -/
structure Ent where
  at' : Nat
  A : Option Addr
  n : Nat
  c : Nat
  bytes : List UInt8
def Ent.cells (e : Ent) : List Value := [.int .i64 (e.at' : Int), .slice e.A e.n e.c]
def Ent.waits (e : Ent) : List (Nat × UInt8) := at_ e.at' e.bytes

/-- A block that is none of the disk's own three. -/
def Off (D K : Nat) (P : Option Addr) (b : Nat) : Prop := b ≠ D ∧ b ≠ K ∧ ∀ a, P = some a → b ≠ a.block
structure DskRep (w : World) (D : Nat) (s : DSt) (m : Nat) (F : Nat → Prop) (K : Nat) (P : Option Addr) (pn pc : Nat) (ents : List Ent) : Prop where
  blk : Blk w D 78 #[.slice (some ⟨K, 0, none⟩) s.kept.length s.kept.length, .slice P pn pc, .int .i64 (s.waits.length : Int), .bool s.down, .int .i64 (s.armed : Int)]
  kept : Own w 0 5 (some ⟨K, 0, none⟩) s.kept.length s.kept.length (s.kept.map bv)
  pend : w.ownsRow 0 81 2 (.slice P pn pc) pn (ents.flatMap Ent.cells)
  each : ∀ e ∈ ents, Sl w (fun b => F b ∧ Off D K P b) e.A e.n e.c e.bytes
  waits : s.waits = ents.flatMap Ent.waits
  ok : s.Ok
  bd : ∀ e ∈ ents, e.at' ≤ 65536 ∧ e.bytes.length ≤ 65536
  cnt : pn ≤ m
  few : s.waits.length ≤ 65536 * m
  fD : F D
  fK : F K
  fP : ∀ k, (Value.slice P pn pc).ownBlock = some k → F k
/-- The block D holds a disk in the state s, with m writes pending at most; all of it lies in F. -/
def Dsk (w : World) (D : Nat) (s : DSt) (m : Nat) (F : Nat → Prop) : Prop := ∃ K P pn pc ents, DskRep w D s m F K P pn pc ents
section
variable {S F G : Nat → Prop} {w w' : World} {D m K pn pc : Nat} {s : DSt} {P : Option Addr} {ents : List Ent}
theorem DskRep.keep (h : DskRep w D s m F K P pn pc ents) (hk : Keep S w w') (hd : ∀ b, F b → ¬ S b) : DskRep w' D s m F K P pn pc ents :=
  { h with
    blk := h.blk.keep hk (hd D h.fD)
    kept := ownsRow_keep h.kept hk (fun g hg => hd g (by simp [Value.ownBlock] at hg; subst hg; exact h.fK))
    pend := ownsRow_keep h.pend hk (fun g hg => hd g (h.fP g hg))
    each := fun e he => (h.each e he).keep hk (fun b hb => hd b hb.1) }
theorem Dsk.keep (h : Dsk w D s m F) (hk : Keep S w w') (hd : ∀ b, F b → ¬ S b) : Dsk w' D s m F := by
  obtain ⟨K, P, pn, pc, ents, h⟩ := h
  exact ⟨K, P, pn, pc, ents, h.keep hk hd⟩
theorem Dsk.keep0 (h : Dsk w D s m F) (hk : Keep0 w w') : Dsk w' D s m F := h.keep hk fun _ _ hb => hb
theorem DskRep.ltK (h : DskRep w D s m F K P pn pc ents) : K < w.heap.size := (Own.row h.kept K rfl).2
theorem DskRep.mono (h : DskRep w D s m F K P pn pc ents) (hF : ∀ b, b < w.heap.size → F b → G b) : DskRep w D s m G K P pn pc ents :=
  { h with
    each := fun e he => (h.each e he).mono (fun b hb hf => ⟨hF b hb hf.1, hf.2⟩)
    fD := hF D h.blk.lt h.fD
    fK := hF K h.ltK h.fK
    fP := fun k hk => hF k (h.pend.lt k hk).2 (h.fP k hk) }
theorem Dsk.mono (h : Dsk w D s m F) (hF : ∀ b, b < w.heap.size → F b → G b) : Dsk w D s m G := by
  obtain ⟨K, P, pn, pc, ents, h⟩ := h
  exact ⟨K, P, pn, pc, ents, h.mono hF⟩
theorem Dsk.ok (h : Dsk w D s m F) : s.Ok := by obtain ⟨K, P, pn, pc, ents, h⟩ := h; exact h.ok
theorem Dsk.fD (h : Dsk w D s m F) : F D := by obtain ⟨K, P, pn, pc, ents, h⟩ := h; exact h.fD
theorem Dsk.ltD (h : Dsk w D s m F) : D < w.heap.size := by obtain ⟨K, P, pn, pc, ents, h⟩ := h; exact h.blk.lt
theorem Dsk.few (h : Dsk w D s m F) : s.waits.length ≤ 65536 * m := by obtain ⟨K, P, pn, pc, ents, h⟩ := h; exact h.few
theorem DskRep.more {m' : Nat} (h : DskRep w D s m F K P pn pc ents) (hm : m ≤ m') : DskRep w D s m' F K P pn pc ents :=
  { h with cnt := Nat.le_trans h.cnt hm, few := Nat.le_trans h.few (Nat.mul_le_mul_left _ hm) }
theorem Dsk.more {m' : Nat} (h : Dsk w D s m F) (hm : m ≤ m') : Dsk w D s m' F := by
  obtain ⟨K, P, pn, pc, ents, h⟩ := h
  exact ⟨K, P, pn, pc, ents, h.more hm⟩
/-- The disk's five cells. -/
theorem DskRep.cells (h : DskRep w D s m F K P pn pc ents) :
    w.cell? ⟨D, 0, none⟩ = some (.slice (some ⟨K, 0, none⟩) s.kept.length s.kept.length) ∧ w.cell? ⟨D, 1, none⟩ = some (.slice P pn pc) ∧ w.cell? ⟨D, 2, none⟩ = some (.int .i64 (s.waits.length : Int)) ∧ w.cell? ⟨D, 3, none⟩ = some (.bool s.down) ∧ w.cell? ⟨D, 4, none⟩ = some (.int .i64 (s.armed : Int)) ∧ ∀ i, w.frozen? ⟨D, i, none⟩ = false :=
  ⟨h.blk.cell 0, h.blk.cell 1, h.blk.cell 2, h.blk.cell 3, h.blk.cell 4, h.blk.frozen⟩
end
/-- What the new blocks of a call add to a footprint. -/
def Ext (F : Nat → Prop) (w w' : World) : Nat → Prop := fun b => F b ∨ (w.heap.size ≤ b ∧ b < w'.heap.size)

theorem make_zeros {w : World} (m : Int) (k : Nat) (h : m = (k : Int)) (hk : k ≤ 65536) : ∃ w', (Instr.makeSlice 22 (.int .i64 m) (.int .i64 m)).run Try.prog w = .ok (.slice (some ⟨w.heap.size, 0, none⟩) k k) w' ∧
    Own w' w.heap.size 5 (some ⟨w.heap.size, 0, none⟩) k k ((List.replicate k (0 : UInt8)).map bv) ∧ Keep0 w w' ∧ w'.heap.size = w.heap.size + 1 := by
  subst h
  obtain ⟨i0, hi0, hz0, hz1, hz2⟩ := info_parts info5
  have hr := run_make (P := Try.prog) w 22 5 i0 (.int .u8 0) Try.underlying22 hi0 hz0 .i64 .i64 k k (by omega) (by omega) (by rw [hz2]; omega) (by omega)
  simp only [Int.toNat_natCast] at hr
  refine ⟨_, hr, ?_, Keep.alloc w _, by simp⟩
  have h1 := World.ownsRow_lit (base := w.heap.size) (e := 5) (size := 1) w (madeCells #[Value.int .u8 0] (k * 1)) k (Nat.le_refl _) (by simp only [maxLen]; omega) (size_madeCells _ _)
  rw [List.map_replicate, show bv 0 = .int .u8 0 from rfl, ← toList_madeCells_one]
  rw [hz1]
  have e : k * 1 = k := Nat.mul_one k
  unfold Own
  simp only [e] at h1 ⊢
  exact h1
/-- A new disk of k bytes. -/
def DSt.new (k : Nat) : DSt := { kept := List.replicate k 0, waits := [], down := false, armed := 0 }
def newSize (n : Int) : Nat := (max 0 (min n 65536)).toNat
theorem dsk_new {w w1 : World} {k : Nat} (hk : k ≤ 65536) (hown : Own w1 w.heap.size 5 (some ⟨w.heap.size, 0, none⟩) k k ((List.replicate k (0 : UInt8)).map bv)) (hs : w1.heap.size = w.heap.size + 1) :
    Dsk (w1.alloc (.cells #[.slice (some ⟨w.heap.size, 0, none⟩) k k, .slice none 0 0, .int .i64 0, .bool false, .int .i64 0] 78)) w1.heap.size (DSt.new k) 0 (fun b => w.heap.size ≤ b) := by
  have hl : (List.replicate k (0 : UInt8)).length = k := List.length_replicate
  refine ⟨w.heap.size, none, 0, 0, [], ?_, ?_, World.ownsRow_nil _ _ _ _, by simp, rfl, ⟨?_, by simp [DSt.new], by simp [DSt.new]⟩, by simp, Nat.le_refl _, by simp [DSt.new], by omega, Nat.le_refl _, by simp [Value.ownBlock]⟩
  · have := Blk.new w1 78 #[.slice (some ⟨w.heap.size, 0, none⟩) k k, .slice none 0 0, .int .i64 0, .bool false, .int .i64 0]
    unfold DSt.new
    rw [hl]
    exact this
  · unfold DSt.new
    rw [hl]
    exact ((hown.mono (Nat.zero_le _)).keep0 (Keep.alloc w1 _))
  · unfold DSt.new
    rw [hl]; exact hk
set_option maxRecDepth 20000 in
set_option maxHeartbeats 400000 in
theorem new_any (n : Int) (w : World) :
    Calls Try.prog 24 #[.int .i64 n] w fun e w' => ∃ D, e = .returned (.pointer (some ⟨D, 0, none⟩)) ∧ Dsk w' D (DSt.new (newSize n)) 0 (fun b => w.heap.size ≤ b) ∧ Keep0 w w' := by
  by_cases h0 : n ≤ 0
  · obtain ⟨w1, hmk, hown, hk1, hs1⟩ := make_zeros (w := w) 0 0 rfl (by omega)
    have e0 : newSize n = 0 := by unfold newSize; omega
    rw [e0]
    have hd := dsk_new (by omega) hown hs1
    have HS := Lib.hid hs1
    clear hs1
    go_enter Try.func24, Try.ntmps24
    go_wp2
    go_ret
    refine ⟨_, rfl, hd, hk1.alloc' _⟩
  · by_cases h1 : 65536 < n
    · obtain ⟨w1, hmk, hown, hk1, hs1⟩ := make_zeros (w := w) 65536 65536 rfl (Nat.le_refl _)
      have e0 : newSize n = 65536 := by unfold newSize; omega
      rw [e0]
      have hd := dsk_new (Nat.le_refl _) hown hs1
      have HS := Lib.hid hs1
      clear hs1
      go_enter Try.func24, Try.ntmps24
      go_wp2
      go_ret
      refine ⟨_, rfl, hd, hk1.alloc' _⟩
    · obtain ⟨k, rfl⟩ := Int.eq_ofNat_of_zero_le (show 0 ≤ n by omega)
      obtain ⟨w1, hmk, hown, hk1, hs1⟩ := make_zeros (w := w) (k : Int) k rfl (by omega)
      have e0 : newSize (k : Int) = k := by unfold newSize; omega
      rw [e0]
      have hd := dsk_new (by omega) hown hs1
      have HS := Lib.hid hs1
      clear hs1
      have hk65 : k ≤ 65536 := by omega
      go_enter Try.func24, Try.ntmps24
      go_wp2
      go_ret
      refine ⟨_, rfl, hd, hk1.alloc' _⟩
section
variable {F : Nat → Prop} {w : World} {D m : Nat} {s : DSt}
set_option maxRecDepth 20000
set_option maxHeartbeats 400000
theorem down_any (hd : Dsk w D s m F) : Calls Try.prog 28 #[.pointer (some ⟨D, 0, none⟩)] w fun e w' => e = .returned (.bool s.down) ∧ w = w' := by
  obtain ⟨K, P, pn, pc, ents, h⟩ := hd
  obtain ⟨c0, c1, c2, c3, c4, hf⟩ := h.cells
  clear h
  go_enter Try.func28, Try.ntmps28
  go_wp2
  go_ret
  exact ⟨rfl, rfl⟩
theorem pending_any (hd : Dsk w D s m F) : Calls Try.prog 37 #[.pointer (some ⟨D, 0, none⟩)] w fun e w' => e = .returned (.int .i64 (s.waits.length : Int)) ∧ w = w' := by
  obtain ⟨K, P, pn, pc, ents, h⟩ := hd
  obtain ⟨c0, c1, c2, c3, c4, hf⟩ := h.cells
  clear h
  go_enter Try.func37, Try.ntmps37
  go_wp2
  go_ret
  exact ⟨rfl, rfl⟩
theorem size_any (hd : Dsk w D s m F) : Calls Try.prog 38 #[.pointer (some ⟨D, 0, none⟩)] w fun e w' => e = .returned (.int .i64 (s.kept.length : Int)) ∧ w = w' := by
  obtain ⟨K, P, pn, pc, ents, h⟩ := hd
  obtain ⟨c0, c1, c2, c3, c4, hf⟩ := h.cells
  clear h
  go_enter Try.func38, Try.ntmps38
  go_wp2
  go_ret
  exact ⟨rfl, rfl⟩
theorem ask_any (a n : Int) (ha : -9223372036854775808 ≤ a ∧ a ≤ 9223372036854775807) (hd : Dsk w D s m F) : Calls Try.prog 55 #[.pointer (some ⟨D, 0, none⟩), .int .i64 a, .int .i64 n] w fun e w' => e = .returned (.int .i64 (s.ask a n)) ∧ w = w' := by
  have hs := hd.ok.size
  obtain ⟨K, P, pn, pc, ents, h⟩ := hd
  obtain ⟨c0, c1, c2, c3, c4, hf⟩ := h.cells
  clear h
  obtain ⟨kept, waits, down, armed⟩ := s
  simp only at c0 c1 c2 c3 c4 hs
  unfold DSt.ask
  simp only
  cases down with
  | true =>
    go_enter Try.func55, Try.ntmps55
    go_wp2
    go_ret
    exact ⟨rfl, rfl⟩
  | false =>
    generalize kept.length = L at *
    by_cases h1 : a < 0
    · rw [if_neg (by simp), if_pos (.inl h1)]
      go_enter Try.func55, Try.ntmps55
      go_wp2
      go_ret
      exact ⟨rfl, rfl⟩
    · by_cases h2 : n < 0
      · rw [if_neg (by simp), if_pos (.inr h2)]
        go_enter Try.func55, Try.ntmps55
        go_wp2
        go_ret
        exact ⟨rfl, rfl⟩
      · rw [if_neg (by simp), if_neg (by omega)]
        by_cases h3 : (L : Int) < a
        · rw [if_pos (.inl h3)]
          go_enter Try.func55, Try.ntmps55
          go_wp2
          go_ret
          exact ⟨rfl, rfl⟩
        · by_cases h4 : (L : Int) - a < n
          · rw [if_pos (.inr h4)]
            go_enter Try.func55, Try.ntmps55
            go_wp2
            go_ret
            exact ⟨rfl, rfl⟩
          · rw [if_neg (by omega)]
            go_enter Try.func55, Try.ntmps55
            go_wp2
            go_ret
            exact ⟨rfl, rfl⟩
end
end Go.Proofs.Ytbdencfgiemliaa
