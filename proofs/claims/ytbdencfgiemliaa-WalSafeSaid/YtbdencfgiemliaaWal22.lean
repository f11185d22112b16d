/-
  One disk and one log on it, beside which nothing is touched: the calls upon them.
-/
import Derived.Test.YtbdencfgiemliaaWal21
import Derived.Test.YtbdencfgiemliaaWal18
namespace Go.Proofs.Ytbdencfgiemliaa
open Go.RowKit
set_option linter.unusedVariables false
/-- One disk and a log on it: they lie behind w0, and have none of the blocks in X; from w0 on nothing has turned that was there. -/
structure OneL (w0 w : World) (D G : Nat) (s : DSt) (x : LSt) (m : Nat) (X : Nat → Prop) : Prop where
  dl : ∃ F, DL w D G s x m F ∧ ∀ b, F b → w0.heap.size ≤ b ∧ ¬ X b
  keep : Keep0 w0 w
  lt : ∀ b, X b → b < w.heap.size
section
variable {w0 w w' : World} {D G m m' : Nat} {s s' : DSt} {x x' : LSt} {X Y : Nat → Prop}
theorem OneL.keep0 (h : OneL w0 w D G s x m X) (hk : Keep0 w w') : OneL w0 w' D G s x m X := ⟨by
  obtain ⟨F, hd, hF⟩ := h.dl
  exact ⟨F, hd.keep0 hk, hF⟩, h.keep.and0 hk, fun b hb => Nat.lt_of_lt_of_le (h.lt b hb) hk.size⟩
theorem OneL.add (h : OneL w0 w D G s x m X) (hk : Keep0 w w') : OneL w0 w' D G s x m (New X w w') := ⟨by
  obtain ⟨F, hd, hF⟩ := h.dl
  exact ⟨fun b => F b ∧ b < w.heap.size, (hd.mono fun b hb hf => ⟨hf, hb⟩).keep0 hk, fun b hb => ⟨(hF b hb.1).1, fun hx => by
    rcases hx with hx | hx
    · exact (hF b hb.1).2 hx
    · have := hb.2; omega⟩⟩, h.keep.and0 hk, fun b hb => by
  rcases hb with hb | hb
  · exact Nat.lt_of_lt_of_le (h.lt b hb) hk.size
  · exact hb.2⟩
theorem OneL.less (h : OneL w0 w D G s x m X) (hY : ∀ b, Y b → X b) : OneL w0 w D G s x m Y := ⟨by
  obtain ⟨F, hd, hF⟩ := h.dl
  exact ⟨F, hd, fun b hb => ⟨(hF b hb).1, fun hy => (hF b hb).2 (hY b hy)⟩⟩, h.keep, fun b hb => h.lt b (hY b hb)⟩
theorem OneL.more (h : OneL w0 w D G s x m X) (hm : m ≤ m') : OneL w0 w D G s x m' X := ⟨by
  obtain ⟨F, hd, hF⟩ := h.dl
  exact ⟨F, hd.more hm, hF⟩, h.keep, h.lt⟩
theorem one_ext {w0 w w' : World} {X F : Nat → Prop} (hs : w0.heap.size ≤ w.heap.size) (hX : ∀ b, X b → b < w.heap.size) (hF : ∀ b, F b → w0.heap.size ≤ b ∧ ¬ X b) : ∀ b, Ext F w w' b → w0.heap.size ≤ b ∧ ¬ X b := by
  rintro b (hb | hb)
  · exact hF b hb
  · exact ⟨by omega, fun hx => by have := hX b hx; omega⟩
/-- Behind a call that wrote within the two, and made more of them. -/
theorem OneL.step (h : OneL w0 w D G s x m X) {f : FuncId} {args : Array Value} {v : Value} (hc : ∀ F, DL w D G s x m F → (∀ b, F b → ¬ X b) → Calls Try.prog f args w fun e w' => e = .returned v ∧ Keep F w w' ∧ DL w' D G s' x' m' (Ext F w w')) :
    Calls Try.prog f args w fun e w' => e = .returned v ∧ OneL w0 w' D G s' x' m' X ∧ KeepX X w w' := by
  obtain ⟨F, hF, hb⟩ := h.dl
  have hs := h.keep.size
  refine (hc F hF fun b hx => (hb b hx).2).mono fun e w' ⟨he, h2, h1⟩ => ⟨he, ⟨⟨_, h1, one_ext hs h.lt hb⟩, h.keep.trans h2 fun b hb' hx => by have := (hb b hx).1; omega, fun b hx => Nat.lt_of_lt_of_le (h.lt b hx) h2.size⟩, h2.mono fun b _ hx => (hb b hx).2⟩
/-- The disk alone; the log is left alone from here on. -/
theorem OneL.split (h : OneL w0 w D G s x m X) : ∃ Z, One w0 w D s m Z ∧ LRep w G D x Z ∧ (∀ b, X b → Z b) := by
  obtain ⟨F, ⟨FD, FL, h1, h2, h3, h4, h5⟩, hF⟩ := h.dl
  refine ⟨fun b => X b ∨ (FL b ∧ b < w.heap.size), ⟨⟨FD, h1, fun b hb => ⟨(hF b (h4 b hb)).1, ?_⟩⟩, h.keep, ?_⟩, h2.mono fun b hb hx => .inr ⟨hx, hb⟩, fun b hb => .inl hb⟩
  · rintro (hx | hx)
    · exact (hF b (h4 b hb)).2 hx
    · exact h3 b hb hx.1
  · rintro b (hx | hx)
    · exact h.lt b hx
    · exact hx.2
theorem OneL.ok (h : OneL w0 w D G s x m X) : s.Ok := by obtain ⟨F, hd, _⟩ := h.dl; exact hd.dsk.ok
theorem OneL.log (h : OneL w0 w D G s x m X) : ∃ F, LRep w G D x F := by obtain ⟨F, ⟨FD, FL, _, h2, _⟩, _⟩ := h.dl; exact ⟨FL, h2⟩
theorem OneL.dsk (h : OneL w0 w D G s x m X) : ∃ F, Dsk w D s m F := by obtain ⟨F, ⟨FD, FL, h2, _⟩, _⟩ := h.dl; exact ⟨FD, h2⟩
/-- Open: what it hands back. -/
theorem one_open (hm : m + 8 ≤ 1073741824) (h48 : 48 ≤ s.kept.length) (h : One w0 w D s m X) : Calls Try.prog 40 #[.pointer (some ⟨D, 0, none⟩)] w fun e w' =>
    ((s.openE ≠ 0 ∧ e = .returned (.tuple #[.pointer none, .int .i64 s.openE]) ∧ One w0 w' D s.openD (m + 8) X) ∨
      (s.openE = 0 ∧ ∃ G, e = .returned (.tuple #[.pointer (some ⟨G, 0, none⟩), .int .i64 0]) ∧ OneL w0 w' D G s.openD s.openL (m + 8) X)) ∧ KeepX X w w' := by
  obtain ⟨F, hF, hb⟩ := h.dsk
  have hs := h.keep.size
  refine (open_any hm h48 hF).mono fun e w' ⟨ho, hk⟩ => ⟨?_, hk.mono fun b _ hx => (hb b hx).2⟩
  have hk0 : Keep0 w0 w' := h.keep.trans hk fun b hb' hx => by have := (hb b hx).1; omega
  have hlt : ∀ b, X b → b < w'.heap.size := fun b hx => Nat.lt_of_lt_of_le (h.lt b hx) hk.size
  rcases ho with ⟨h1, h2, h3⟩ | ⟨h1, G, h2, h3⟩
  · exact .inl ⟨h1, h2, ⟨_, h3, one_ext hs h.lt hb⟩, hk0, hlt⟩
  · exact .inr ⟨h1, G, h2, ⟨_, h3, one_ext hs h.lt hb⟩, hk0, hlt⟩
theorem one_append (l : List UInt8) (A : Option Addr) (n c : Nat) (hsl : Sl w X A n c l) (hn : n ≤ 8192) (hm : m + 2 ≤ 1073741824) (h48 : 48 ≤ s.kept.length) (hrc : x.recs.length ≤ 65536) (hroom : x.stop + (n + 5) ≤ s.kept.length / 2) (hbr : x.broken = false) (h : OneL w0 w D G s x m X) :
    Calls Try.prog 41 #[.pointer (some ⟨G, 0, none⟩), .slice A n c] w fun e w' => e = .returned (.int .i64 (s.stepsE (appendOps (s.kept.length / 2) x.half x.stop l))) ∧
      OneL w0 w' D G (s.steps (appendOps (s.kept.length / 2) x.half x.stop l)) (pickL (s.stepsE (appendOps (s.kept.length / 2) x.half x.stop l)) { x with stop := x.stop + (n + 5), recs := x.recs ++ [l] } { x with broken := true }) (m + 2) X ∧ KeepX X w w' :=
  h.step fun F hd hX => append_any l A n c hsl hn hm h48 hrc hroom hbr hd fun b hb hf => hX b hf hb
theorem one_compact (l : List UInt8) (A : Option Addr) (n c : Nat) (hsl : Sl w X A n c l) (hn : n ≤ 8192) (hm : m + 8 ≤ 1073741824) (h48 : 48 ≤ s.kept.length) (ht : 0 ≤ x.turn ∧ x.turn ≤ 4294967296) (hroom : n + 10 ≤ s.kept.length / 2) (hbr : x.broken = false) (h : OneL w0 w D G s x m X) :
    Calls Try.prog 44 #[.pointer (some ⟨G, 0, none⟩), .slice A n c] w fun e w' => e = .returned (.int .i64 (s.stepsE (compactOps (s.kept.length / 2) (1 - x.half) (x.turn.toNat + 1) l))) ∧
      OneL w0 w' D G (s.steps (compactOps (s.kept.length / 2) (1 - x.half) (x.turn.toNat + 1) l)) (pickL (s.stepsE (compactOps (s.kept.length / 2) (1 - x.half) (x.turn.toNat + 1) l)) ⟨1 - x.half, ((x.turn.toNat + 1 : Nat) : Int), n + 10, l, [], x.broken⟩ { x with broken := true }) (m + 8) X ∧ KeepX X w w' :=
  h.step fun F hd hX => compactM_any l A n c hsl hn hm h48 ht hroom hbr hd fun b hb hf => hX b hf hb
theorem one_appendNo (A : Option Addr) (n c : Nat) (hn : n ≤ 1073741824) (hno : x.may n (((s.kept.length / 2 : Nat) : Int) - (x.stop : Int)) ≠ 0) (h : OneL w0 w D G s x m X) :
    Calls Try.prog 41 #[.pointer (some ⟨G, 0, none⟩), .slice A n c] w fun e w' => e = .returned (.int .i64 (x.may n (((s.kept.length / 2 : Nat) : Int) - (x.stop : Int)))) ∧ Keep0 w w' := by
  obtain ⟨F, hd⟩ := h.dsk
  obtain ⟨F', hl⟩ := h.log
  exact append_no A n c hn hno hd hl
theorem one_compactNo (A : Option Addr) (n c : Nat) (hn : n ≤ 1073741824) (h48 : 48 ≤ s.kept.length) (hno : x.may n (((s.kept.length / 2 : Nat) : Int) - 5) ≠ 0) (h : OneL w0 w D G s x m X) :
    Calls Try.prog 44 #[.pointer (some ⟨G, 0, none⟩), .slice A n c] w fun e w' => e = .returned (.int .i64 (x.may n (((s.kept.length / 2 : Nat) : Int) - 5))) ∧ Keep0 w w' := by
  obtain ⟨F, hd⟩ := h.dsk
  obtain ⟨F', hl⟩ := h.log
  exact compactM_no A n c hn h48 hno hd hl
variable {F : Nat → Prop}
theorem LRep.room (hd : Dsk w D s m X) (h : LRep w G D x F) : Calls Try.prog 42 #[.pointer (some ⟨G, 0, none⟩)] w fun e w' => e = .returned (.int .i64 (((s.kept.length / 2 : Nat) : Int) - (x.stop : Int))) ∧ Keep0 w w' := by
  obtain ⟨BA, bn, bc, RA, rn, rc, rows, hlog⟩ := h
  have := hlog.bd.2.2.2.2
  exact room_any ⟨by omega, by omega⟩ hd hlog.blk
theorem LRep.turn_ (h : LRep w G D x F) : Calls Try.prog 45 #[.pointer (some ⟨G, 0, none⟩)] w fun e w' => e = .returned (.int .i64 x.turn) ∧ w = w' := by
  obtain ⟨BA, bn, bc, RA, rn, rc, rows, hlog⟩ := h
  exact logTurn_any hlog.blk
theorem LRep.broken_ (h : LRep w G D x F) : Calls Try.prog 49 #[.pointer (some ⟨G, 0, none⟩)] w fun e w' => e = .returned (.bool x.broken) ∧ w = w' := by
  obtain ⟨BA, bn, bc, RA, rn, rc, rows, hlog⟩ := h
  exact broken_any hlog.blk
theorem LRep.base_ (h : LRep w G D x F) : Calls Try.prog 46 #[.pointer (some ⟨G, 0, none⟩)] w fun e w' => ∃ A n c, e = .returned (.slice A n c) ∧ Own w' w.heap.size 5 A n c (x.base.map bv) ∧ Keep0 w w' := by
  obtain ⟨BA, bn, bc, RA, rn, rc, rows, hlog⟩ := h
  have h1 := hlog.bd.1
  have h2 := hlog.base.len
  exact (base_any x.base _ BA bn bc hlog.base (by omega) hlog.blk).mono fun e w' ⟨A, c, he, ho, hk⟩ => ⟨A, bn, c, he, ho, hk⟩
end
end Go.Proofs.Ytbdencfgiemliaa
