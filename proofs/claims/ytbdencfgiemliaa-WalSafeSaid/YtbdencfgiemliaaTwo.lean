/-
  Two things in memory that lie apart, and calls that touch one of them.
-/
import Derived.Test.YtbdencfgiemliaaDisk8
namespace Go.Proofs.Ytbdencfgiemliaa
open Go.RowKit
set_option linter.unusedVariables false
/-- Something that lies in some blocks, and is as it was if these have not turned. -/
structure Thing where
  is : World → (Nat → Prop) → Prop
  keep : ∀ {S F : Nat → Prop} {w w' : World}, is w F → Keep S w w' → (∀ b, F b → ¬ S b) → is w' F
  mono : ∀ {F G : Nat → Prop} {w : World}, is w F → (∀ b, b < w.heap.size → F b → G b) → is w G
def dskT (D : Nat) (s : DSt) (m : Nat) : Thing := ⟨fun w F => Dsk w D s m F, fun h hk hd => h.keep hk hd, fun h hF => h.mono hF⟩
/-- Two things behind w0, apart from one another and from the blocks in X; from w0 on nothing has turned that was there. -/
structure Two (w0 w : World) (T U : Thing) (X : Nat → Prop) : Prop where
  both : ∃ F G, T.is w F ∧ U.is w G ∧ (∀ b, F b → w0.heap.size ≤ b ∧ ¬ X b ∧ ¬ G b) ∧ (∀ b, G b → w0.heap.size ≤ b ∧ ¬ X b ∧ b < w.heap.size)
  keep : Keep0 w0 w
  lt : ∀ b, X b → b < w.heap.size
section
variable {w0 w : World} {T U : Thing} {X : Nat → Prop}
theorem Two.swap (h : Two w0 w T U X) : Two w0 w U T X := ⟨by
  obtain ⟨F, G, hF, hG, h1, h2⟩ := h.both
  exact ⟨G, fun b => F b ∧ b < w.heap.size, hG, T.mono hF (fun b hb hf => ⟨hf, hb⟩), fun b hb => ⟨(h2 b hb).1, (h2 b hb).2.1, fun hx => (h1 b hx.1).2.2 hb⟩, fun b hb => ⟨(h1 b hb.1).1, (h1 b hb.1).2.1, hb.2⟩⟩, h.keep, h.lt⟩
theorem Two.keep0 {w' : World} (h : Two w0 w T U X) (hk : Keep0 w w') : Two w0 w' T U X := ⟨by
  obtain ⟨F, G, hF, hG, h1, h2⟩ := h.both
  exact ⟨F, G, T.keep hF hk (fun _ _ hb => hb), U.keep hG hk (fun _ _ hb => hb), h1, fun b hb => ⟨(h2 b hb).1, (h2 b hb).2.1, Nat.lt_of_lt_of_le (h2 b hb).2.2 hk.size⟩⟩, h.keep.and0 hk, fun b hb => Nat.lt_of_lt_of_le (h.lt b hb) hk.size⟩
theorem Two.add {w' : World} (h : Two w0 w T U X) (hk : Keep0 w w') : Two w0 w' T U (New X w w') := ⟨by
  obtain ⟨F, G, hF, hG, h1, h2⟩ := h.both
  refine ⟨fun b => F b ∧ b < w.heap.size, G, T.keep (T.mono hF fun b hb hf => ⟨hf, hb⟩) hk (fun _ _ hb => hb), U.keep hG hk (fun _ _ hb => hb), fun b hb => ⟨(h1 b hb.1).1, fun hx => ?_, (h1 b hb.1).2.2⟩, fun b hb => ⟨(h2 b hb).1, fun hx => ?_, Nat.lt_of_lt_of_le (h2 b hb).2.2 hk.size⟩⟩
  · rcases hx with hx | hx
    · exact (h1 b hb.1).2.1 hx
    · omega
  · have := (h2 b hb).2.2
    rcases hx with hx | hx
    · exact (h2 b hb).2.1 hx
    · omega, h.keep.and0 hk, fun b hb => by
  rcases hb with hb | hb
  · exact Nat.lt_of_lt_of_le (h.lt b hb) hk.size
  · exact hb.2⟩
/-- A call that touches the first alone. -/
theorem Two.step {w' : World} {T' : Thing} (h : Two w0 w T U X) (hd : ∀ F, T.is w F → T'.is w' (Ext F w w') ∧ Keep F w w') : Two w0 w' T' U X ∧ KeepX X w w' := by
  obtain ⟨F, G, hF, hG, h1, h2⟩ := h.both
  obtain ⟨h3, h4⟩ := hd F hF
  have hs := h.keep.size
  refine ⟨⟨⟨_, G, h3, U.keep hG h4 (fun b hb hf => (h1 b hf).2.2 hb), fun b hb => ?_, fun b hb => ⟨(h2 b hb).1, (h2 b hb).2.1, Nat.lt_of_lt_of_le (h2 b hb).2.2 h4.size⟩⟩, h.keep.trans h4 fun b hb hx => by have := (h1 b hx).1; omega, fun b hb => Nat.lt_of_lt_of_le (h.lt b hb) h4.size⟩, h4.mono fun b _ hx => (h1 b hx).2.1⟩
  rcases hb with hb | hb
  · exact h1 b hb
  · exact ⟨by omega, fun hx => by have := h.lt b hx; omega, fun hx => by have := (h2 b hx).2.2; omega⟩
theorem Two.calls {f : FuncId} {args : Array Value} {v : Value} {T' : Thing} (h : Two w0 w T U X) (hc : ∀ F, T.is w F → Calls Try.prog f args w fun e w' => e = .returned v ∧ T'.is w' (Ext F w w') ∧ Keep F w w') :
    Calls Try.prog f args w fun e w' => e = .returned v ∧ Two w0 w' T' U X ∧ KeepX X w w' := by
  obtain ⟨F, G, hF, hG, h1, h2⟩ := h.both
  refine (hc F hF).mono fun e w' ⟨he, h3, h4⟩ => ⟨he, ?_⟩
  have hs := h.keep.size
  refine ⟨⟨⟨_, G, h3, U.keep hG h4 (fun b hb hf => (h1 b hf).2.2 hb), fun b hb => ?_, fun b hb => ⟨(h2 b hb).1, (h2 b hb).2.1, Nat.lt_of_lt_of_le (h2 b hb).2.2 h4.size⟩⟩, h.keep.trans h4 fun b hb hx => by have := (h1 b hx).1; omega, fun b hb => Nat.lt_of_lt_of_le (h.lt b hb) h4.size⟩, h4.mono fun b _ hx => (h1 b hx).2.1⟩
  rcases hb with hb | hb
  · exact h1 b hb
  · exact ⟨by omega, fun hx => by have := h.lt b hx; omega, fun hx => by have := (h2 b hx).2.2; omega⟩
theorem Two.look {f : FuncId} {args : Array Value} {v : Value} (h : Two w0 w T U X) (hc : ∀ F, T.is w F → Calls Try.prog f args w fun e w' => e = .returned v ∧ w = w') : Calls Try.prog f args w fun e w' => e = .returned v ∧ w = w' := by
  obtain ⟨F, G, hF, hG, h1, h2⟩ := h.both
  exact hc F hF
/-- A second thing that is made beside one. -/
theorem Two.mk_ {w' : World} {D m : Nat} {s : DSt} (h : One w0 w D s m X) {F : Nat → Prop} (hT : T.is w' F) (hF : ∀ b, F b → w.heap.size ≤ b) (hk : Keep0 w w') : Two w0 w' T (dskT D s m) X := ⟨by
  obtain ⟨G, hG, h1⟩ := h.dsk
  have hs := h.keep.size
  refine ⟨F, fun b => G b ∧ b < w.heap.size, hT, (hG.mono fun b hb hf => ⟨hf, hb⟩).keep0 hk, fun b hb => ?_, fun b hb => ⟨(h1 b hb.1).1, (h1 b hb.1).2, Nat.lt_of_lt_of_le hb.2 hk.size⟩⟩
  have hb' := hF b hb
  exact ⟨by omega, fun hx => by have := h.lt b hx; omega, fun hx => by have := hx.2; omega⟩, h.keep.and0 hk, fun b hb => Nat.lt_of_lt_of_le (h.lt b hb) hk.size⟩
end
section
variable {w0 w : World} {D m : Nat} {s : DSt} {U : Thing} {X : Nat → Prop}
theorem two_write (a : Int) (l : List UInt8) (G : Nat → Prop) (A : Option Addr) (n c : Nat) (ha : -9223372036854775808 ≤ a ∧ a ≤ 9223372036854775807) (hsl : Sl w G A n c l) (hm : m ≤ 1073741824) (h : Two w0 w (dskT D s m) U X) : Calls Try.prog 27 #[.pointer (some ⟨D, 0, none⟩), .int .i64 a, .slice A n c] w fun e w' =>
    e = .returned (.int .i64 (s.writeE a l)) ∧ Two w0 w' (dskT D (s.write a l) (m + 1)) U X ∧ KeepX X w w' :=
  Two.calls (T := dskT D s m) (T' := dskT D (s.write a l) (m + 1)) h fun F hd => write_any a l A n c ha hsl hm hd
theorem two_sync (hm : m ≤ 1073741824) (h : Two w0 w (dskT D s m) U X) : Calls Try.prog 26 #[.pointer (some ⟨D, 0, none⟩)] w fun e w' => e = .returned (.int .i64 s.syncE) ∧ Two w0 w' (dskT D s.sync m) U X ∧ KeepX X w w' :=
  Two.calls (T := dskT D s m) (T' := dskT D s.sync m) h fun F hd => (sync_any hm hd).mono fun e w' ⟨he, h1, h2⟩ => ⟨he, h1.mono fun b _ hb => .inl hb, h2⟩
theorem two_restart (keep : Int) (hm : m ≤ 1073741824) (h : Two w0 w (dskT D s m) U X) : Calls Try.prog 29 #[.pointer (some ⟨D, 0, none⟩), .int .i64 keep] w fun e w' => e = .returned (.int .i64 (s.cut keep : Int)) ∧ Two w0 w' (dskT D (s.restart keep) m) U X ∧ KeepX X w w' :=
  Two.calls (T := dskT D s m) (T' := dskT D (s.restart keep) m) h fun F hd => (restart_any keep hm hd).mono fun e w' ⟨he, h1, h2⟩ => ⟨he, h1.mono fun b _ hb => .inl hb, h2⟩
theorem two_arm (n : Int) (hn : n ≤ 9223372036854775807) (h : Two w0 w (dskT D s m) U X) : Calls Try.prog 25 #[.pointer (some ⟨D, 0, none⟩), .int .i64 n] w fun e w' => e = .returned (.tuple #[]) ∧ Two w0 w' (dskT D (s.arm n) m) U X ∧ KeepX X w w' :=
  Two.calls (T := dskT D s m) (T' := dskT D (s.arm n) m) h fun F hd => (arm_any n hn hd).mono fun e w' ⟨he, h1, h2⟩ => ⟨he, h1.mono fun b _ hb => .inl hb, h2.mono fun b _ e => by rw [e]; exact Dsk.fD hd⟩
theorem two_read (a n : Int) (ha : -9223372036854775808 ≤ a ∧ a ≤ 9223372036854775807) (hm : m ≤ 1073741824) (h : Two w0 w (dskT D s m) U X) : Calls Try.prog 35 #[.pointer (some ⟨D, 0, none⟩), .int .i64 a, .int .i64 n] w fun e w' =>
    ∃ A k c, e = .returned (.tuple #[.slice A k c, .int .i64 (s.ask a n)]) ∧ Sl w' (New X w w') A k c (s.readL a n) ∧ Two w0 w' (dskT D s m) U (New X w w') ∧ Keep0 w w' ∧ Own w' w.heap.size 5 A k c ((s.readL a n).map bv) := by
  obtain ⟨F, G, hd, _⟩ := h.both
  exact (read_any a n ha hm hd).mono fun e w' ⟨A, k, c, he, ho, hk⟩ => ⟨A, k, c, he, ho.sl.mono fun b hb hx => .inr ⟨hx, hb⟩, h.add hk, hk, ho⟩
theorem two_down (h : Two w0 w (dskT D s m) U X) : Calls Try.prog 28 #[.pointer (some ⟨D, 0, none⟩)] w fun e w' => e = .returned (.bool s.down) ∧ w = w' := Two.look h fun F hd => down_any hd
theorem two_pending (h : Two w0 w (dskT D s m) U X) : Calls Try.prog 37 #[.pointer (some ⟨D, 0, none⟩)] w fun e w' => e = .returned (.int .i64 (s.waits.length : Int)) ∧ w = w' := Two.look h fun F hd => pending_any hd
theorem two_size (h : Two w0 w (dskT D s m) U X) : Calls Try.prog 38 #[.pointer (some ⟨D, 0, none⟩)] w fun e w' => e = .returned (.int .i64 (s.kept.length : Int)) ∧ w = w' := Two.look h fun F hd => size_any hd
end
end Go.Proofs.Ytbdencfgiemliaa
