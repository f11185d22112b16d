/-
  The calls of one disk beside which nothing else is made (all of it lies from block B on), and the law package's small (layer 17): it returns true and changes nothing that was there.
-/
import Derived.Test.YtbdencfgiemliaaDisk7
namespace Go.Proofs.Ytbdencfgiemliaa
open Go.RowKit
set_option linter.unusedVariables false
/-- A call that leaves the blocks in X alone. -/
abbrev KeepX (X : Nat → Prop) (w w' : World) : Prop := Keep (fun b => ¬ X b) w w'
/-- One disk: it lies behind w0, and has none of the blocks in X; from w0 on nothing has turned that was there. -/
structure One (w0 : World) (w : World) (D : Nat) (s : DSt) (m : Nat) (X : Nat → Prop) : Prop where
  dsk : ∃ F, Dsk w D s m F ∧ ∀ b, F b → w0.heap.size ≤ b ∧ ¬ X b
  keep : Keep0 w0 w
  lt : ∀ b, X b → b < w.heap.size
/-- The blocks that have come between two worlds. -/
def New (X : Nat → Prop) (w w' : World) : Nat → Prop := fun b => X b ∨ (w.heap.size ≤ b ∧ b < w'.heap.size)
section
variable {w0 w : World} {D m : Nat} {s : DSt} {X : Nat → Prop}
theorem One.ok (h : One w0 w D s m X) : s.Ok := by obtain ⟨F, hd, _⟩ := h.dsk; exact hd.ok
theorem One.keep0 {w' : World} (h : One w0 w D s m X) (hk : Keep0 w w') : One w0 w' D s m X := ⟨by
  obtain ⟨F, hd, hF⟩ := h.dsk
  exact ⟨F, hd.keep0 hk, hF⟩, h.keep.and0 hk, fun b hb => Nat.lt_of_lt_of_le (h.lt b hb) hk.size⟩
theorem One.add {w' : World} (h : One w0 w D s m X) (hk : Keep0 w w') : One w0 w' D s m (New X w w') := ⟨by
  obtain ⟨F, hd, hF⟩ := h.dsk
  exact ⟨fun b => F b ∧ b < w.heap.size, (hd.mono fun b hb hf => ⟨hf, hb⟩).keep0 hk, fun b hb => ⟨(hF b hb.1).1, fun hx => by
    rcases hx with hx | hx
    · exact (hF b hb.1).2 hx
    · omega⟩⟩, h.keep.and0 hk, fun b hb => by
  rcases hb with hb | hb
  · exact Nat.lt_of_lt_of_le (h.lt b hb) hk.size
  · exact hb.2⟩
/-- Behind a call that wrote within the disk, and made more of it. -/
theorem One.step {w' : World} {s' : DSt} {m' : Nat} (h : One w0 w D s m X) (hd : ∀ F, Dsk w D s m F → Dsk w' D s' m' (Ext F w w') ∧ Keep F w w') : One w0 w' D s' m' X ∧ KeepX X w w' := by
  obtain ⟨F, hF, hb⟩ := h.dsk
  obtain ⟨h1, h2⟩ := hd F hF
  have hs := h.keep.size
  refine ⟨⟨⟨_, h1, fun b hx => ?_⟩, h.keep.trans h2 fun b hb' hx => by have := (hb b hx).1; omega, fun b hx => Nat.lt_of_lt_of_le (h.lt b hx) h2.size⟩, h2.mono fun b _ hx => (hb b hx).2⟩
  rcases hx with hx | hx
  · exact hb b hx
  · exact ⟨by omega, fun hxx => by have := h.lt b hxx; omega⟩
end
section
variable {w0 w : World} {D m : Nat} {s : DSt} {X : Nat → Prop}
theorem one_new (n : Int) (w : World) : Calls Try.prog 24 #[.int .i64 n] w fun e w' => ∃ D, e = .returned (.pointer (some ⟨D, 0, none⟩)) ∧ One w w' D (DSt.new (newSize n)) 0 Nil :=
  (new_any n w).mono fun e w' ⟨D, he, hd, hk⟩ => ⟨D, he, ⟨⟨_, hd, fun b hb => ⟨hb, fun hx => hx⟩⟩, hk, fun b hb => hb.elim⟩⟩
theorem Calls.ofStep {f : FuncId} {args : Array Value} {v : Value} {s' : DSt} {m' : Nat} (h : One w0 w D s m X)
    (hc : ∀ F, Dsk w D s m F → Calls Try.prog f args w fun e w' => e = .returned v ∧ Dsk w' D s' m' (Ext F w w') ∧ Keep F w w') :
    Calls Try.prog f args w fun e w' => e = .returned v ∧ One w0 w' D s' m' X ∧ KeepX X w w' := by
  obtain ⟨F, hF, hb⟩ := h.dsk
  have hs := h.keep.size
  refine (hc F hF).mono fun e w' ⟨he, h1, h2⟩ => ⟨he, ⟨⟨_, h1, fun b hx => ?_⟩, h.keep.trans h2 fun b hb' hx => by have := (hb b hx).1; omega, fun b hx => Nat.lt_of_lt_of_le (h.lt b hx) h2.size⟩, h2.mono fun b _ hx => (hb b hx).2⟩
  rcases hx with hx | hx
  · exact hb b hx
  · exact ⟨by omega, fun hxx => by have := h.lt b hxx; omega⟩
theorem one_write (a : Int) (l : List UInt8) (G : Nat → Prop) (A : Option Addr) (n c : Nat) (ha : -9223372036854775808 ≤ a ∧ a ≤ 9223372036854775807) (hsl : Sl w G A n c l) (hm : m ≤ 1073741824) (h : One w0 w D s m X) : Calls Try.prog 27 #[.pointer (some ⟨D, 0, none⟩), .int .i64 a, .slice A n c] w fun e w' =>
    e = .returned (.int .i64 (s.writeE a l)) ∧ One w0 w' D (s.write a l) (m + 1) X ∧ KeepX X w w' :=
  Calls.ofStep h fun F hd => write_any a l A n c ha hsl hm hd
theorem one_sync (hm : m ≤ 1073741824) (h : One w0 w D s m X) : Calls Try.prog 26 #[.pointer (some ⟨D, 0, none⟩)] w fun e w' => e = .returned (.int .i64 s.syncE) ∧ One w0 w' D s.sync m X ∧ KeepX X w w' :=
  Calls.ofStep h fun F hd => (sync_any hm hd).mono fun e w' ⟨he, h1, h2⟩ => ⟨he, h1.mono fun b _ hb => .inl hb, h2⟩
theorem one_restart (keep : Int) (hm : m ≤ 1073741824) (h : One w0 w D s m X) : Calls Try.prog 29 #[.pointer (some ⟨D, 0, none⟩), .int .i64 keep] w fun e w' => e = .returned (.int .i64 (s.cut keep : Int)) ∧ One w0 w' D (s.restart keep) m X ∧ KeepX X w w' :=
  Calls.ofStep h fun F hd => (restart_any keep hm hd).mono fun e w' ⟨he, h1, h2⟩ => ⟨he, h1.mono fun b _ hb => .inl hb, h2⟩
theorem one_arm (n : Int) (hn : n ≤ 9223372036854775807) (h : One w0 w D s m X) : Calls Try.prog 25 #[.pointer (some ⟨D, 0, none⟩), .int .i64 n] w fun e w' => e = .returned (.tuple #[]) ∧ One w0 w' D (s.arm n) m X ∧ KeepX X w w' :=
  Calls.ofStep h fun F hd => (arm_any n hn hd).mono fun e w' ⟨he, h1, h2⟩ => ⟨he, h1.mono fun b _ hb => .inl hb, h2.mono fun b _ e => by rw [e]; exact hd.fD⟩
theorem one_read (a n : Int) (ha : -9223372036854775808 ≤ a ∧ a ≤ 9223372036854775807) (hm : m ≤ 1073741824) (h : One w0 w D s m X) : Calls Try.prog 35 #[.pointer (some ⟨D, 0, none⟩), .int .i64 a, .int .i64 n] w fun e w' =>
    ∃ A k c, e = .returned (.tuple #[.slice A k c, .int .i64 (s.ask a n)]) ∧ Sl w' (New X w w') A k c (s.readL a n) ∧ One w0 w' D s m (New X w w') ∧ Keep0 w w' ∧ Own w' w.heap.size 5 A k c ((s.readL a n).map bv) := by
  obtain ⟨F, hd, _⟩ := h.dsk
  exact (read_any a n ha hm hd).mono fun e w' ⟨A, k, c, he, ho, hk⟩ => ⟨A, k, c, he, ho.sl.mono fun b hb hx => .inr ⟨hx, hb⟩, h.add hk, hk, ho⟩
theorem One.more {m' : Nat} (h : One w0 w D s m X) (hm : m ≤ m') : One w0 w D s m' X := ⟨by
  obtain ⟨F, hd, hF⟩ := h.dsk
  exact ⟨F, hd.more hm, hF⟩, h.keep, h.lt⟩
theorem one_down (h : One w0 w D s m X) : Calls Try.prog 28 #[.pointer (some ⟨D, 0, none⟩)] w fun e w' => e = .returned (.bool s.down) ∧ w = w' := by obtain ⟨F, hd, _⟩ := h.dsk; exact down_any hd
theorem one_pending (h : One w0 w D s m X) : Calls Try.prog 37 #[.pointer (some ⟨D, 0, none⟩)] w fun e w' => e = .returned (.int .i64 (s.waits.length : Int)) ∧ w = w' := by obtain ⟨F, hd, _⟩ := h.dsk; exact pending_any hd
theorem one_size (h : One w0 w D s m X) : Calls Try.prog 38 #[.pointer (some ⟨D, 0, none⟩)] w fun e w' => e = .returned (.int .i64 (s.kept.length : Int)) ∧ w = w' := by obtain ⟨F, hd, _⟩ := h.dsk; exact size_any hd
theorem sl_one (w : World) (k : Nat) (hk : k < 256) (t : TypeId) (G : Nat → Prop) (hG : ∀ b, w.heap.size ≤ b → G b) : Sl (w.alloc (.cells #[.int .u8 (k : Int)] t)) G (some ⟨w.heap.size, 0, none⟩) 1 1 [UInt8.ofNat k] :=
  (sl_lit w #[.int .u8 (k : Int)] [UInt8.ofNat k] t (0, 0) 1 (by simp [bv, Nat.mod_eq_of_lt hk]) rfl (by simp [maxLen])).mono fun b _ hb => hG b hb
theorem Sl.keepX {w' : World} {A : Option Addr} {n c : Nat} {l : List UInt8} (h : Sl w X A n c l) (hk : KeepX X w w') : Sl w' X A n c l := h.keep hk fun b hb hx => hx hb
end
def d17a : DSt := ⟨[0, 0, 0, 0, 0], [(0, 97), (1, 98), (2, 99)], false, 0⟩
def d17b : DSt := ⟨[97, 98, 99, 0, 0], [], false, 0⟩
def d17c : DSt := ⟨[97, 98, 99, 0, 0], [(0, 120), (1, 121), (2, 122)], false, 0⟩
def d17d : DSt := ⟨[120, 121, 99, 0, 0], [], false, 0⟩
def d17e : DSt := ⟨[120, 121, 99, 0, 0], [], false, 1⟩
def d17f : DSt := ⟨[120, 121, 99, 0, 0], [(3, 113)], true, 0⟩
def d17g : DSt := ⟨[120, 121, 99, 113, 0], [], false, 0⟩
theorem d17_1 : (DSt.new (newSize 5)).write 0 [97, 98, 99] = d17a ∧ (DSt.new (newSize 5)).writeE 0 [97, 98, 99] = 0 := by constructor <;> rfl
theorem d17_2 : d17a.sync = d17b ∧ d17a.syncE = 0 := by constructor <;> rfl
theorem d17_3 : d17b.write 0 [120, 121, 122] = d17c ∧ d17b.writeE 0 [120, 121, 122] = 0 := by constructor <;> rfl
theorem d17_4 : d17c.restart 2 = d17d ∧ ((d17c.cut 2 : Nat) : Int) = 2 := by constructor <;> rfl
theorem d17_5 : d17d.readL 0 3 = [120, 121, 99] ∧ d17d.ask 0 3 = 0 := by constructor <;> rfl
theorem d17_6 : d17d.arm 1 = d17e := rfl
theorem d17_7 : d17e.write 3 [113] = d17f ∧ d17e.writeE 3 [113] = 15 := by constructor <;> rfl
theorem d17_8 : d17f.readL 0 1 = [] ∧ d17f.ask 0 1 = 15 := by constructor <;> rfl
theorem d17_9 : d17f.restart 9 = d17g := rfl
theorem d17_10 : d17g.readL 0 5 = [120, 121, 99, 113, 0] ∧ d17g.ask 0 5 = 0 := by constructor <;> rfl
set_option maxRecDepth 20000
set_option maxHeartbeats 1000000
theorem small17 (w : World) : Calls Try.prog 23 #[] w fun e w' => e = .returned (.bool true) ∧ Keep0 w w' := by
  have kc := fun (w : World) (C : Array Value) (n c : Nat) => Lib.run_convert_bytes_const (P := Try.prog) w 22 5 C n c Try.underlying22 Try.underlying5
  go_enter Try.func23, Try.ntmps23
  go_wp2_with fail
  refine (one_new 5 w).mono ?_
  rintro e w1 ⟨D, rfl, h1⟩
  go_wp2_with fail
  refine (one_write 0 [97, 98, 99] (fun _ => True) _ 3 3 (by omega) ?hs1 (by omega) (h1.keep0 ?hk1)).mono ?_
  case hk1 => exact Keep.alloc _ _
  case hs1 => exact (sl_lit _ _ [97, 98, 99] _ _ 3 rfl rfl (by simp [maxLen])).mono fun _ _ _ => trivial
  rintro e w2 ⟨rfl, h2, _⟩
  rw [d17_1.1] at h2
  rw [d17_1.2]
  go_wp2_with fail
  refine (one_sync (by omega) h2).mono ?_
  rintro e w3 ⟨rfl, h3, _⟩
  rw [d17_2.1] at h3
  rw [d17_2.2]
  go_wp2_with fail
  refine (one_write 0 [120, 121, 122] (fun _ => True) _ 3 3 (by omega) ?hs2 (by omega) (h3.keep0 ?hk2)).mono ?_
  case hk2 => exact Keep.alloc _ _
  case hs2 => exact (sl_lit _ _ [120, 121, 122] _ _ 3 rfl rfl (by simp [maxLen])).mono fun _ _ _ => trivial
  rintro e w4 ⟨rfl, h4, _⟩
  rw [d17_3.1] at h4
  rw [d17_3.2]
  go_wp2_with fail
  refine (one_restart 2 (by omega) h4).mono ?_
  rintro e w5 ⟨rfl, h5, _⟩
  rw [d17_4.1] at h5
  rw [d17_4.2]
  go_wp2_with fail
  refine (one_read 0 3 (by omega) (by omega) h5).mono ?_
  rintro e w6 ⟨A6, k6, c6, rfl, ho6, h6, _, _⟩
  rw [d17_5.1] at ho6
  rw [d17_5.2]
  obtain rfl : k6 = 3 := ho6.len.symm
  go_wp2_with fail
  refine (one_arm 1 (by omega) h6).mono ?_
  rintro e w7 ⟨rfl, h7, hk7⟩
  rw [d17_6] at h7
  have hi7 := ho6.keepX hk7
  clear ho6 hk7
  go_wp2_with fail
  refine (one_write 3 [113] (fun _ => True) _ 1 1 (by omega) ?hs3 (by omega) (h7.keep0 ?hk3)).mono ?_
  case hk3 => exact Keep.alloc _ _
  case hs3 => exact (sl_lit _ _ [113] _ _ 1 rfl rfl (by simp [maxLen])).mono fun _ _ _ => trivial
  rintro e w8 ⟨rfl, h8, hk8⟩
  have hi8 := (hi7.keep0 (Keep.alloc _ _)).keepX hk8
  clear hi7 hk8
  rw [d17_7.1] at h8
  rw [d17_7.2]
  go_wp2_with fail
  refine (one_read 0 1 (by omega) (by omega) h8).mono ?_
  rintro e w9 ⟨A9, k9, c9, rfl, _, h9, hk9, _⟩
  have hi9 := (hi8.keep0 hk9).mono (G := New (New Nil w5 w6) w8 w9) fun b _ hb => .inl hb
  clear hi8 hk9
  rw [d17_8.2]
  go_wp2_with fail
  refine (one_restart 9 (by omega) h9).mono ?_
  rintro e w10 ⟨rfl, h10, hk10⟩
  have hi10 := hi9.keepX hk10
  clear hi9 hk10
  rw [d17_9] at h10
  go_wp2_with fail
  refine (one_read 0 5 (by omega) (by omega) h10).mono ?_
  rintro e w11 ⟨A11, k11, c11, rfl, ho11, h11, hk11, _⟩
  rw [d17_10.1] at ho11
  rw [d17_10.2]
  obtain rfl : k11 = 5 := ho11.len.symm
  have hs1 := (hi10.keep0 hk11).str (P := Try.prog) 22 5 9 Try.underlying22 Try.underlying5 Try.underlying9
  have hs2 := ho11.str (P := Try.prog) 22 5 9 Try.underlying22 Try.underlying5 Try.underlying9
  have e1 : strB [120, 121, 99] = { data := #[120, 121, 99] } := rfl
  have e2 : strB [120, 121, 99, 113, 0] = { data := #[120, 121, 99, 113, 0] } := rfl
  rw [e1] at hs1
  rw [e2] at hs2
  clear e1 e2 hi10 ho11
  go_wp2_with fail
  refine (one_size h11).mono ?_
  rintro e w' ⟨rfl, rfl⟩
  rw [show ((d17g.kept.length : Nat) : Int) = 5 from rfl]
  go_wp2_with fail
  refine (one_down h11).mono ?_
  rintro e w' ⟨rfl, rfl⟩
  rw [show d17g.down = false from rfl]
  go_wp2_with fail
  go_ret
  exact ⟨rfl, h11.keep⟩
end Go.Proofs.Ytbdencfgiemliaa
