/-
  Contracts of slices.Clone at bytes and of sum.Stamp: a new slice; nothing else turns; for slices of at most 2^47 bytes.
-/
import Derived.Test.YtbdencfgiemliaaSum1
namespace Go.Proofs.Ytbdencfgiemliaa
open Go.RowKit
theorem info5 : (Try.prog.info? 5).map (fun i => (i.zero, i.size, i.bytes)) = some (some (.int .u8 0), 1, 1) := by kernel_rfl
/-- What a call leaves that makes a new slice of bytes and changes nothing else. -/
def NewSl (w : World) (l : List UInt8) (v : Value) (w' : World) : Prop := ∃ A n c, v = .slice A n c ∧ Own w' w.heap.size 5 A n c (l.map bv) ∧ Keep0 w w' 
set_option maxHeartbeats 400000 in
theorem clone_any (l : List UInt8) (F : Nat → Prop) (A : Option Addr) (n c : Nat) (w : World) (h : Sl w F A n c l) (hm : n ≤ 140737488355328) :
    Calls Try.prog 52 #[.slice A n c] w fun e w' => ∃ A' c', e = .returned (.slice A' n c') ∧ Own w' w.heap.size 5 A' n c' (l.map bv) ∧ Keep0 w w' := by
  rcases A with _ | ad
  · obtain ⟨rfl, rfl⟩ := h.nil rfl
    have hl : l = [] := List.eq_nil_of_length_eq_zero h.len
    subst hl
    have hs := fun w => Lib.run_eql_slice_nil (P := Try.prog) w 22 5 none 0 0 0 0 Try.underlying22
    go_enter Try.func52, Try.ntmps52
    go_wp2
    go_ret
    exact ⟨none, 0, rfl, own_nil _ _ _, Keep.refl _ _⟩
  · have hs := fun w => Lib.run_eql_slice_nil (P := Try.prog) w 22 5 (some ad) n c 0 0 Try.underlying22
    obtain ⟨i0, hi0, hz0, hz1, hz2⟩ := info_parts info5
    have HH := Lib.hid h
    clear h
    go_enter Try.func52, Try.ntmps52
    go_wp2_with (at_builtin; refine wpList_append_rd _ rfl (.tmp 5) (.tmp 6) _ rfl w.heap.size 5 i0 _ 1 1 Try.underlying22 hi0 hz0 hz1 hz2 rfl (by omega) (.slice (some ⟨w.heap.size, 0, none⟩) 0 0) 0 [] rfl (World.ownsRow_made w _ 0 (Nat.le_refl _) (Nat.zero_le _) rfl) F (some ad) n c (l.map bv) rfl ?qa ?qb (one_bv l) (by simp only [maxLen]; omega) (by omega) (by simp) ?qc)
    case qa => simpa using HH.out.len
    case qb => exact HH.out.rd.keep0 (Keep.alloc _ _)
    case qc =>
      intro A' c' w' hown hg _
      have hO : Own w' w.heap.size 5 A' n c' (l.map bv) := by unfold Own; simpa using hown
      go_wp2
      go_ret
      exact ⟨A', c', rfl, hO, ((Keep.alloc w _).trans (Keep.ofGrown hg (S := fun b => w.heap.size ≤ b) (by simp [Value.ownBlock])) (fun b hb h => by omega))⟩
def hi8 (q : BitVec 16) : UInt8 := UInt8.ofNat (q.toNat / 256)
def lo8 (q : BitVec 16) : UInt8 := UInt8.ofNat q.toNat
theorem hi8_v (q : BitVec 16) : bv (hi8 q) = .int .u8 ((q.toNat : Int) / 256) := by
  have := q.isLt
  simp only [bv, hi8, UInt8.toNat_ofNat']
  rw [Nat.mod_eq_of_lt (by omega)]; rfl
theorem lo8_v (q : BitVec 16) : bv (lo8 q) = .int .u8 ((q.toNat : Int) % 256) := by
  simp only [bv, lo8, UInt8.toNat_ofNat']; rfl
def stampL (l : List UInt8) : List UInt8 := l ++ [hi8 (crc l), lo8 (crc l)]
theorem two_cells (w : World) (x y : Value) (t : TypeId) : ∀ j u, [x, y][j]? = some u → (w.alloc (.cells #[x, y] t)).cell? ⟨w.heap.size, 0 + j, none⟩ = some u := by
  intro j u hj
  rw [(Blk.new w t #[x, y]).cell]
  match j, hj with
  | 0, hj => simpa using hj
  | 1, hj => simpa using hj
set_option maxRecDepth 20000 in
set_option maxHeartbeats 400000 in
theorem stamp_any (l : List UInt8) (F : Nat → Prop) (A : Option Addr) (n c : Nat) (w : World) (h : Sl w F A n c l) (hm : n ≤ 140737488355320) :
    Calls Try.prog 17 #[.slice A n c] w fun e w' => ∃ A' c', e = .returned (.slice A' (n + 2) c') ∧ Own w' w.heap.size 5 A' (n + 2) c' ((stampL l).map bv) ∧ Keep0 w w' := by
  obtain ⟨i0, hi0, hz0, hz1, hz2⟩ := info_parts info5
  have HH := Lib.hid h
  clear h
  go_enter Try.func17, Try.ntmps17
  go_wp2_with fail
  refine (sum_any l F A n c w HH.out).mono ?_
  rintro e w' ⟨rfl, rfl⟩
  go_wp2_with fail
  refine (clone_any l F A n c w HH.out (by omega)).mono ?_
  rintro e w1 ⟨A1, c1, rfl, hown1, hk1⟩
  have hs1 := hk1.size
  obtain ⟨q, hq⟩ : ∃ q, q = crc l := ⟨_, rfl⟩
  rw [← hq]
  have HQ := Lib.hid hq
  clear hq
  have hl : (q.toNat : Int) ≤ 65535 := by have := q.isLt; omega
  go_wp2_with (at_builtin; refine wpList_append_rd _ rfl (.tmp 7) (.tmp 13) _ rfl w.heap.size 5 i0 _ 1 1 Try.underlying22 hi0 hz0 hz1 hz2 rfl (by omega) (.slice A1 n c1) n (l.map bv) rfl (hown1.keep0 (Keep.alloc _ _)) (fun _ => True) (some ⟨w1.heap.size, 0, none⟩) 2 2 [.int .u8 ((q.toNat : Int) / 256), .int .u8 ((q.toNat : Int) % 256)] rfl rfl (.inr ⟨_, _, rfl, trivial, two_cells _ _ _ _⟩) (by simp [Value.oneCell']) (by simp only [maxLen]; omega) (by omega) (by simp; omega) ?qc)
  case qc =>
    intro A' c' w' hown hg _
    have hO : Own w' w.heap.size 5 A' (n + 2) c' ((stampL l).map bv) := by
      unfold Own stampL
      rw [← HQ.out, List.map_append, List.map_cons, List.map_cons, List.map_nil, hi8_v, lo8_v]
      exact hown
    have hK : Keep0 w w' := (hk1.alloc' _).grown hg fun k hk => .inr (hown1.row k hk).1
    clear hown hg
    go_wp2
    go_ret
    exact ⟨A', c', rfl, hO, hK⟩
end Go.Proofs.Ytbdencfgiemliaa
