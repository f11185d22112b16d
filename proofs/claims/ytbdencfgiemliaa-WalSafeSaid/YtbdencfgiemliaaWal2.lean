/-
  The step that writes bytes at a place of a half: what the closure does where the disk, the log's block and the closure's variables lie so.
-/
import Derived.Test.YtbdencfgiemliaaWal1
namespace Go.Proofs.Ytbdencfgiemliaa
open Go.RowKit
set_option linter.unusedVariables false
set_option linter.unusedSimpArgs false
set_option maxRecDepth 20000
set_option maxHeartbeats 1000000
section
variable {F X : Nat → Prop} {w : World} {D G m : Nat} {s : DSt} {h' turn stop : Int} {B R : Value} {broken : Bool}
theorem wstep_any (b0 b1 b2 b3 : Nat) (half at' : Int) (h0 : 0 ≤ half ∧ half ≤ 1) (h1 : 0 ≤ at' ∧ at' ≤ 65536) (l : List UInt8) (A : Option Addr) (n c : Nat) (hsl : Sl w X A n c l) (hm : m ≤ 1073741824) (hd : Dsk w D s m F)
    (hb : w.cell? ⟨b0, 0, none⟩ = some (.pointer (some ⟨G, 0, none⟩)) ∧ w.cell? ⟨b1, 0, none⟩ = some (.int .i64 half) ∧ w.cell? ⟨b2, 0, none⟩ = some (.int .i64 at') ∧ w.cell? ⟨b3, 0, none⟩ = some (.slice A n c))
    (hG : Blk w G 86 (logCells D h' turn stop B R broken)) (hf : ¬ F G ∧ ¬ F b0 ∧ ¬ F b1 ∧ ¬ F b2 ∧ ¬ F b3) :
    Calls Try.prog 74 #[.pointer (some ⟨b0, 0, none⟩), .pointer (some ⟨b1, 0, none⟩), .pointer (some ⟨b2, 0, none⟩), .pointer (some ⟨b3, 0, none⟩)] w fun e w' =>
      e = .returned (.int .i64 (s.writeE (half * ((s.kept.length / 2 : Nat) : Int) + at') l)) ∧ Dsk w' D (s.write (half * ((s.kept.length / 2 : Nat) : Int) + at') l) (m + 1) (Ext F w w') ∧ Keep F w w' := by
  have hlen := hd.ok.size
  obtain ⟨c0, c1, c2, c3, c4, c5, c6, _⟩ := log_cells hG
  have HG := Lib.hid hG
  have HD := Lib.hid hd
  have HS := Lib.hid hsl
  have hS : (fun W => W.cell? ⟨b0, 0, none⟩ = some (.pointer (some ⟨G, 0, none⟩)) ∧ W.cell? ⟨b1, 0, none⟩ = some (.int .i64 half) ∧ W.cell? ⟨b2, 0, none⟩ = some (.int .i64 at') ∧ W.cell? ⟨b3, 0, none⟩ = some (.slice A n c) ∧ W.cell? ⟨G, 0, none⟩ = some (.pointer (some ⟨D, 0, none⟩))) w := ⟨hb.1, hb.2.1, hb.2.2.1, hb.2.2.2, c0⟩
  have HB := Lib.hid hS
  have hpos : 0 ≤ half * ((s.kept.length / 2 : Nat) : Int) ∧ half * ((s.kept.length / 2 : Nat) : Int) ≤ 65536 := by
    obtain rfl | rfl : half = 0 ∨ half = 1 := by omega
    · simp
    · constructor <;> omega
  generalize hz : ((s.kept.length / 2 : Nat) : Int) = z at *
  generalize hhz : half * z = hz2 at *
  have HZ := Lib.hid hz
  have hw1 : IntKind.i64.wrap hz2 = hz2 := by rw [IntKind.wrap_i64]; omega
  have hw2 : IntKind.i64.wrap (hz2 + at') = hz2 + at' := by rw [IntKind.wrap_i64]; omega
  have HW1 := Lib.hid hw1
  have HW2 := Lib.hid hw2
  clear hw1 hw2
  have HHZ := Lib.hid hhz
  clear hG hd hsl hb hS c1 c2 c3 c4 c5 c6 hz hhz c0
  go_enter Try.func74, Try.ntmps74
  go_wp2_with fail
  have hkS : ∀ W, Keep F w W → (fun W => W.cell? ⟨b0, 0, none⟩ = some (.pointer (some ⟨G, 0, none⟩)) ∧ W.cell? ⟨b1, 0, none⟩ = some (.int .i64 half) ∧ W.cell? ⟨b2, 0, none⟩ = some (.int .i64 at') ∧ W.cell? ⟨b3, 0, none⟩ = some (.slice A n c) ∧ W.cell? ⟨G, 0, none⟩ = some (.pointer (some ⟨D, 0, none⟩))) W := fun W hW => by
    obtain ⟨q0, q1, q2, q3, q4⟩ := HB.out
    exact ⟨hW.cell_some q0 hf.2.1, hW.cell_some q1 hf.2.2.1, hW.cell_some q2 hf.2.2.2.1, hW.cell_some q3 hf.2.2.2.2, hW.cell_some q4 hf.1⟩
  have hk0 : Keep0 w w.drew := Keep.drew w
  refine wp_region_held_drew (S := fun W => W.cell? ⟨b0, 0, none⟩ = some (.pointer (some ⟨G, 0, none⟩)) ∧ W.cell? ⟨b1, 0, none⟩ = some (.int .i64 half) ∧ W.cell? ⟨b2, 0, none⟩ = some (.int .i64 at') ∧ W.cell? ⟨b3, 0, none⟩ = some (.slice A n c) ∧ W.cell? ⟨G, 0, none⟩ = some (.pointer (some ⟨D, 0, none⟩))) (by kernel_rfl) ?_ (fun hHeld => ?_)
  · obtain ⟨q0, q1, q2, q3, q4⟩ := HB.out
    exact ⟨hk0.cell_some q0 (fun hb => hb), hk0.cell_some q1 (fun hb => hb), hk0.cell_some q2 (fun hb => hb), hk0.cell_some q3 (fun hb => hb), hk0.cell_some q4 (fun hb => hb)⟩
  refine wpAnyH_take (i := 0) (oi := ⟨_, _, _, _, _, _⟩) (v := ?_) rfl (by kernel_rfl) (by kernel_rfl) (by kernel_rfl) (fun _ _ _ h => h) (Or.inl ⟨by rfl, ?_⟩) (by assumption) ?_
  rotate_left
  · intro W hSw; (try dsimp only at hSw); go_simp; try with_reducible rfl
  try simp only [Act.put, List.setIfInBounds_toArray, List.set_cons_zero, List.set_cons_succ]
  refine wpAnyH_take (i := 1) (oi := ⟨_, _, _, _, _, _⟩) (v := ?_) rfl (by kernel_rfl) (by kernel_rfl) (by kernel_rfl) (fun _ _ _ h => h) (Or.inl ⟨by rfl, ?_⟩) (by assumption) ?_
  rotate_left
  · intro W hSw; (try dsimp only at hSw); go_simp; try with_reducible rfl
  try simp only [Act.put, List.setIfInBounds_toArray, List.set_cons_zero, List.set_cons_succ]
  refine wpAnyH_take (i := 2) (oi := ⟨_, _, _, _, _, _⟩) (v := ?_) rfl (by kernel_rfl) (by kernel_rfl) (by kernel_rfl) (fun _ _ _ h => h) (Or.inl ⟨by rfl, ?_⟩) (by assumption) ?_
  rotate_left
  · intro W hSw; (try dsimp only at hSw); go_simp; try with_reducible rfl
  try simp only [Act.put, List.setIfInBounds_toArray, List.set_cons_zero, List.set_cons_succ]
  refine wpAnyH_take (i := 3) (oi := ⟨_, _, _, _, _, _⟩) (v := ?_) rfl (by kernel_rfl) (by kernel_rfl) (by kernel_rfl) (fun _ _ _ h => h) (Or.inl ⟨by rfl, ?_⟩) (by assumption) ?_
  rotate_left
  · intro W hSw; (try dsimp only at hSw); go_simp; try with_reducible rfl
  try simp only [Act.put, List.setIfInBounds_toArray, List.set_cons_zero, List.set_cons_succ]
  refine wpAnyH_take (i := 4) (oi := ⟨_, _, _, _, _, _⟩) (v := ?_) rfl (by kernel_rfl) (by kernel_rfl) (by kernel_rfl) (fun _ _ _ h => h) (Or.inl ⟨by rfl, ?_⟩) (by assumption) ?_
  rotate_left
  · intro W hSw; (try dsimp only at hSw); go_simp; try with_reducible rfl
  try simp only [Act.put, List.setIfInBounds_toArray, List.set_cons_zero, List.set_cons_succ]
  refine wpAnyH_take (i := 5) (oi := ⟨_, _, _, _, _, _⟩) (v := ?_) rfl (by kernel_rfl) (by kernel_rfl) (by kernel_rfl) (fun _ _ _ h => h) (Or.inl ⟨by rfl, ?_⟩) (by assumption) ?_
  rotate_left
  · intro W hSw; (try dsimp only at hSw); go_simp; try with_reducible rfl
  try simp only [Act.put, List.setIfInBounds_toArray, List.set_cons_zero, List.set_cons_succ]
  refine wpAnyH_take (i := 8) (oi := ⟨_, _, _, _, _, _⟩) (v := ?_) rfl (by kernel_rfl) (by kernel_rfl) (by kernel_rfl) (fun _ _ _ h => h) (Or.inl ⟨by rfl, ?_⟩) (by assumption) ?_
  rotate_left
  · intro W hSw; (try dsimp only at hSw); go_simp; try with_reducible rfl
  try simp only [Act.put, List.setIfInBounds_toArray, List.set_cons_zero, List.set_cons_succ]
  refine wpAnyH_take (i := 10) (oi := ⟨_, _, _, _, _, _⟩) (v := ?_) rfl (by kernel_rfl) (by kernel_rfl) (by kernel_rfl) (fun _ _ _ h => h) (Or.inl ⟨by rfl, ?_⟩) (by assumption) ?_
  rotate_left
  · intro W hSw; (try dsimp only at hSw); go_simp; try with_reducible rfl
  try simp only [Act.put, List.setIfInBounds_toArray, List.set_cons_zero, List.set_cons_succ]
  refine wpAnyH_ready (rs := [6]) (by kernel_rfl) (by simp) ?_
  refine AllReadyH.cons (o := ⟨_, _, _, _, _, _⟩) rfl (fun K hK => ?_) AllReadyH.nil
  go_simp
  refine (logSize_any (HD.out.keep0 hk0) (HG.out.keep0 hk0)).mono ?_
  rintro e w6 ⟨rfl, rfl⟩
  rw [HZ.out]
  refine hK.out _ _ ?_ (fun hHeld => ?_)
  · assumption
  clear hK K
  try simp only [Act.put, List.setIfInBounds_toArray, List.set_cons_zero, List.set_cons_succ]
  refine wpAnyH_take (i := 7) (oi := ⟨_, _, _, _, _, _⟩) (v := ?_) rfl (by kernel_rfl) (by kernel_rfl) (by kernel_rfl) (fun _ _ _ h => h) (Or.inl ⟨by rfl, ?_⟩) (by assumption) ?_
  rotate_left
  · intro W hSw; (try dsimp only at hSw); go_simp; try with_reducible rfl
  try simp only [Act.put, List.setIfInBounds_toArray, List.set_cons_zero, List.set_cons_succ]
  refine wpAnyH_take (i := 9) (oi := ⟨_, _, _, _, _, _⟩) (v := ?_) rfl (by kernel_rfl) (by kernel_rfl) (by kernel_rfl) (fun _ _ _ h => h) (Or.inl ⟨by rfl, ?_⟩) (by assumption) ?_
  rotate_left
  · intro W hSw; (try dsimp only at hSw); go_simp; try with_reducible rfl
  try simp only [Act.put, List.setIfInBounds_toArray, List.set_cons_zero, List.set_cons_succ]
  refine wpAnyH_ready (rs := [11]) (by kernel_rfl) (by simp) ?_
  refine AllReadyH.cons (o := ⟨_, _, _, _, _, _⟩) rfl (fun K hK => ?_) AllReadyH.nil
  go_simp
  rw [HHZ.out, HW1.out, HW2.out]
  refine (write_any (hz2 + at') l A n c ⟨by omega, by omega⟩ (HS.out.keep0 hk0) hm (HD.out.keep0 hk0)).mono ?_
  rintro e w7 ⟨rfl, hd7, hk7⟩
  have hk8 : Keep F w w7 := (hk0.of0 F).andThen hk7
  refine hK.out _ _ ?_ (fun hHeld => ?_)
  · exact hkS w7 hk8
  clear hK K
  try simp only [Act.put, List.setIfInBounds_toArray, List.set_cons_zero, List.set_cons_succ]
  refine wpAnyH_take (i := 12) (oi := ⟨_, _, _, _, _, _⟩) (v := ?_) rfl (by kernel_rfl) (by kernel_rfl) (by kernel_rfl) (fun _ _ _ h => h) (Or.inl ⟨by rfl, ?_⟩) (by assumption) ?_
  rotate_left
  · intro W hSw; (try dsimp only at hSw); go_simp; try with_reducible rfl
  try simp only [Act.put, List.setIfInBounds_toArray, List.set_cons_zero, List.set_cons_succ]
  refine wpAnyH_done (by kernel_rfl) ?_ _
  go_wp2
  go_ret
  exact ⟨rfl, hd7, hk8⟩
end
end Go.Proofs.Ytbdencfgiemliaa
