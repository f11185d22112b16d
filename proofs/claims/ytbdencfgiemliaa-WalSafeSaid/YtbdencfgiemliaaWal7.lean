/-
  Contract of Room, where the log's end lies in 0 to 65536.
-/
import Derived.Test.YtbdencfgiemliaaWal1
namespace Go.Proofs.Ytbdencfgiemliaa
open Go.RowKit
set_option linter.unusedVariables false
set_option linter.unusedSimpArgs false
section
variable {F : Nat → Prop} {w : World} {D G m : Nat} {s : DSt} {half turn stop : Int} {B R : Value} {broken : Bool}
set_option maxRecDepth 20000
set_option maxHeartbeats 1000000
theorem room_any (hs0 : 0 ≤ stop ∧ stop ≤ 65536) (hd : Dsk w D s m F) (h : Blk w G 86 (logCells D half turn stop B R broken)) : Calls Try.prog 42 #[.pointer (some ⟨G, 0, none⟩)] w fun e w' => e = .returned (.int .i64 (((s.kept.length / 2 : Nat) : Int) - stop)) ∧ Keep0 w w' := by
  have hlen := hd.ok.size
  have hc3 := (log_cells h).2.2.2.1
  have HD := Lib.hid hd
  have HG := Lib.hid h
  have HC3 := Lib.hid hc3
  have hk0 : Keep0 w w.drew := Keep.drew w
  obtain ⟨z, hz⟩ : ∃ z : Nat, z = s.kept.length / 2 := ⟨_, rfl⟩
  have hzb : z ≤ 65536 := by omega
  rw [← hz]
  have HZ := Lib.hid hz
  clear hd h hc3 hz
  go_enter Try.func42, Try.ntmps42
  go_wp2_with fail
  refine wp_region_held_drew (S := fun W => W.cell? ⟨G, 3, none⟩ = some (.int .i64 stop)) (by kernel_rfl) ?_ (fun hHeld => ?_)
  · exact hk0.cell_some HC3.out fun hb => hb
  refine wpAnyH_take (i := 0) (oi := ⟨_, _, _, _, _, _⟩) (v := ?_) rfl (by kernel_rfl) (by kernel_rfl) (by kernel_rfl) (fun _ _ _ h => h) (Or.inl ⟨by rfl, ?_⟩) (by assumption) ?_
  rotate_left
  · intro W hSw; (try dsimp only at hSw); go_simp; try with_reducible rfl
  try simp only [Act.put, List.setIfInBounds_toArray, List.set_cons_zero, List.set_cons_succ]
  refine wpAnyH_take (i := 2) (oi := ⟨_, _, _, _, _, _⟩) (v := ?_) rfl (by kernel_rfl) (by kernel_rfl) (by kernel_rfl) (fun _ _ _ h => h) (Or.inl ⟨by rfl, ?_⟩) (by assumption) ?_
  rotate_left
  · intro W hSw; (try dsimp only at hSw); go_simp; try with_reducible rfl
  try simp only [Act.put, List.setIfInBounds_toArray, List.set_cons_zero, List.set_cons_succ]
  refine wpAnyH_take (i := 3) (oi := ⟨_, _, _, _, _, _⟩) (v := ?_) rfl (by kernel_rfl) (by kernel_rfl) (by kernel_rfl) (fun _ _ _ h => h) (Or.inl ⟨by rfl, ?_⟩) (by assumption) ?_
  rotate_left
  · intro W hSw; (try dsimp only at hSw); go_simp; try with_reducible rfl
  try simp only [Act.put, List.setIfInBounds_toArray, List.set_cons_zero, List.set_cons_succ]
  refine wpAnyH_take (i := 4) (oi := ⟨_, _, _, _, _, _⟩) (v := ?_) rfl (by kernel_rfl) (by kernel_rfl) (by kernel_rfl) (fun _ _ _ h => h) (Or.inl ⟨by rfl, ?_⟩) (by assumption) ?_
  rotate_left
  · intro W hSw; (try dsimp only at hSw); go_simp; try with_reducible rfl
  try simp only [Act.put, List.setIfInBounds_toArray, List.set_cons_zero, List.set_cons_succ]
  refine wpAnyH_take (i := 5) (oi := ⟨_, _, _, _, _, _⟩) (v := ?_) rfl (by kernel_rfl) (by kernel_rfl) (by kernel_rfl) (fun _ _ _ h => h) (Or.inl ⟨by rfl, ?_⟩) (by assumption) ?_
  rotate_left
  · intro W hSw; (try dsimp only at hSw); go_simp; try with_reducible rfl
  try simp only [Act.put, List.setIfInBounds_toArray, List.set_cons_zero, List.set_cons_succ]
  refine wpAnyH_ready (rs := [1]) (by kernel_rfl) (by simp) ?_
  refine AllReadyH.cons (o := ⟨_, _, _, _, _, _⟩) rfl (fun K hK => ?_) AllReadyH.nil
  go_simp
  refine (logSize_any (HD.out.keep0 hk0) (HG.out.keep0 hk0)).mono ?_
  rintro e w6 ⟨rfl, rfl⟩
  rw [← HZ.out]
  refine hK.out _ _ ?_ (fun hHeld => ?_)
  · assumption
  clear hK K
  try simp only [Act.put, List.setIfInBounds_toArray, List.set_cons_zero, List.set_cons_succ]
  refine wpAnyH_take (i := 6) (oi := ⟨_, _, _, _, _, _⟩) (v := ?_) rfl (by kernel_rfl) (by kernel_rfl) (by kernel_rfl) (fun _ _ _ h => h) (Or.inl ⟨by rfl, ?_⟩) (by assumption) ?_
  rotate_left
  · intro W hSw; (try dsimp only at hSw); go_simp; try with_reducible rfl
  try simp only [Act.put, List.setIfInBounds_toArray, List.set_cons_zero, List.set_cons_succ]
  refine wpAnyH_take (i := 7) (oi := ⟨_, _, _, _, _, _⟩) (v := ?_) rfl (by kernel_rfl) (by kernel_rfl) (by kernel_rfl) (fun _ _ _ h => h) (Or.inl ⟨by rfl, ?_⟩) (by assumption) ?_
  rotate_left
  · intro W hSw; (try dsimp only at hSw); go_simp; try with_reducible rfl
  try simp only [Act.put, List.setIfInBounds_toArray, List.set_cons_zero, List.set_cons_succ]
  refine wpAnyH_done (by kernel_rfl) ?_ _
  go_wp2
  go_ret
  exact ⟨ret_i (by rw [IntKind.wrap_i64]; omega), hk0⟩
end
end Go.Proofs.Ytbdencfgiemliaa
