/-
  The log's clear: what the plain disk says of its four steps; the log is broken if not all told OK. Conditions: the disk and the log lie in memory apart, a disk of 48 bytes or more, the frames' end within the half.
-/
import Derived.Test.YtbdencfgiemliaaWal13
namespace Go.Proofs.Ytbdencfgiemliaa
open Go.RowKit
set_option linter.unusedVariables false
set_option linter.unusedSimpArgs false
/-- The steps that clear what stands behind the frames. -/
def clearOps (z half stop q : Nat) : List DOp :=
  [some ((half : Int) * (z : Int) + (q : Int), List.replicate (z - q) 0), none, some ((half : Int) * (z : Int) + (stop : Int), List.replicate (q - stop) 0), none]
section
variable {X F : Nat → Prop} {w : World} {D G m : Nat} {s : DSt} {x : LSt}
set_option maxRecDepth 20000
set_option maxHeartbeats 2000000
theorem clear_any (hm : m + 4 ≤ 1073741824) (h48 : 48 ≤ s.kept.length) (hstop : x.stop ≤ s.kept.length / 2) (hd : DL w D G s x m F) :
    Calls Try.prog 62 #[.pointer (some ⟨G, 0, none⟩)] w fun e w' => e = .returned (.int .i64 (s.stepsE (clearOps (s.kept.length / 2) x.half x.stop (min (x.stop + 2) (s.kept.length / 2))))) ∧ Keep F w w' ∧
      DL w' D G (s.steps (clearOps (s.kept.length / 2) x.half x.stop (min (x.stop + 2) (s.kept.length / 2)))) (pickL (s.stepsE (clearOps (s.kept.length / 2) x.half x.stop (min (x.stop + 2) (s.kept.length / 2)))) x { x with broken := true }) (m + 4) (Ext F w w') := by
  obtain ⟨FD0, FL0, hdsk0, hlog0, hdis0, hFD0, hFL0⟩ := hd
  have hlen := hdsk0.ok.size
  obtain ⟨z, hz⟩ : ∃ z, z = s.kept.length / 2 := ⟨_, rfl⟩
  rw [← hz] at hstop ⊢
  have hz5 : 24 ≤ z := by omega
  have hz6 : z ≤ 32768 := by omega
  obtain ⟨q, hq⟩ : ∃ q, q = min (x.stop + 2) z := ⟨_, rfl⟩
  rw [← hq]
  have hmin : (if (z : Int) < IntKind.i64.wrap ((x.stop : Int) + 2) then (z : Int) else IntKind.i64.wrap ((x.stop : Int) + 2)) = (q : Int) := by
    have hw : IntKind.i64.wrap ((x.stop : Int) + 2) = (x.stop : Int) + 2 := by rw [IntKind.wrap_i64]; omega
    rw [hw]
    split <;> omega
  have hq1 : x.stop ≤ q := by omega
  have hq2 : q ≤ z := by omega
  obtain ⟨FD, hFD⟩ : ∃ FD : Nat → Prop, FD = fun b => FD0 b ∧ b < w.heap.size := ⟨_, rfl⟩
  obtain ⟨FL, hFL⟩ : ∃ FL : Nat → Prop, FL = fun b => FL0 b ∧ b < w.heap.size := ⟨_, rfl⟩
  have hdsk : Dsk w D s m FD := hdsk0.mono fun b hb hx => by rw [hFD]; exact ⟨hx, hb⟩
  have hlog : LRep w G D x FL := hlog0.mono fun b hb hx => by rw [hFL]; exact ⟨hx, hb⟩
  have hdis : ∀ b, FD b → ¬ FL b := fun b hb hx => by rw [hFD] at hb; rw [hFL] at hx; exact hdis0 b hb.1 hx.1
  have hFDF : ∀ b, FD b → F b ∧ b < w.heap.size := fun b hb => by rw [hFD] at hb; exact ⟨hFD0 b hb.1, hb.2⟩
  have hFLF : ∀ b, FL b → F b ∧ b < w.heap.size := fun b hb => by rw [hFL] at hb; exact ⟨hFL0 b hb.1, hb.2⟩
  clear hFD hFL hdsk0 hlog0 hdis0 hFD0 hFL0 hlen h48
  obtain ⟨BA, bn, bc, RA, rn, rc, rows, hL⟩ := hlog
  have hGF := hFLF G hL.fG
  have hFDG : ¬ FD G := fun hx => hdis G hx hL.fG
  have hbd := hL.bd
  have hxh : x.half ≤ 1 := hbd.2.2.1
  have hc0 := (log_cells hL.blk).1
  have hc1 := (log_cells hL.blk).2.1
  have hc3 := (log_cells hL.blk).2.2.2.1
  have HG := Lib.hid hL.blk
  have HL := Lib.hid hL
  have HD := Lib.hid hdsk
  have HZ := Lib.hid hz
  have HMIN := Lib.hid hmin
  have hk0 : Keep0 w w.drew := Keep.drew w
  clear hL hdsk hz hmin hq
  have hst : x.stop ≤ 65536 := by omega
  go_enter Try.func62, Try.ntmps62
  go_wp2_with fail
  refine wp_region_held_drew (S := fun W => W.cell? ⟨G, 0, none⟩ = some (.pointer (some ⟨D, 0, none⟩)) ∧ W.cell? ⟨G, 3, none⟩ = some (.int .i64 x.stop)) (by kernel_rfl) ⟨hk0.cell_some hc0 (fun hb => hb), hk0.cell_some hc3 (fun hb => hb)⟩ (fun hHeld => ?_)
  refine wpAnyH_take (i := 0) (oi := ⟨_, _, _, _, _, _⟩) (v := ?_) rfl (by kernel_rfl) (by kernel_rfl) (by kernel_rfl) (fun _ _ _ h => h) (Or.inl ⟨by rfl, ?_⟩) (by assumption) ?_
  rotate_left
  · intro W hSw; (try dsimp only at hSw); go_simp; try with_reducible rfl
  try simp only [Act.put, List.setIfInBounds_toArray, List.set_cons_zero, List.set_cons_succ]
  refine wpAnyH_take (i := 1) (oi := ⟨_, _, _, _, _, _⟩) (v := ?_) rfl (by kernel_rfl) (by kernel_rfl) (by kernel_rfl) (fun _ _ _ h => h) (Or.inl ⟨by rfl, ?_⟩) (by assumption) ?_
  rotate_left
  · intro W hSw; (try dsimp only at hSw); go_simp; try with_reducible rfl
  try simp only [Act.put, List.setIfInBounds_toArray, List.set_cons_zero, List.set_cons_succ]
  refine wpAnyH_take (i := 2) (oi := ⟨_, _, _, _, _, _⟩) (v := ?_) rfl (by kernel_rfl) (by kernel_rfl) (by kernel_rfl) (fun _ _ _ h => h) (Or.inl ⟨by rfl, ?_⟩) (by assumption) ?_
  rotate_left
  · intro W hSw; (try dsimp only at hSw); go_simp; try with_reducible rfl
  try simp only [Act.put, List.setIfInBounds_toArray, List.set_cons_zero, List.set_cons_succ]
  refine wpAnyH_take (i := 3) (oi := ⟨_, _, _, _, _, _⟩) (v := ?_) rfl (by kernel_rfl) (by kernel_rfl) (by kernel_rfl) (fun _ _ _ h => h) (Or.inl ⟨by rfl, ?_⟩) (by assumption) ?_
  rotate_left
  · intro W hSw; (try dsimp only at hSw); go_simp; try with_reducible rfl
  try simp only [Act.put, List.setIfInBounds_toArray, List.set_cons_zero, List.set_cons_succ]
  refine wpAnyH_take (i := 4) (oi := ⟨_, _, _, _, _, _⟩) (v := ?_) rfl (by kernel_rfl) (by kernel_rfl) (by kernel_rfl) (fun _ _ _ h => h) (Or.inl ⟨by rfl, ?_⟩) (by assumption) ?_
  rotate_left
  · intro W hSw; (try dsimp only at hSw); go_simp; try with_reducible rfl
  try simp only [Act.put, List.setIfInBounds_toArray, List.set_cons_zero, List.set_cons_succ]
  refine wpAnyH_take (i := 5) (oi := ⟨_, _, _, _, _, _⟩) (v := ?_) rfl (by kernel_rfl) (by kernel_rfl) (by kernel_rfl) (fun _ _ _ h => h) (Or.inl ⟨by rfl, ?_⟩) (by assumption) ?_
  rotate_left
  · intro W hSw; (try dsimp only at hSw); go_simp; try with_reducible rfl
  try simp only [Act.put, List.setIfInBounds_toArray, List.set_cons_zero, List.set_cons_succ]
  refine wpAnyH_take (i := 8) (oi := ⟨_, _, _, _, _, _⟩) (v := ?_) rfl (by kernel_rfl) (by kernel_rfl) (by kernel_rfl) (fun _ _ _ h => h) (Or.inl ⟨by rfl, ?_⟩) (by assumption) ?_
  rotate_left
  · intro W hSw; (try dsimp only at hSw); go_simp; try with_reducible rfl
  try simp only [Act.put, List.setIfInBounds_toArray, List.set_cons_zero, List.set_cons_succ]
  refine wpAnyH_take (i := 9) (oi := ⟨_, _, _, _, _, _⟩) (v := ?_) rfl (by kernel_rfl) (by kernel_rfl) (by kernel_rfl) (fun _ _ _ h => h) (Or.inl ⟨by rfl, ?_⟩) (by assumption) ?_
  rotate_left
  · intro W hSw; (try dsimp only at hSw); go_simp; try with_reducible rfl
  try simp only [Act.put, List.setIfInBounds_toArray, List.set_cons_zero, List.set_cons_succ]
  refine wpAnyH_take (i := 10) (oi := ⟨_, _, _, _, _, _⟩) (v := ?_) rfl (by kernel_rfl) (by kernel_rfl) (by kernel_rfl) (fun _ _ _ h => h) (Or.inl ⟨by rfl, ?_⟩) (by assumption) ?_
  rotate_left
  · intro W hSw; (try dsimp only at hSw); go_simp; try with_reducible rfl
  try simp only [Act.put, List.setIfInBounds_toArray, List.set_cons_zero, List.set_cons_succ]
  refine wpAnyH_take (i := 11) (oi := ⟨_, _, _, _, _, _⟩) (v := ?_) rfl (by kernel_rfl) (by kernel_rfl) (by kernel_rfl) (fun _ _ _ h => h) (Or.inl ⟨by rfl, ?_⟩) (by assumption) ?_
  rotate_left
  · intro W hSw; (try dsimp only at hSw); go_simp; try with_reducible rfl
  try simp only [Act.put, List.setIfInBounds_toArray, List.set_cons_zero, List.set_cons_succ]
  refine wpAnyH_take (i := 12) (oi := ⟨_, _, _, _, _, _⟩) (v := ?_) rfl (by kernel_rfl) (by kernel_rfl) (by kernel_rfl) (fun _ _ _ h => h) (Or.inl ⟨by rfl, ?_⟩) (by assumption) ?_
  rotate_left
  · intro W hSw; (try dsimp only at hSw); go_simp; try with_reducible rfl
  try simp only [Act.put, List.setIfInBounds_toArray, List.set_cons_zero, List.set_cons_succ]
  refine wpAnyH_ready (rs := [6]) (by kernel_rfl) (by simp) ?_
  refine AllReadyH.cons (o := ⟨_, _, _, _, _, _⟩) rfl (fun K hK => ?_) AllReadyH.nil
  go_simp
  refine (logSize_any (HD.out.keep0 hk0) (HG.out.keep0 hk0)).mono ?_
  rintro e w1 ⟨rfl, rfl⟩
  rw [← HZ.out]
  refine hK.out _ _ ?_ (fun hHeld => ?_)
  · assumption
  clear hK K
  try simp only [Act.put, List.setIfInBounds_toArray, List.set_cons_zero, List.set_cons_succ]
  refine wpAnyH_ready (rs := [7]) (by kernel_rfl) (by simp) ?_
  refine AllReadyH.cons (o := ⟨_, _, _, _, _, _⟩) rfl (fun K hK => ?_) AllReadyH.nil
  go_simp
  rw [HMIN.out]
  refine hK.out _ _ ?_ (fun hHeld => ?_)
  · assumption
  clear hK K
  try simp only [Act.put, List.setIfInBounds_toArray, List.set_cons_zero, List.set_cons_succ]
  refine wpAnyH_take (i := 13) (oi := ⟨_, _, _, _, _, _⟩) (v := ?_) rfl (by kernel_rfl) (by kernel_rfl) (by kernel_rfl) (fun _ _ _ h => h) (Or.inl ⟨by rfl, ?_⟩) (by assumption) ?_
  rotate_left
  · intro W hSw; (try dsimp only at hSw); go_simp; try with_reducible rfl
  try simp only [Act.put, List.setIfInBounds_toArray, List.set_cons_zero, List.set_cons_succ]
  refine wpAnyH_take (i := 14) (oi := ⟨_, _, _, _, _, _⟩) (v := ?_) rfl (by kernel_rfl) (by kernel_rfl) (by kernel_rfl) (fun _ _ _ h => h) (Or.inl ⟨by rfl, ?_⟩) (by assumption) ?_
  rotate_left
  · intro W hSw; (try dsimp only at hSw); go_simp; try with_reducible rfl
  try simp only [Act.put, List.setIfInBounds_toArray, List.set_cons_zero, List.set_cons_succ]
  refine wpAnyH_done (by kernel_rfl) ?_ _
  clear hHeld
  go_wp2_with fail
  have hk1 : Keep0 w w.drew.drew := hk0.drew'
  have hkS : ∀ W, Keep0 w W → (W.cell? ⟨G, 1, none⟩ = some (.int .i64 x.half) ∧ W.cell? ⟨G, 3, none⟩ = some (.int .i64 x.stop)) := fun W hW => ⟨hW.cell_some hc1 fun hb => hb, hW.cell_some hc3 fun hb => hb⟩
  refine wp_region_held_drew (S := fun W => W.cell? ⟨G, 1, none⟩ = some (.int .i64 x.half) ∧ W.cell? ⟨G, 3, none⟩ = some (.int .i64 x.stop)) (by kernel_rfl) (hkS _ hk1) (fun hHeld => ?_)
  refine wpAnyH_take (i := 0) (oi := ⟨_, _, _, _, _, _⟩) (v := ?_) rfl (by kernel_rfl) (by kernel_rfl) (by kernel_rfl) (fun _ _ _ h => h) (Or.inl ⟨by rfl, ?_⟩) (by assumption) ?_
  rotate_left
  · intro W hSw; (try dsimp only at hSw); go_simp; try with_reducible rfl
  try simp only [Act.put, List.setIfInBounds_toArray, List.set_cons_zero, List.set_cons_succ]
  refine wpAnyH_take (i := 1) (oi := ⟨_, _, _, _, _, _⟩) (v := ?_) rfl (by kernel_rfl) (by kernel_rfl) (by kernel_rfl) (fun _ _ _ h => h) (Or.inl ⟨by rfl, ?_⟩) (by assumption) ?_
  rotate_left
  · intro W hSw; (try dsimp only at hSw); go_simp; try with_reducible rfl
  try simp only [Act.put, List.setIfInBounds_toArray, List.set_cons_zero, List.set_cons_succ]
  refine wpAnyH_take (i := 2) (oi := ⟨_, _, _, _, _, _⟩) (v := ?_) rfl (by kernel_rfl) (by kernel_rfl) (by kernel_rfl) (fun _ _ _ h => h) (Or.inl ⟨by rfl, ?_⟩) (by assumption) ?_
  rotate_left
  · intro W hSw; (try dsimp only at hSw); go_simp; try with_reducible rfl
  try simp only [Act.put, List.setIfInBounds_toArray, List.set_cons_zero, List.set_cons_succ]
  refine wpAnyH_take (i := 3) (oi := ⟨_, _, _, _, _, _⟩) (v := ?_) rfl (by kernel_rfl) (by kernel_rfl) (by kernel_rfl) (fun _ _ _ h => h) (Or.inl ⟨by rfl, ?_⟩) (by assumption) ?_
  rotate_left
  · intro W hSw; (try dsimp only at hSw); go_simp; try with_reducible rfl
  try simp only [Act.put, List.setIfInBounds_toArray, List.set_cons_zero, List.set_cons_succ]
  refine wpAnyH_take (i := 4) (oi := ⟨_, _, _, _, _, _⟩) (v := ?_) rfl (by kernel_rfl) (by kernel_rfl) (by kernel_rfl) (fun _ _ _ h => h) (Or.inl ⟨by rfl, ?_⟩) (by assumption) ?_
  rotate_left
  · intro W hSw; (try dsimp only at hSw); go_simp; try with_reducible rfl
  try simp only [Act.put, List.setIfInBounds_toArray, List.set_cons_zero, List.set_cons_succ]
  refine wpAnyH_take (i := 5) (oi := ⟨_, _, _, _, _, _⟩) (v := ?_) rfl (by kernel_rfl) (by kernel_rfl) (by kernel_rfl) (fun _ _ _ h => h) (Or.inl ⟨by rfl, ?_⟩) (by assumption) ?_
  rotate_left
  · intro W hSw; (try dsimp only at hSw); go_simp; try with_reducible rfl
  try simp only [Act.put, List.setIfInBounds_toArray, List.set_cons_zero, List.set_cons_succ]
  refine wpAnyH_take (i := 6) (oi := ⟨_, _, _, _, _, _⟩) (v := ?_) rfl (by kernel_rfl) (by kernel_rfl) (by kernel_rfl) (fun _ _ _ h => h) (Or.inl ⟨by rfl, ?_⟩) (by assumption) ?_
  rotate_left
  · intro W hSw; (try dsimp only at hSw); go_simp; try with_reducible rfl
  try simp only [Act.put, List.setIfInBounds_toArray, List.set_cons_zero, List.set_cons_succ]
  refine wpAnyH_take (i := 7) (oi := ⟨_, _, _, _, _, _⟩) (v := ?_) rfl (by kernel_rfl) (by kernel_rfl) (by kernel_rfl) (fun _ _ _ h => h) (Or.inl ⟨by rfl, ?_⟩) (by assumption) ?_
  rotate_left
  · intro W hSw; (try dsimp only at hSw); go_simp; try with_reducible rfl
  try simp only [Act.put, List.setIfInBounds_toArray, List.set_cons_zero, List.set_cons_succ]
  refine wpAnyH_take (i := 10) (oi := ⟨_, _, _, _, _, _⟩) (v := ?_) rfl (by kernel_rfl) (by kernel_rfl) (by kernel_rfl) (fun _ _ _ h => h) (Or.inl ⟨by rfl, ?_⟩) (by assumption) ?_
  rotate_left
  · intro W hSw; (try dsimp only at hSw); go_simp; try with_reducible rfl
  try simp only [Act.put, List.setIfInBounds_toArray, List.set_cons_zero, List.set_cons_succ]
  refine wpAnyH_take (i := 11) (oi := ⟨_, _, _, _, _, _⟩) (v := ?_) rfl (by kernel_rfl) (by kernel_rfl) (by kernel_rfl) (fun _ _ _ h => h) (Or.inl ⟨by rfl, ?_⟩) (by assumption) ?_
  rotate_left
  · intro W hSw; (try dsimp only at hSw); go_simp; try with_reducible rfl
  try simp only [Act.put, List.setIfInBounds_toArray, List.set_cons_zero, List.set_cons_succ]
  refine wpAnyH_take (i := 12) (oi := ⟨_, _, _, _, _, _⟩) (v := ?_) rfl (by kernel_rfl) (by kernel_rfl) (by kernel_rfl) (fun _ _ _ h => h) (Or.inl ⟨by rfl, ?_⟩) (by assumption) ?_
  rotate_left
  · intro W hSw; (try dsimp only at hSw); go_simp; try with_reducible rfl
  try simp only [Act.put, List.setIfInBounds_toArray, List.set_cons_zero, List.set_cons_succ]
  refine wpAnyH_take (i := 13) (oi := ⟨_, _, _, _, _, _⟩) (v := ?_) rfl (by kernel_rfl) (by kernel_rfl) (by kernel_rfl) (fun _ _ _ h => h) (Or.inl ⟨by rfl, ?_⟩) (by assumption) ?_
  rotate_left
  · intro W hSw; (try dsimp only at hSw); go_simp; try with_reducible rfl
  try simp only [Act.put, List.setIfInBounds_toArray, List.set_cons_zero, List.set_cons_succ]
  refine wpAnyH_take (i := 14) (oi := ⟨_, _, _, _, _, _⟩) (v := ?_) rfl (by kernel_rfl) (by kernel_rfl) (by kernel_rfl) (fun _ _ _ h => h) (Or.inl ⟨by rfl, ?_⟩) (by assumption) ?_
  rotate_left
  · intro W hSw; (try dsimp only at hSw); go_simp; try with_reducible rfl
  try simp only [Act.put, List.setIfInBounds_toArray, List.set_cons_zero, List.set_cons_succ]
  refine wpAnyH_take (i := 15) (oi := ⟨_, _, _, _, _, _⟩) (v := ?_) rfl (by kernel_rfl) (by kernel_rfl) (by kernel_rfl) (fun _ _ _ h => h) (Or.inl ⟨by rfl, ?_⟩) (by assumption) ?_
  rotate_left
  · intro W hSw; (try dsimp only at hSw); go_simp; try with_reducible rfl
  try simp only [Act.put, List.setIfInBounds_toArray, List.set_cons_zero, List.set_cons_succ]
  refine wpAnyH_take (i := 16) (oi := ⟨_, _, _, _, _, _⟩) (v := ?_) rfl (by kernel_rfl) (by kernel_rfl) (by kernel_rfl) (fun _ _ _ h => h) (Or.inl ⟨by rfl, ?_⟩) (by assumption) ?_
  rotate_left
  · intro W hSw; (try dsimp only at hSw); go_simp; try with_reducible rfl
  try simp only [Act.put, List.setIfInBounds_toArray, List.set_cons_zero, List.set_cons_succ]
  refine wpAnyH_take (i := 17) (oi := ⟨_, _, _, _, _, _⟩) (v := ?_) rfl (by kernel_rfl) (by kernel_rfl) (by kernel_rfl) (fun _ _ _ h => h) (Or.inl ⟨by rfl, ?_⟩) (by assumption) ?_
  rotate_left
  · intro W hSw; (try dsimp only at hSw); go_simp; try with_reducible rfl
  try simp only [Act.put, List.setIfInBounds_toArray, List.set_cons_zero, List.set_cons_succ]
  refine wpAnyH_take (i := 18) (oi := ⟨_, _, _, _, _, _⟩) (v := ?_) rfl (by kernel_rfl) (by kernel_rfl) (by kernel_rfl) (fun _ _ _ h => h) (Or.inl ⟨by rfl, ?_⟩) (by assumption) ?_
  rotate_left
  · intro W hSw; (try dsimp only at hSw); go_simp; try with_reducible rfl
  try simp only [Act.put, List.setIfInBounds_toArray, List.set_cons_zero, List.set_cons_succ]
  refine wpAnyH_take (i := 19) (oi := ⟨_, _, _, _, _, _⟩) (v := ?_) rfl (by kernel_rfl) (by kernel_rfl) (by kernel_rfl) (fun _ _ _ h => h) (Or.inl ⟨by rfl, ?_⟩) (by assumption) ?_
  rotate_left
  · intro W hSw; (try dsimp only at hSw); go_simp; try with_reducible rfl
  try simp only [Act.put, List.setIfInBounds_toArray, List.set_cons_zero, List.set_cons_succ]
  refine wpAnyH_take (i := 20) (oi := ⟨_, _, _, _, _, _⟩) (v := ?_) rfl (by kernel_rfl) (by kernel_rfl) (by kernel_rfl) (fun _ _ _ h => h) (Or.inl ⟨by rfl, ?_⟩) (by assumption) ?_
  rotate_left
  · intro W hSw; (try dsimp only at hSw); go_simp; try with_reducible rfl
  try simp only [Act.put, List.setIfInBounds_toArray, List.set_cons_zero, List.set_cons_succ]
  refine wpAnyH_take (i := 22) (oi := ⟨_, _, _, _, _, _⟩) (v := ?_) rfl (by kernel_rfl) (by kernel_rfl) (by kernel_rfl) (fun _ _ _ h => h) (Or.inl ⟨by rfl, ?_⟩) (by assumption) ?_
  rotate_left
  · intro W hSw; (try dsimp only at hSw); go_simp; try with_reducible rfl
  try simp only [Act.put, List.setIfInBounds_toArray, List.set_cons_zero, List.set_cons_succ]
  refine wpAnyH_ready (rs := [8]) (by kernel_rfl) (by simp) ?_
  refine AllReadyH.cons (o := ⟨_, _, _, _, _, _⟩) rfl (fun K hK => ?_) AllReadyH.nil
  go_simp
  refine (logSize_any (HD.out.keep0 hk1) (HG.out.keep0 hk1)).mono ?_
  rintro e w2 ⟨rfl, rfl⟩
  rw [← HZ.out]
  refine hK.out _ _ ?_ (fun hHeld => ?_)
  · assumption
  clear hK K
  try simp only [Act.put, List.setIfInBounds_toArray, List.set_cons_zero, List.set_cons_succ]
  refine wpAnyH_ready (rs := [9]) (by kernel_rfl) (by simp) ?_
  refine AllReadyH.cons (o := ⟨_, _, _, _, _, _⟩) rfl (fun K hK => ?_) AllReadyH.nil
  go_simp
  refine (mkzeroes_any G x.half q (z - q) z (by omega) (by omega) (by omega) _).mono ?_
  rintro e w2 ⟨rfl, hb2, hz2, hk2, hs2⟩
  have HB2 := Lib.hid hb2
  have HZ2 := Lib.hid hz2
  have HKa := Lib.hid hk2
  have HK2 := Lib.hid (hk1.and0 hk2)
  have HS2 := Lib.hid hs2
  refine hK.out _ _ ?_ (fun hHeld => ?_)
  · exact hkS _ HK2.out
  clear hK K
  try simp only [Act.put, List.setIfInBounds_toArray, List.set_cons_zero, List.set_cons_succ]
  refine wpAnyH_ready (rs := [21]) (by kernel_rfl) (by simp) ?_
  refine AllReadyH.cons (o := ⟨_, _, _, _, _, _⟩) rfl (fun K hK => ?_) AllReadyH.nil
  go_simp
  refine (mkzeroes_any G x.half x.stop (q - x.stop) q (by omega) (by omega) (by omega) _).mono ?_
  rintro e w3 ⟨rfl, hb3, hz3, hk3, hs3⟩
  have HB3 := Lib.hid hb3
  have HZ3 := Lib.hid hz3
  have HKb := Lib.hid hk3
  have HK3 := Lib.hid (HK2.out.and0 hk3)
  have HS3 := Lib.hid hs3
  clear hb2 hz2 hk2 hs2 hb3 hz3 hk3 hs3
  simp only [wstp, Stp.val]
  refine hK.out _ _ ?_ (fun hHeld => ?_)
  · exact hkS _ HK3.out
  clear hK K
  try simp only [Act.put, List.setIfInBounds_toArray, List.set_cons_zero, List.set_cons_succ]
  refine wpAnyH_ready (rs := [23]) (by kernel_rfl) (by simp) ?_
  refine AllReadyH.cons (o := ⟨_, _, _, _, _, _⟩) rfl (fun K hK => ?_) AllReadyH.nil
  go_simp
  refine hK.out _ _ ?_ (fun hHeld => ?_)
  · exact hkS _ (HK3.out.alloc' _)
  clear hK K
  try simp only [Act.put, List.setIfInBounds_toArray, List.set_cons_zero, List.set_cons_succ]
  refine wpAnyH_ready (rs := [24]) (by kernel_rfl) (by simp) ?_
  refine AllReadyH.cons (o := ⟨_, _, _, _, _, _⟩) rfl (fun K hK => ?_) AllReadyH.nil
  go_simp
  obtain ⟨ps, hps⟩ : ∃ ps : List Stp, ps = [wstp (w.heap.size + 1), sstp D, wstp (w2.heap.size + 1), sstp D] := ⟨_, rfl⟩
  have hrow := steps_row w3 ps #[(wstp (w.heap.size + 1)).val, (sstp D).val, (wstp (w2.heap.size + 1)).val, (sstp D).val] 39 (by rw [hps]; rfl)
  simp only [wstp, sstp, Stp.val] at hrow
  obtain ⟨w4, hw4⟩ : ∃ w4, w4 = w3.alloc (.cells #[(wstp (w.heap.size + 1)).val, (sstp D).val, (wstp (w2.heap.size + 1)).val, (sstp D).val] 39) := ⟨_, rfl⟩
  simp only [wstp, sstp, Stp.val] at hw4
  rw [← hw4] at hrow ⊢
  have q4 : Keep0 w3 w4 := by rw [hw4]; exact Keep.alloc _ _
  have hs4 : w4.heap.size = w3.heap.size + 1 := by rw [hw4]; simp
  have hk4 : Keep0 w w4 := HK3.out.and0 q4
  have hzip : Zip (StpIs w4 (fun b => FD b ∨ w4.heap.size ≤ b) G D z) ps (clearOps z x.half x.stop q) := by
    have e2 := HS2.out; have e3 := HS3.out
    have e0 : w.drew.drew.heap.size = w.heap.size := rfl
    rw [e0] at e2
    have q3 := HKb.out.and0 q4
    have hlt : ∀ b, FD b → b < w.heap.size := fun b hb => (hFDF b hb).2
    rw [hps]
    exact ⟨stpis_mk hlt (HB2.out.keep0 q3) hxh (by omega) (HZ2.out.keep0 q3) (fun b hb => by rw [e0] at hb; omega) (by omega) (by omega), rfl,
      stpis_mk hlt (HB3.out.keep0 q4) hxh (by omega) (HZ3.out.keep0 q4) (fun b hb => by omega) (by omega) (by omega), rfl, trivial⟩
  have hplen : ps.length = 4 := by rw [hps]; rfl
  have hcl : (clearOps z x.half x.stop q).length = 4 := rfl
  refine (steps_dsk (F := FD) (D := D) (G := G) (z := z) ps (clearOps z x.half x.stop q) w3.heap.size 0 4 4 hplen.symm (by rw [hplen]; omega) (by rw [hcl]; omega) HZ.out.symm hrow
    (fun hx => by have := (hFDF _ hx).2; have := HK3.out.size; omega) (by omega) (HD.out.keep0 hk4) (HG.out.keep0 hk4) hFDG hzip).mono ?_
  rintro e w8 ⟨rfl, hd8, hk8, hb8⟩
  rw [hcl] at hd8
  have HD8 := Lib.hid hd8
  have HK8 := Lib.hid hk8
  have HB8 := Lib.hid hb8
  have HK4 := Lib.hid hk4
  clear hw4 q4 hs4 hzip hplen hcl hrow hps
  refine hK.out _ _ ?_ (fun hHeld => ?_)
  · exact ⟨hb8.cell 1, hb8.cell 3⟩
  clear hK K
  try simp only [Act.put, List.setIfInBounds_toArray, List.set_cons_zero, List.set_cons_succ]
  refine wpAnyH_take (i := 25) (oi := ⟨_, _, _, _, _, _⟩) (v := ?_) rfl (by kernel_rfl) (by kernel_rfl) (by kernel_rfl) (fun _ _ _ h => h) (Or.inl ⟨by rfl, ?_⟩) (by assumption) ?_
  rotate_left
  · intro W hSw; (try dsimp only at hSw); go_simp; try with_reducible rfl
  try simp only [Act.put, List.setIfInBounds_toArray, List.set_cons_zero, List.set_cons_succ]
  refine wpAnyH_done (by kernel_rfl) ?_ _
  have hk78 : Keep (fun b => FD b ∨ b = G) w w8 := (HK4.out.of0 _).andThen HK8.out
  have hs4 := HK4.out.size
  have hs8 := HK8.out.size
  have hkF : Keep F w w8 := hk78.mono fun b hb hx => by
    rcases hx with hx | hx
    · exact (hFDF b hx).1
    · rw [hx]; exact hGF.1
  have hfin : DL w8 D G (s.steps (clearOps z x.half x.stop q)) (pickL (s.stepsE (clearOps z x.half x.stop q)) x { x with broken := true }) (m + 4) (Ext F w w8) := by
    have hlog : ∀ x' : LSt, x'.half = x.half → x'.turn = x.turn → x'.stop = x.stop → x'.base = x.base → x'.recs = x.recs → x'.broken = (if s.stepsE (clearOps z x.half x.stop q) = 0 then x.broken else true) → LRep w8 G D x' FL := by
      intro x' g1 g2 g3 g4 g5 g6
      refine ⟨BA, bn, bc, RA, rn, rc, rows, HL.out.setS hk78 ?_ ?_ g4 g5 (by rw [g1, g2, g3]; exact hbd.2.2)⟩
      · rintro b hb hne (hx | hx)
        · exact hdis b hx hb
        · exact hne hx
      · rw [g1, g2, g3, g6]
        exact HB8.out
    refine DL.mono (F := fun b => F b ∨ w.heap.size ≤ b) ⟨Ext FD w4 w8, FL, HD8.out, ?_, ?_, ?_, ?_⟩ ?_
    · by_cases h0 : s.stepsE (clearOps z x.half x.stop q) = 0
      · rw [h0, pickL_0]
        exact hlog _ rfl rfl rfl rfl rfl (by rw [if_pos h0])
      · rw [pickL_ne h0]
        exact hlog _ rfl rfl rfl rfl rfl (by rw [if_neg h0])
    · rintro b (hb | hb) hx
      · exact hdis b hb hx
      · have := (hFLF b hx).2; omega
    · rintro b (hb | hb)
      · exact .inl (hFDF b hb).1
      · right; omega
    · intro b hb; exact .inl (hFLF b hb).1
    · intro b hb hx
      rcases hx with hx | hx
      · exact .inl hx
      · exact .inr ⟨hx, hb⟩
  have HKF := Lib.hid hkF
  have HFIN := Lib.hid hfin
  clear hk78 hkF hfin
  go_wp2_with fail
  go_ret
  exact ⟨rfl, HKF.out, HFIN.out⟩
end
end Go.Proofs.Ytbdencfgiemliaa
