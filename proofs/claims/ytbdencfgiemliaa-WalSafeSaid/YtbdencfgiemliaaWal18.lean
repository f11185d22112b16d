/-
  Compact: refused for what keeps the base from being a frame; else what compact does, in the other half, with the next turn. Conditions: the disk and the log lie in memory apart, the base apart from both, a disk of 48 bytes or more, a turn of 0 to 2^32.
-/
import Derived.Test.YtbdencfgiemliaaWal17
namespace Go.Proofs.Ytbdencfgiemliaa
open Go.RowKit
set_option linter.unusedVariables false
set_option linter.unusedSimpArgs false
section
variable {X F : Nat → Prop} {w : World} {D G m : Nat} {s : DSt} {x : LSt}
set_option maxRecDepth 20000
set_option maxHeartbeats 2000000
theorem DL.keep0 {w' : World} (h : DL w D G s x m F) (hk : Keep0 w w') : DL w' D G s x m F := h.keep hk fun _ _ hb => hb
theorem compactM_no (A : Option Addr) (n c : Nat) (hn : n ≤ 1073741824) (h48 : 48 ≤ s.kept.length) (hno : x.may n (((s.kept.length / 2 : Nat) : Int) - 5) ≠ 0) (hdsk : Dsk w D s m X) (hd : LRep w G D x F) :
    Calls Try.prog 44 #[.pointer (some ⟨G, 0, none⟩), .slice A n c] w fun e w' => e = .returned (.int .i64 (x.may n (((s.kept.length / 2 : Nat) : Int) - 5))) ∧ Keep0 w w' := by
  obtain ⟨BA, bn, bc, RA, rn, rc, rows, hlog⟩ := hd
  have hlen := hdsk.ok.size
  have HD := Lib.hid hdsk
  have HG := Lib.hid hlog.blk
  obtain ⟨z, hz⟩ : ∃ z, z = s.kept.length / 2 := ⟨_, rfl⟩
  have hz6 : z ≤ 32768 := by omega
  have HZ := Lib.hid hz
  rw [← hz] at hno ⊢
  obtain ⟨E, hE⟩ : ∃ E, E = x.may n ((z : Int) - 5) := ⟨_, rfl⟩
  have HE := Lib.hid hE
  rw [← hE] at hno ⊢
  have jb1 : (E == 0) = false := by simpa using hno
  have jb2 : (E != 0) = true := by simpa using hno
  clear hdsk hlog hz hE hno hlen h48
  go_enter Try.func44, Try.ntmps44
  go_wp2_with fail
  refine (logSize_any HD.out HG.out).mono ?_
  rintro e w1 ⟨rfl, rfl⟩
  rw [← HZ.out]
  go_wp2_with fail
  refine (may_any A n c ((z : Int) - 5) hn HG.out).mono ?_
  rintro e w2 ⟨rfl, rfl⟩
  have he : (if x.broken = true then 15 else if 8192 < n then 1 else if (z : Int) - 5 < (n : Int) + 5 then 2 else 0) = E := HE.out.symm
  rw [he]
  clear he
  go_wp2_with fail
  go_ret
  exact ⟨rfl, Keep.refl _ _⟩
theorem compactM_any (l : List UInt8) (A : Option Addr) (n c : Nat) (hsl : Sl w X A n c l) (hn : n ≤ 8192) (hm : m + 8 ≤ 1073741824) (h48 : 48 ≤ s.kept.length) (ht : 0 ≤ x.turn ∧ x.turn ≤ 4294967296) (hroom : n + 10 ≤ s.kept.length / 2) (hbr : x.broken = false) (hd : DL w D G s x m F) (hXF : ∀ b, X b → ¬ F b) :
    Calls Try.prog 44 #[.pointer (some ⟨G, 0, none⟩), .slice A n c] w fun e w' => e = .returned (.int .i64 (s.stepsE (compactOps (s.kept.length / 2) (1 - x.half) (x.turn.toNat + 1) l))) ∧ Keep F w w' ∧
      DL w' D G (s.steps (compactOps (s.kept.length / 2) (1 - x.half) (x.turn.toNat + 1) l)) (pickL (s.stepsE (compactOps (s.kept.length / 2) (1 - x.half) (x.turn.toNat + 1) l)) ⟨1 - x.half, ((x.turn.toNat + 1 : Nat) : Int), n + 10, l, [], x.broken⟩ { x with broken := true }) (m + 8) (Ext F w w') := by
  obtain ⟨FD, BA, bn, bc, RA, rn, rc, rows, hdsk, hlog⟩ := hd.log
  have hlen := hdsk.ok.size
  have hbd := hlog.bd
  have hc1 := (log_cells hlog.blk).2.1
  have hc2 := (log_cells hlog.blk).2.2.1
  have HDK := Lib.hid hdsk
  have HG := Lib.hid hlog.blk
  have HD := Lib.hid hd
  have HSL := Lib.hid hsl
  obtain ⟨z, hz⟩ : ∃ z, z = s.kept.length / 2 := ⟨_, rfl⟩
  have hz6 : z ≤ 32768 := by omega
  have HZ := Lib.hid hz
  have hroom' : n + 10 ≤ z := by omega
  have hmay : (if x.broken = true then 15 else if 8192 < n then 1 else if (z : Int) - 5 < (n : Int) + 5 then 2 else 0) = (0 : Int) := by
    rw [hbr, if_neg (by decide), if_neg (by omega), if_neg (by omega)]
  have HMAY := Lib.hid hmay
  have hxh := hbd.2.2.1
  obtain ⟨h2, hh2⟩ : ∃ h2, h2 = 1 - x.half := ⟨_, rfl⟩
  obtain ⟨t2, ht2⟩ : ∃ t2, t2 = x.turn.toNat + 1 := ⟨_, rfl⟩
  have hw1 : IntKind.i64.wrap (1 - (x.half : Int)) = (h2 : Int) := by rw [IntKind.wrap_i64]; omega
  have hw2 : IntKind.i64.wrap (x.turn + 1) = (t2 : Int) := by rw [IntKind.wrap_i64]; omega
  have hh2' : h2 ≤ 1 := by omega
  have ht2' : t2 ≤ 4294967297 := by omega
  rw [← hh2, ← ht2]
  have HW1 := Lib.hid hw1
  have HW2 := Lib.hid hw2
  obtain ⟨E, hE⟩ : ∃ E, E = s.stepsE (compactOps (s.kept.length / 2) h2 t2 l) := ⟨_, rfl⟩
  have HE := Lib.hid hE
  have hk0 : Keep0 w w.drew := Keep.drew w
  clear hdsk hlog hd hz hmay hw1 hw2 hh2 ht2 hE hsl hroom hroom' hbr hlen
  go_enter Try.func44, Try.ntmps44
  go_wp2_with fail
  refine (logSize_any HDK.out HG.out).mono ?_
  rintro e w1 ⟨rfl, rfl⟩
  rw [← HZ.out]
  go_wp2_with fail
  refine (may_any A n c ((z : Int) - 5) (by omega) HG.out).mono ?_
  rintro e w2 ⟨rfl, rfl⟩
  rw [HMAY.out]
  go_wp2_with fail
  refine wp_region_held_drew (S := fun _ => True) (by kernel_rfl) trivial (fun hHeld => ?_)
  refine wpAnyH_take (i := 0) (oi := ⟨_, _, _, _, _, _⟩) (v := ?_) rfl (by kernel_rfl) (by kernel_rfl) (by kernel_rfl) (fun _ _ _ h => h) (Or.inl ⟨by rfl, ?_⟩) (by assumption) ?_
  rotate_left
  · intro W hSw; (try dsimp only at hSw); go_simp; try with_reducible rfl
  try simp only [Act.put, List.setIfInBounds_toArray, List.set_cons_zero, List.set_cons_succ]
  refine wpAnyH_take (i := 1) (oi := ⟨_, _, _, _, _, _⟩) (v := ?_) rfl (by kernel_rfl) (by kernel_rfl) (by kernel_rfl) (fun _ _ _ h => h) (Or.inl ⟨by rfl, ?_⟩) (by assumption) ?_
  rotate_left
  · intro W hSw; (try dsimp only at hSw); go_simp; try with_reducible rfl
  try simp only [Act.put, List.setIfInBounds_toArray, List.set_cons_zero, List.set_cons_succ]
  refine wpAnyH_take (i := 2) (oi := ⟨_, _, _, _, _, _⟩) (v := ?_) rfl (by kernel_rfl) (by kernel_rfl) (by kernel_rfl) (fun _ _ _ h => h) (Or.inl ⟨by rfl, ?_⟩) (by assumption) ?_
  rotate_left
  · intro W hSw; (try dsimp only at hSw); go_simp; try with_reducible rfl
  try simp only [Act.put, List.setIfInBounds_toArray, List.set_cons_zero, List.set_cons_succ]
  refine wpAnyH_take (i := 3) (oi := ⟨_, _, _, _, _, _⟩) (v := ?_) rfl (by kernel_rfl) (by kernel_rfl) (by kernel_rfl) (fun _ _ _ h => h) (Or.inl ⟨by rfl, ?_⟩) (by assumption) ?_
  rotate_left
  · intro W hSw; (try dsimp only at hSw); go_simp; try with_reducible rfl
  try simp only [Act.put, List.setIfInBounds_toArray, List.set_cons_zero, List.set_cons_succ]
  refine wpAnyH_take (i := 6) (oi := ⟨_, _, _, _, _, _⟩) (v := ?_) rfl (by kernel_rfl) (by kernel_rfl) (by kernel_rfl) (fun _ _ _ h => h) (Or.inl ⟨by rfl, ?_⟩) (by assumption) ?_
  rotate_left
  · intro W hSw; (try dsimp only at hSw); go_simp; try with_reducible rfl
  try simp only [Act.put, List.setIfInBounds_toArray, List.set_cons_zero, List.set_cons_succ]
  refine wpAnyH_take (i := 7) (oi := ⟨_, _, _, _, _, _⟩) (v := ?_) rfl (by kernel_rfl) (by kernel_rfl) (by kernel_rfl) (fun _ _ _ h => h) (Or.inl ⟨by rfl, ?_⟩) (by assumption) ?_
  rotate_left
  · intro W hSw; (try dsimp only at hSw); go_simp; try with_reducible rfl
  try simp only [Act.put, List.setIfInBounds_toArray, List.set_cons_zero, List.set_cons_succ]
  refine wpAnyH_take (i := 8) (oi := ⟨_, _, _, _, _, _⟩) (v := ?_) rfl (by kernel_rfl) (by kernel_rfl) (by kernel_rfl) (fun _ _ _ h => h) (Or.inl ⟨by rfl, ?_⟩) (by assumption) ?_
  rotate_left
  · intro W hSw; (try dsimp only at hSw); go_simp; try with_reducible rfl
  try simp only [Act.put, List.setIfInBounds_toArray, List.set_cons_zero, List.set_cons_succ]
  refine wpAnyH_take (i := 11) (oi := ⟨_, _, _, _, _, _⟩) (v := ?_) rfl (by kernel_rfl) (by kernel_rfl) (by kernel_rfl) (fun _ _ _ h => h) (Or.inl ⟨by rfl, ?_⟩) (by assumption) ?_
  rotate_left
  · intro W hSw; (try dsimp only at hSw); go_simp; try with_reducible rfl
  try simp only [Act.put, List.setIfInBounds_toArray, List.set_cons_zero, List.set_cons_succ]
  refine wpAnyH_ready (rs := [4, 9]) (by kernel_rfl) (by simp) ?_
  refine AllReadyH.cons (o := ⟨_, _, _, _, _, _⟩) rfl (fun K1 hK1 => ?_) (AllReadyH.cons (o := ⟨_, _, _, _, _, _⟩) rfl (fun K1 hK1 => ?_) AllReadyH.nil)
  · go_simp
    refine hK1.out _ _ trivial (fun hHeld2 => ?_)
    clear hK1 K1
    try simp only [Act.put, List.setIfInBounds_toArray, List.set_cons_zero, List.set_cons_succ]
    refine wpAnyH_take (i := 5) (oi := ⟨_, _, _, _, _, _⟩) (v := ?_) rfl (by kernel_rfl) (by kernel_rfl) (by kernel_rfl) (fun _ _ _ h => h) (Or.inl ⟨by rfl, ?_⟩) (by assumption) ?_
    rotate_left
    · intro W hSw; (try dsimp only at hSw); go_simp; try with_reducible rfl
    try simp only [Act.put, List.setIfInBounds_toArray, List.set_cons_zero, List.set_cons_succ]
    refine wpAnyH_ready (rs := [9]) (by kernel_rfl) (by simp) ?_
    refine AllReadyH.cons (o := ⟨_, _, _, _, _, _⟩) rfl (fun K hK => ?_) AllReadyH.nil
    go_simp
    refine hK.out _ _ ?_ (fun hHeld => ?_)
    · trivial
    clear hK K
    try simp only [Act.put, List.setIfInBounds_toArray, List.set_cons_zero, List.set_cons_succ]
    refine wpAnyH_take (i := 10) (oi := ⟨_, _, _, _, _, _⟩) (v := ?_) rfl (by kernel_rfl) (by kernel_rfl) (by kernel_rfl) (fun _ _ _ h => h) (Or.inl ⟨by rfl, ?_⟩) (by assumption) ?_
    rotate_left
    · intro W hSw; (try dsimp only at hSw); go_simp; try with_reducible rfl
    try simp only [Act.put, List.setIfInBounds_toArray, List.set_cons_zero, List.set_cons_succ]
    refine wpAnyH_ready (rs := [12]) (by kernel_rfl) (by simp) ?_
    refine AllReadyH.cons (o := ⟨_, _, _, _, _, _⟩) rfl (fun K hK => ?_) AllReadyH.nil
    go_simp
    rw [HW1.out, HW2.out]
    refine (compact_any (X := X) h2 t2 (by omega) (by omega) l A n c (HSL.out.keep0 hk0) hn hm h48 (HD.out.keep0 hk0) hXF).mono ?_
    rintro e w3 ⟨rfl, hk3, hd3⟩
    rw [← HE.out] at hd3 ⊢
    have HK3 := Lib.hid hk3
    have HD3 := Lib.hid hd3
    refine hK.out _ _ ?_ (fun hHeld => ?_)
    · trivial
    clear hK K
    try simp only [Act.put, List.setIfInBounds_toArray, List.set_cons_zero, List.set_cons_succ]
    refine wpAnyH_take (i := 13) (oi := ⟨_, _, _, _, _, _⟩) (v := ?_) rfl (by kernel_rfl) (by kernel_rfl) (by kernel_rfl) (fun _ _ _ h => h) (Or.inl ⟨by rfl, ?_⟩) (by assumption) ?_
    rotate_left
    · intro W hSw; (try dsimp only at hSw); go_simp; try with_reducible rfl
    try simp only [Act.put, List.setIfInBounds_toArray, List.set_cons_zero, List.set_cons_succ]
    refine wpAnyH_done (by kernel_rfl) ?_ _
    go_wp2_with fail
    go_ret
    refine ⟨ret_i HE.out, (hk0.of0 F).andThen HK3.out, ?_⟩
    have hs1 := hk0.size
    rw [← HE.out]
    refine HD3.out.mono fun b hb hx => ?_
    rcases hx with hx | hx
    · exact .inl hx
    · exact .inr ⟨by omega, hx.2⟩
  · go_simp
    refine hK1.out _ _ trivial (fun hHeld2 => ?_)
    clear hK1 K1
    try simp only [Act.put, List.setIfInBounds_toArray, List.set_cons_zero, List.set_cons_succ]
    refine wpAnyH_take (i := 10) (oi := ⟨_, _, _, _, _, _⟩) (v := ?_) rfl (by kernel_rfl) (by kernel_rfl) (by kernel_rfl) (fun _ _ _ h => h) (Or.inl ⟨by rfl, ?_⟩) (by assumption) ?_
    rotate_left
    · intro W hSw; (try dsimp only at hSw); go_simp; try with_reducible rfl
    try simp only [Act.put, List.setIfInBounds_toArray, List.set_cons_zero, List.set_cons_succ]
    refine wpAnyH_ready (rs := [4]) (by kernel_rfl) (by simp) ?_
    refine AllReadyH.cons (o := ⟨_, _, _, _, _, _⟩) rfl (fun K hK => ?_) AllReadyH.nil
    go_simp
    refine hK.out _ _ ?_ (fun hHeld => ?_)
    · trivial
    clear hK K
    try simp only [Act.put, List.setIfInBounds_toArray, List.set_cons_zero, List.set_cons_succ]
    refine wpAnyH_take (i := 5) (oi := ⟨_, _, _, _, _, _⟩) (v := ?_) rfl (by kernel_rfl) (by kernel_rfl) (by kernel_rfl) (fun _ _ _ h => h) (Or.inl ⟨by rfl, ?_⟩) (by assumption) ?_
    rotate_left
    · intro W hSw; (try dsimp only at hSw); go_simp; try with_reducible rfl
    try simp only [Act.put, List.setIfInBounds_toArray, List.set_cons_zero, List.set_cons_succ]
    refine wpAnyH_ready (rs := [12]) (by kernel_rfl) (by simp) ?_
    refine AllReadyH.cons (o := ⟨_, _, _, _, _, _⟩) rfl (fun K hK => ?_) AllReadyH.nil
    go_simp
    rw [HW1.out, HW2.out]
    refine (compact_any (X := X) h2 t2 (by omega) (by omega) l A n c (HSL.out.keep0 hk0) hn hm h48 (HD.out.keep0 hk0) hXF).mono ?_
    rintro e w3 ⟨rfl, hk3, hd3⟩
    rw [← HE.out] at hd3 ⊢
    have HK3 := Lib.hid hk3
    have HD3 := Lib.hid hd3
    refine hK.out _ _ ?_ (fun hHeld => ?_)
    · trivial
    clear hK K
    try simp only [Act.put, List.setIfInBounds_toArray, List.set_cons_zero, List.set_cons_succ]
    refine wpAnyH_take (i := 13) (oi := ⟨_, _, _, _, _, _⟩) (v := ?_) rfl (by kernel_rfl) (by kernel_rfl) (by kernel_rfl) (fun _ _ _ h => h) (Or.inl ⟨by rfl, ?_⟩) (by assumption) ?_
    rotate_left
    · intro W hSw; (try dsimp only at hSw); go_simp; try with_reducible rfl
    try simp only [Act.put, List.setIfInBounds_toArray, List.set_cons_zero, List.set_cons_succ]
    refine wpAnyH_done (by kernel_rfl) ?_ _
    go_wp2_with fail
    go_ret
    refine ⟨ret_i HE.out, (hk0.of0 F).andThen HK3.out, ?_⟩
    have hs1 := hk0.size
    rw [← HE.out]
    refine HD3.out.mono fun b hb hx => ?_
    rcases hx with hx | hx
    · exact .inl hx
    · exact .inr ⟨by omega, hx.2⟩
end
end Go.Proofs.Ytbdencfgiemliaa
