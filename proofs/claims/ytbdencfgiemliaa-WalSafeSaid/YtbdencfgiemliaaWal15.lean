/-
  The log's find: which half is in use, and what it reads of it. Conditions: the disk and the log's new block lie apart, a disk of 48 bytes or more.
-/
import Derived.Test.YtbdencfgiemliaaWal14
namespace Go.Proofs.Ytbdencfgiemliaa
open Go.RowKit
set_option linter.unusedVariables false
set_option linter.unusedSimpArgs false
/-- What stands in a half. -/
def DSt.halfB (s : DSt) (k : Nat) : List UInt8 := s.read (k * (s.kept.length / 2)) (s.kept.length / 2)
/-- The half in use, its turn, its bytes, among the first k halves; -1: none. -/
def DSt.findK (s : DSt) : Nat → Nat × Int × Option (List UInt8)
  | 0 => (0, -1, none)
  | k + 1 => if (s.findK k).2.1 < turnOf (s.halfB k) then (k, turnOf (s.halfB k), some (s.halfB k)) else s.findK k
theorem turnOf_ge (l : List UInt8) : -1 ≤ turnOf l ∧ turnOf l < 4294967296 := by
  unfold turnOf
  split
  · have := spell_lt (l.take 4)
    have h4 : 256 ^ (l.take 4).length ≤ 256 ^ 4 := Nat.pow_le_pow_right (by omega) (by rw [List.length_take]; omega)
    have : (256 : Nat) ^ 4 = 4294967296 := rfl
    omega
  · omega
theorem DSt.findK_ge (s : DSt) (k : Nat) : -1 ≤ (s.findK k).2.1 ∧ (s.findK k).2.1 < 4294967296 ∧ (s.findK k).1 ≤ k - 1 := by
  induction k with
  | zero => exact ⟨show (-1 : Int) ≤ -1 by omega, show (-1 : Int) < 4294967296 by omega, Nat.le_refl _⟩
  | succ k ih =>
    unfold DSt.findK
    split
    · have := turnOf_ge (s.halfB k)
      refine ⟨?_, ?_, ?_⟩ <;> simp only <;> omega
    · exact ⟨ih.1, ih.2.1, by omega⟩
theorem DSt.findK_some (s : DSt) (k : Nat) (b : List UInt8) (h : (s.findK k).2.2 = some b) : 0 ≤ (s.findK k).2.1 := by
  induction k with
  | zero => cases h
  | succ k ih =>
    unfold DSt.findK at h ⊢
    split at h
    · rename_i hlt
      rw [if_pos hlt]
      have := (s.findK_ge k).1
      simp only
      omega
    · rename_i hlt
      rw [if_neg hlt]
      exact ih h
theorem DSt.findK_none (s : DSt) (k : Nat) (h : (s.findK k).2.2 = none) : (s.findK k).1 = 0 ∧ (s.findK k).2.1 = -1 := by
  induction k with
  | zero => exact ⟨rfl, rfl⟩
  | succ k ih =>
    unfold DSt.findK at h ⊢
    split at h
    · cases h
    · rename_i hlt
      rw [if_neg hlt]
      exact ih h
section
variable {X F : Nat → Prop} {w : World} {D G m : Nat} {s : DSt} {x : LSt}
set_option maxRecDepth 20000
set_option maxHeartbeats 2000000
/-- What find hands back and leaves. -/
def Found (w : World) (D G : Nat) (s : DSt) (e : Ending) (w' : World) : Prop :=
  (s.down = true ∧ e = .returned (.tuple #[.bool false, .bool false, .int .i64 15])) ∨
  (s.down = false ∧ (s.findK 2).2.2 = none ∧ e = .returned (.tuple #[.bool false, .bool false, .int .i64 0]) ∧ Blk w' G 86 (logCells D 0 (-1) 0 (.slice none 0 0) (.slice none 0 0) false)) ∨
  (s.down = false ∧ ∃ b, (s.findK 2).2.2 = some b ∧ e = .returned (.tuple #[.bool true, .bool ((framesOf b).2.any fun x => x != 0), .int .i64 0]) ∧
    LRep w' G D ⟨(s.findK 2).1, (s.findK 2).2.1, s.kept.length / 2 - (framesOf b).2.length, (framesOf b).1.headD [], (framesOf b).1.tail, false⟩ (fun q => q = G ∨ w.heap.size ≤ q))
theorem find_any (hm : m ≤ 1073741824) (h48 : 48 ≤ s.kept.length) (hd : Dsk w D s m F) (hG : Blk w G 86 (logCells D 0 0 0 (.slice none 0 0) (.slice none 0 0) false)) (hFG : ¬ F G) :
    Calls Try.prog 60 #[.pointer (some ⟨G, 0, none⟩)] w fun e w' => Found w D G s e w' ∧ Keep (fun b => b = G) w w' := by
  have hlen := hd.ok.size
  obtain ⟨z, hz⟩ : ∃ z, z = s.kept.length / 2 := ⟨_, rfl⟩
  have hz5 : 24 ≤ z := by omega
  have hz6 : z ≤ 32768 := by omega
  have hfz := hG.frozen
  have hc2 := (log_cells hG).2.2.1
  have hFDne : ∀ b, F b → ¬ (b = G) := fun b hb e => hFG (by rw [← e]; exact hb)
  have HG0 := Lib.hid hG
  have HD := Lib.hid hd
  have HZ := Lib.hid hz
  have hGlt := hG.lt
  clear hd hz h48 hlen hG
  go_enter Try.func60, Try.ntmps60
  go_wp2_with fail
  have hb1 := HG0.out.set_ 2 (.int .i64 (-1))
  have hk1 : Keep (fun b => b = G) w (w.setCell ⟨G, 2, none⟩ (.int .i64 (-1))) := Keep.setCell (S := fun b => b = G) w ⟨G, 2, none⟩ _ rfl
  obtain ⟨w1, hw1⟩ : ∃ w1, w1 = w.setCell ⟨G, 2, none⟩ (.int .i64 (-1)) := ⟨_, rfl⟩
  rw [← hw1] at hb1 hk1 ⊢
  have HB1 := Lib.hid hb1
  have HK1 := Lib.hid hk1
  clear hw1 hb1 hk1 hc2 hfz
  go_loopw [5, 13] (fun us i wr => ∃ (k : Nat) (UA : Option Addr) (un uc : Nat), k ≤ 2 ∧ i = .int .i64 k ∧ us = .slice UA un uc ∧ (0 < k → s.down = false) ∧
      Hid (Blk wr G 86 (logCells D (s.findK k).1 (s.findK k).2.1 0 (.slice none 0 0) (.slice none 0 0) false) ∧ Keep (fun b => b = G) w wr ∧
        (((s.findK k).2.2 = none ∧ UA = none ∧ un = 0 ∧ uc = 0) ∨ ∃ b, (s.findK k).2.2 = some b ∧ Sl wr (fun q => w.heap.size ≤ q) UA un uc b ∧ un = z))) (fun _ i _ => 2 - (intOf i).toNat)
  case atStart => exact ⟨0, none, 0, 0, by omega, rfl, rfl, fun h => by omega, HB1.out, HK1.out, .inl ⟨rfl, rfl, rfl, rfl⟩⟩
  case round =>
    obtain ⟨k, UA, un, uc, hk2, rfl, rfl, hup, HI⟩ := hrel
    by_cases hlt : k < 2
    · obtain ⟨kz, hkz⟩ : ∃ kz, kz = k * z := ⟨_, rfl⟩
      have hkzb : kz ≤ 32768 := by
        obtain rfl | rfl : k = 0 ∨ k = 1 := by omega
        · omega
        · omega
      have hwr : IntKind.i64.wrap ((k : Int) * (z : Int)) = (kz : Int) := by
        rw [IntKind.wrap_i64, hkz]
        push_cast
        rw [hkz] at hkzb
        have : ((k : Int) * (z : Int)) = ((k * z : Nat) : Int) := by push_cast; rfl
        omega
      have HW := Lib.hid hwr
      have HKZ := Lib.hid hkz
      obtain ⟨hbk, hkk, huse⟩ := HI.out
      obtain ⟨q1, q2, q3, q4, q5, q6, q7, hfz⟩ := log_cells hbk
      have HG := Lib.hid (hbk.keep0 (Keep.drew _))
      have HUSE := Lib.hid huse
      have hk1 : Keep (fun b => b = G) w wr.drew := hkk.drew'
      have HB := Lib.hid hbk
      have HWR := Lib.hid hkk.size
      clear hwr hkz hbk hkk huse HI
      go_wp2_with fail
      · have hc0d : wr.drew.cell? ⟨G, 0, none⟩ = some (.pointer (some ⟨D, 0, none⟩)) := q1
        refine wp_region_held_drew (S := fun W => W.cell? ⟨G, 0, none⟩ = some (.pointer (some ⟨D, 0, none⟩))) (by kernel_rfl) hc0d (fun hHeld => ?_)
        refine wpAnyH_take (i := 0) (oi := ⟨_, _, _, _, _, _⟩) (v := ?_) rfl (by kernel_rfl) (by kernel_rfl) (by kernel_rfl) (fun _ _ _ h => h) (Or.inl ⟨by rfl, ?_⟩) (by assumption) ?_
        rotate_left
        · intro W hSw; (try dsimp only at hSw); go_simp; try with_reducible rfl
        try simp only [Act.put, List.setIfInBounds_toArray, List.set_cons_zero, List.set_cons_succ]
        refine wpAnyH_take (i := 1) (oi := ⟨_, _, _, _, _, _⟩) (v := ?_) rfl (by kernel_rfl) (by kernel_rfl) (by kernel_rfl) (fun _ _ _ h => h) (Or.inl ⟨by rfl, ?_⟩) (by assumption) ?_
        rotate_left
        · intro W hSw; (try dsimp only at hSw); go_simp; try with_reducible rfl
        try simp only [Act.put, List.setIfInBounds_toArray, List.set_cons_zero, List.set_cons_succ]
        refine wpAnyH_take (i := 2) (oi := ⟨_, _, _, _, _, _⟩) (v := ?_) rfl (by kernel_rfl) (by kernel_rfl) (by kernel_rfl) (fun _ _ _ h => h) (Or.inl ⟨by rfl, ?_⟩) (by assumption) ?_
        rotate_left
        · intro W hSw; (try dsimp only at hSw); go_simp; try with_reducible rfl
        try simp only [Act.put, List.setIfInBounds_toArray, List.set_cons_zero, List.set_cons_succ]
        refine wpAnyH_take (i := 3) (oi := ⟨_, _, _, _, _, _⟩) (v := ?_) rfl (by kernel_rfl) (by kernel_rfl) (by kernel_rfl) (fun _ _ _ h => h) (Or.inl ⟨by rfl, ?_⟩) (by assumption) ?_
        rotate_left
        · intro W hSw; (try dsimp only at hSw); go_simp; try with_reducible rfl
        try simp only [Act.put, List.setIfInBounds_toArray, List.set_cons_zero, List.set_cons_succ]
        refine wpAnyH_take (i := 4) (oi := ⟨_, _, _, _, _, _⟩) (v := ?_) rfl (by kernel_rfl) (by kernel_rfl) (by kernel_rfl) (fun _ _ _ h => h) (Or.inl ⟨by rfl, ?_⟩) (by assumption) ?_
        rotate_left
        · intro W hSw; (try dsimp only at hSw); go_simp; try with_reducible rfl
        try simp only [Act.put, List.setIfInBounds_toArray, List.set_cons_zero, List.set_cons_succ]
        refine wpAnyH_take (i := 5) (oi := ⟨_, _, _, _, _, _⟩) (v := ?_) rfl (by kernel_rfl) (by kernel_rfl) (by kernel_rfl) (fun _ _ _ h => h) (Or.inl ⟨by rfl, ?_⟩) (by assumption) ?_
        rotate_left
        · intro W hSw; (try dsimp only at hSw); go_simp; try with_reducible rfl
        try simp only [Act.put, List.setIfInBounds_toArray, List.set_cons_zero, List.set_cons_succ]
        refine wpAnyH_take (i := 8) (oi := ⟨_, _, _, _, _, _⟩) (v := ?_) rfl (by kernel_rfl) (by kernel_rfl) (by kernel_rfl) (fun _ _ _ h => h) (Or.inl ⟨by rfl, ?_⟩) (by assumption) ?_
        rotate_left
        · intro W hSw; (try dsimp only at hSw); go_simp; try with_reducible rfl
        try simp only [Act.put, List.setIfInBounds_toArray, List.set_cons_zero, List.set_cons_succ]
        refine wpAnyH_ready (rs := [6]) (by kernel_rfl) (by simp) ?_
        refine AllReadyH.cons (o := ⟨_, _, _, _, _, _⟩) rfl (fun K hK => ?_) AllReadyH.nil
        go_simp
        refine (logSize_any (HD.out.keep hk1 hFDne) HG.out).mono ?_
        rintro e w2 ⟨rfl, rfl⟩
        rw [← HZ.out]
        refine hK.out _ _ ?_ (fun hHeld => ?_)
        · assumption
        clear hK K
        try simp only [Act.put, List.setIfInBounds_toArray, List.set_cons_zero, List.set_cons_succ]
        refine wpAnyH_take (i := 7) (oi := ⟨_, _, _, _, _, _⟩) (v := ?_) rfl (by kernel_rfl) (by kernel_rfl) (by kernel_rfl) (fun _ _ _ h => h) (Or.inl ⟨by rfl, ?_⟩) (by assumption) ?_
        rotate_left
        · intro W hSw; (try dsimp only at hSw); go_simp; try with_reducible rfl
        try simp only [Act.put, List.setIfInBounds_toArray, List.set_cons_zero, List.set_cons_succ]
        refine wpAnyH_ready (rs := [9]) (by kernel_rfl) (by simp) ?_
        refine AllReadyH.cons (o := ⟨_, _, _, _, _, _⟩) rfl (fun K hK => ?_) AllReadyH.nil
        go_simp
        refine (logSize_any (HD.out.keep hk1 hFDne) HG.out).mono ?_
        rintro e w2 ⟨rfl, rfl⟩
        rw [← HZ.out]
        refine hK.out _ _ ?_ (fun hHeld => ?_)
        · assumption
        clear hK K
        try simp only [Act.put, List.setIfInBounds_toArray, List.set_cons_zero, List.set_cons_succ]
        refine wpAnyH_ready (rs := [10]) (by kernel_rfl) (by simp) ?_
        refine AllReadyH.cons (o := ⟨_, _, _, _, _, _⟩) rfl (fun K hK => ?_) AllReadyH.nil
        go_simp
        rw [HW.out]
        refine (read_any (kz : Int) (z : Int) (by omega) hm (HD.out.keep hk1 hFDne)).mono ?_
        rintro e w3 ⟨A3, n3, c3, rfl, ho3, hk3⟩
        have HO3 := Lib.hid ho3
        have HK3 := Lib.hid hk3
        have HK13 := Lib.hid (hk1.and0 hk3)
        refine hK.out _ _ ?_ (fun hHeld => ?_)
        · exact hk3.cell_some hc0d (fun hb => hb)
        clear hK K
        try simp only [Act.put, List.setIfInBounds_toArray, List.set_cons_zero, List.set_cons_succ]
        refine wpAnyH_take (i := 11) (oi := ⟨_, _, _, _, _, _⟩) (v := ?_) rfl (by kernel_rfl) (by kernel_rfl) (by kernel_rfl) (fun _ _ _ h => h) (Or.inl ⟨by rfl, ?_⟩) (by assumption) ?_
        rotate_left
        · intro W hSw; (try dsimp only at hSw); go_simp; try with_reducible rfl
        try simp only [Act.put, List.setIfInBounds_toArray, List.set_cons_zero, List.set_cons_succ]
        refine wpAnyH_take (i := 12) (oi := ⟨_, _, _, _, _, _⟩) (v := ?_) rfl (by kernel_rfl) (by kernel_rfl) (by kernel_rfl) (fun _ _ _ h => h) (Or.inl ⟨by rfl, ?_⟩) (by assumption) ?_
        rotate_left
        · intro W hSw; (try dsimp only at hSw); go_simp; try with_reducible rfl
        try simp only [Act.put, List.setIfInBounds_toArray, List.set_cons_zero, List.set_cons_succ]
        refine wpAnyH_take (i := 13) (oi := ⟨_, _, _, _, _, _⟩) (v := ?_) rfl (by kernel_rfl) (by kernel_rfl) (by kernel_rfl) (fun _ _ _ h => h) (Or.inl ⟨by rfl, ?_⟩) (by assumption) ?_
        rotate_left
        · intro W hSw; (try dsimp only at hSw); go_simp; try with_reducible rfl
        try simp only [Act.put, List.setIfInBounds_toArray, List.set_cons_zero, List.set_cons_succ]
        refine wpAnyH_take (i := 14) (oi := ⟨_, _, _, _, _, _⟩) (v := ?_) rfl (by kernel_rfl) (by kernel_rfl) (by kernel_rfl) (fun _ _ _ h => h) (Or.inl ⟨by rfl, ?_⟩) (by assumption) ?_
        rotate_left
        · intro W hSw; (try dsimp only at hSw); go_simp; try with_reducible rfl
        try simp only [Act.put, List.setIfInBounds_toArray, List.set_cons_zero, List.set_cons_succ]
        refine wpAnyH_take (i := 15) (oi := ⟨_, _, _, _, _, _⟩) (v := ?_) rfl (by kernel_rfl) (by kernel_rfl) (by kernel_rfl) (fun _ _ _ h => h) (Or.inl ⟨by rfl, ?_⟩) (by assumption) ?_
        rotate_left
        · intro W hSw; (try dsimp only at hSw); go_simp; try with_reducible rfl
        try simp only [Act.put, List.setIfInBounds_toArray, List.set_cons_zero, List.set_cons_succ]
        refine wpAnyH_done (by kernel_rfl) ?_ _
        have hb3 := HG.out.keep0 HK3.out
        have HB3 := Lib.hid hb3
        have hk13 := HK13.out
        clear hHeld hk3 ho3 hk1
        by_cases hdn : s.down = true
        · have hask : s.ask (kz : Int) (z : Int) = 15 := by unfold DSt.ask; rw [if_pos hdn]
          rw [hask]
          have HDN := Lib.hid hdn
          clear hask hdn hb3
          go_wp2_with fail
          go_ret3
          exact ⟨.inl ⟨HDN.out, rfl⟩, HK13.out⟩
        · have hdn' : s.down = false := by simpa using hdn
          have hfit : kz + z ≤ s.kept.length := by
            have := HKZ.out
            have := HZ.out
            obtain rfl | rfl : k = 0 ∨ k = 1 := by omega
            · omega
            · omega
          have hask : s.ask (kz : Int) (z : Int) = 0 := DSt.ask_ok s kz z hdn' hfit
          have hrd : s.readL (kz : Int) (z : Int) = s.halfB k := by
            unfold DSt.readL DSt.halfB
            rw [if_pos hask, ← HZ.out, ← HKZ.out]
            rfl
          rw [hask]
          have hsl3 : Sl w3 (fun q => w.heap.size ≤ q) A3 n3 c3 (s.halfB k) := by
            rw [← hrd]
            have hs1 := HK13.out.size
            exact HO3.out.sl.mono fun b _ hb => by
              have h9 : wr.drew.heap.size ≤ b := hb
              have h8 : wr.drew.heap.size = wr.heap.size := rfl
              have h7 := HB.out.lt
              have h6 := HWR.out
              omega
          have hn3 : n3 = z := by
            have h1 := hsl3.len
            have h2 : (s.halfB k).length = z := by
              unfold DSt.halfB DSt.read DSt.all
              rw [List.length_take, List.length_drop, layAll_len, ← HZ.out, ← HKZ.out]
              omega
            omega
          have HSL := Lib.hid hsl3
          have HDN := Lib.hid hdn'
          have HN3 := Lib.hid hn3
          clear hask hdn hdn' hrd hsl3 hfit hn3
          go_wp2_with fail
          refine (turn_any (s.halfB k) _ A3 n3 c3 w3 HSL.out (by have := HN3.out; omega) (by have := HN3.out; omega)).mono ?_
          rintro e w4 ⟨rfl, rfl⟩
          have hcg := (log_cells HB3.out).2.2.1
          have hce := (log_cells HB3.out).2.1
          have hcf := HB3.out.frozen
          obtain ⟨tt, htt⟩ : ∃ tt, tt = turnOf (s.halfB k) := ⟨_, rfl⟩
          rw [← htt]
          have HTT := Lib.hid htt
          have hfk : s.findK (k + 1) = if (s.findK k).2.1 < tt then (k, tt, some (s.halfB k)) else s.findK k := by rw [DSt.findK, ← htt]
          clear hb3 htt
          by_cases hgt : (s.findK k).2.1 < tt
          · rw [if_pos hgt] at hfk
            have HFK := Lib.hid hfk
            clear hfk
            go_wp2_with fail
            have hbf := (HB3.out.set_ 1 (.int .i64 k)).set_ 2 (.int .i64 tt)
            have hkf : Keep (fun b => b = G) w3 ((w3.setCell ⟨G, 1, none⟩ (.int .i64 k)).setCell ⟨G, 2, none⟩ (.int .i64 tt)) := (((Keep.refl (fun b => b = G) w3).set' ⟨G, 1, none⟩ _ (.inl rfl)).set' ⟨G, 2, none⟩ _ (.inl rfl))
            obtain ⟨wf, hwf⟩ : ∃ wf, wf = (w3.setCell ⟨G, 1, none⟩ (.int .i64 k)).setCell ⟨G, 2, none⟩ (.int .i64 tt) := ⟨_, rfl⟩
            rw [← hwf] at hbf hkf ⊢
            have HBF := Lib.hid hbf
            have HKF := Lib.hid hkf
            clear hwf hbf hkf hcg hce hcf
            go_wp2_with fail
            go_roundw
            case rel =>
              refine ⟨k + 1, A3, n3, c3, by omega, by go_num, rfl, fun _ => HDN.out, ?_, HK13.out.andThen HKF.out, .inr ⟨s.halfB k, by rw [HFK.out], HSL.out.keep HKF.out fun b hb e => by have h5 : w.heap.size ≤ b := hb; omega, HN3.out⟩⟩
              rw [HFK.out]
              exact HBF.out
            case measure => simp [intOf]; omega
          · rw [if_neg hgt] at hfk
            have HFK := Lib.hid hfk
            clear hfk
            go_wp2_with fail
            go_roundw
            case rel =>
              refine ⟨k + 1, UA, un, uc, by omega, by go_num, rfl, fun _ => HDN.out, ?_, HK13.out, ?_⟩
              · rw [HFK.out]; exact HB3.out
              · rw [HFK.out]
                rcases HUSE.out with h | ⟨b, h1, h2, h3⟩
                · exact .inl h
                · exact .inr ⟨b, h1, (h2.keep0 (Keep.drew _)).keep0 HK3.out, h3⟩
            case measure => simp [intOf]; omega
    · obtain rfl : k = 2 := by omega
      have hdn := hup (by omega)
      obtain ⟨hbk, hkk, huse⟩ := HI.out
      have HDN := Lib.hid hdn
      have HB := Lib.hid hbk
      have HK := Lib.hid hkk
      clear HI hup hbk hkk hdn
      rcases huse with ⟨hno, rfl, rfl, rfl⟩ | ⟨b, hb, hsl, rfl⟩
      · have hs := fun w => Lib.run_eql_slice_nil (P := Try.prog) w 22 5 none 0 0 0 0 Try.underlying22
        have HNO := Lib.hid hno
        clear hno
        go_wp2_with fail
        go_ret3
        refine ⟨.inr (.inl ⟨HDN.out, HNO.out, rfl, ?_⟩), HK.out⟩
        have e : (s.findK 2).1 = 0 ∧ (s.findK 2).2.1 = -1 := s.findK_none 2 HNO.out
        have := HB.out
        rw [e.1, e.2] at this
        exact this
      · obtain ⟨ad, rfl⟩ : ∃ ad, UA = some ad := by
          rcases UA with _ | ad
          · have := hsl.nil rfl; omega
          · exact ⟨ad, rfl⟩
        have hs := fun w => Lib.run_eql_slice_nil (P := Try.prog) w 22 5 (some ad) un uc 0 0 Try.underlying22
        have HSL := Lib.hid hsl
        have HBB := Lib.hid hb
        have hge := s.findK_ge 2
        obtain ⟨t, ht⟩ := Int.eq_ofNat_of_zero_le (s.findK_some 2 b hb)
        clear hsl hb
        go_wp2_with fail
        refine (lread_any (D := D) (G := G) (half := (s.findK 2).1) (turn := t) (broken := false) 0 0 0 b _ un uc HSL.out (by omega) (by omega) (by omega) (by omega) (by rw [← ht]; exact HB.out) (by omega)).mono ?_
        rintro e w5 ⟨rfl, hk5, hl5⟩
        have HK5 := Lib.hid hk5
        have HL5 := Lib.hid hl5
        clear hk5 hl5
        go_wp2_with fail
        go_ret3
        refine ⟨.inr (.inr ⟨HDN.out, b, HBB.out, rfl, ?_⟩), HK.out.andThen HK5.out⟩
        have hl := HL5.out
        rw [HSL.out.len, HZ.out] at hl
        rw [← ht] at hl
        have hsz := HK.out.size
        exact hl.mono fun q _ hq => by
          rcases hq with hq | hq
          · exact .inl hq
          · right; omega
end
end Go.Proofs.Ytbdencfgiemliaa
