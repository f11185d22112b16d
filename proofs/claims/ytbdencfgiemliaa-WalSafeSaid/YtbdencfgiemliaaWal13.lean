/-
  The log's compact: what the plain disk says of its eight steps; the log is the new one if all told OK, broken if not. Conditions: the disk and the log lie in memory apart, the base apart from both, at most 8192 bytes of it, a disk of 48 bytes or more.
-/
import Derived.Test.YtbdencfgiemliaaWal12
import Derived.Test.YtbdencfgiemliaaWal11
namespace Go.Proofs.Ytbdencfgiemliaa
open Go.RowKit
set_option linter.unusedVariables false
set_option linter.unusedSimpArgs false
/-- A disk and a log on it, apart from one another; all of it lies in F. -/
def DL (w : World) (D G : Nat) (s : DSt) (x : LSt) (m : Nat) (F : Nat → Prop) : Prop := ∃ FD FL, Dsk w D s m FD ∧ LRep w G D x FL ∧ (∀ b, FD b → ¬ FL b) ∧ (∀ b, FD b → F b) ∧ (∀ b, FL b → F b)
section
variable {S F F' : Nat → Prop} {w w' : World} {D G m : Nat} {s : DSt} {x : LSt} {BA RA : Option Addr} {bn bc rn rc : Nat} {rows : List Row}
theorem DL.keep (h : DL w D G s x m F) (hk : Keep S w w') (hd : ∀ b, F b → ¬ S b) : DL w' D G s x m F := by
  obtain ⟨FD, FL, h1, h2, h3, h4, h5⟩ := h
  exact ⟨FD, FL, h1.keep hk fun b hb => hd b (h4 b hb), h2.keep hk fun b hb => hd b (h5 b hb), h3, h4, h5⟩
theorem DL.mono (h : DL w D G s x m F) (hF : ∀ b, b < w.heap.size → F b → F' b) : DL w D G s x m F' := by
  obtain ⟨FD, FL, h1, h2, h3, h4, h5⟩ := h
  exact ⟨fun b => FD b ∧ b < w.heap.size, fun b => FL b ∧ b < w.heap.size, h1.mono fun b hb hx => ⟨hx, hb⟩, h2.mono fun b hb hx => ⟨hx, hb⟩, fun b hb hx => h3 b hb.1 hx.1, fun b hb => hF b hb.2 (h4 b hb.1), fun b hb => hF b hb.2 (h5 b hb.1)⟩
theorem DL.more {m' : Nat} (h : DL w D G s x m F) (hm : m ≤ m') : DL w D G s x m' F := by
  obtain ⟨FD, FL, h1, h2, h3⟩ := h
  exact ⟨FD, FL, h1.more hm, h2, h3⟩
/-- Its own blocks have turned: the log's block known anew, the others left alone. -/
theorem LogRep.setS (h : LogRep w G D x F BA bn bc RA rn rc rows) (hk : Keep S w w') (hS : ∀ b, F b → b ≠ G → ¬ S b) {x' : LSt} (hb : Blk w' G 86 (logCells D x'.half x'.turn x'.stop (.slice BA bn bc) (.slice RA rn rc) x'.broken))
    (e1 : x'.base = x.base) (e2 : x'.recs = x.recs) (hd : x'.half ≤ 1 ∧ (-1 ≤ x'.turn ∧ x'.turn ≤ 9223372036854775806) ∧ x'.stop ≤ 65536) : LogRep w' G D x' F BA bn bc RA rn rc rows :=
  { blk := hb
    base := by rw [e1]; exact h.base.keep hk fun b hb => hS b hb.1 hb.2.1
    recs := h.recs.keep hk fun b hb => hS b (h.fR b hb) fun e => h.neGR (by rw [← e]; exact hb)
    each := fun r hr => (h.each r hr).keep hk fun b hb => hS b hb.1 hb.2.1
    eq := by rw [e2]; exact h.eq
    fG := h.fG
    fR := h.fR
    bd := ⟨by rw [e1]; exact h.bd.1, by rw [e2]; exact h.bd.2.1, hd⟩ }
end
/-- The first log if the steps told OK, the second if not. -/
def pickL (e : Int) (a b : LSt) : LSt := if e = 0 then a else b
theorem pickL_0 (a b : LSt) : pickL 0 a b = a := rfl
theorem pickL_ne {e : Int} (h : e ≠ 0) (a b : LSt) : pickL e a b = b := if_neg h
/-- The steps of a compaction. -/
def compactOps (z half turn : Nat) (l : List UInt8) : List DOp :=
  [some ((half : Int) * (z : Int) + ((0 : Nat) : Int), List.replicate 5 0), none, some ((half : Int) * (z : Int) + ((5 : Nat) : Int), List.replicate (z - 5) 0), none, some ((half : Int) * (z : Int) + ((5 : Nat) : Int), frameL l), none, some ((half : Int) * (z : Int) + ((0 : Nat) : Int), headL turn), none]
theorem Boxes.keep0 {w w' : World} {b G : Nat} {half at' : Int} {A : Option Addr} {n c : Nat} (h : Boxes w b G half at' A n c) (hk : Keep0 w w') : Boxes w' b G half at' A n c := h.keep hk (fun hb => hb) (fun hb => hb) (fun hb => hb) (fun hb => hb)
theorem stpis_mk {w : World} {FD Q : Nat → Prop} {G D z B k half at' : Nat} {A : Option Addr} {n c : Nat} {l : List UInt8} (hFD : ∀ b, FD b → b < B) (hb : Boxes w k G half at' A n c) (hh : half ≤ 1) (ha : at' ≤ 65536) (hsl : Sl w Q A n c l) (hQ : ∀ b, Q b → B ≤ b) (hk : B ≤ k) (hlt : k + 4 ≤ w.heap.size) :
    StpIs w (fun b => FD b ∨ w.heap.size ≤ b) G D z (wstp k) (some ((half : Int) * (z : Int) + (at' : Int), l)) := by
  have hn : ∀ j, j < 4 → ¬ (FD (k + j) ∨ w.heap.size ≤ k + j) := fun j hj hx => by
    rcases hx with hx | hx
    · have := hFD _ hx; omega
    · omega
  refine ⟨k, half, at', A, n, c, rfl, hb, hh, ha, rfl, hsl.mono fun b hb hx hy => ?_, hn 0 (by omega), hn 1 (by omega), hn 2 (by omega), hn 3 (by omega)⟩
  rcases hy with hy | hy
  · have := hFD b hy
    have := hQ b hx
    omega
  · omega
theorem steps_row (w : World) (ps : List Stp) (cs : Array Value) (t : TypeId) (h : cs.toList = ps.map Stp.val) : ∀ j p, ps[j]? = some p → (w.alloc (.cells cs t)).cell? ⟨w.heap.size, 0 + j, none⟩ = some p.val := by
  intro j p hj
  rw [(Blk.new w t cs).cell, Nat.zero_add, ← Array.getElem?_toList, h, List.getElem?_map, hj]
  rfl
section
variable {X F : Nat → Prop} {w : World} {D G m : Nat} {s : DSt} {x : LSt}
set_option maxRecDepth 20000
set_option maxHeartbeats 2000000
theorem compact_any (half turn : Nat) (hh : half ≤ 1) (ht : turn ≤ 9223372036854775806) (l : List UInt8) (A : Option Addr) (n c : Nat) (hsl : Sl w X A n c l) (hn : n ≤ 8192) (hm : m + 8 ≤ 1073741824) (h48 : 48 ≤ s.kept.length) (hd : DL w D G s x m F) (hXF : ∀ b, X b → ¬ F b) :
    Calls Try.prog 61 #[.pointer (some ⟨G, 0, none⟩), .int .i64 half, .int .i64 turn, .slice A n c] w fun e w' => e = .returned (.int .i64 (s.stepsE (compactOps (s.kept.length / 2) half turn l))) ∧ Keep F w w' ∧
      DL w' D G (s.steps (compactOps (s.kept.length / 2) half turn l)) (pickL (s.stepsE (compactOps (s.kept.length / 2) half turn l)) ⟨half, turn, n + 10, l, [], x.broken⟩ { x with broken := true }) (m + 8) (Ext F w w') := by
  obtain ⟨FD0, FL0, hdsk0, hlog0, hdis0, hFD0, hFL0⟩ := hd
  have hlen := hdsk0.ok.size
  obtain ⟨z, hz⟩ : ∃ z, z = s.kept.length / 2 := ⟨_, rfl⟩
  rw [← hz]
  have hz5 : 24 ≤ z := by omega
  have hz6 : z ≤ 32768 := by omega
  obtain ⟨FD, hFD⟩ : ∃ FD : Nat → Prop, FD = fun b => FD0 b ∧ b < w.heap.size := ⟨_, rfl⟩
  obtain ⟨FL, hFL⟩ : ∃ FL : Nat → Prop, FL = fun b => FL0 b ∧ b < w.heap.size := ⟨_, rfl⟩
  have hdsk : Dsk w D s m FD := hdsk0.mono fun b hb hx => by rw [hFD]; exact ⟨hx, hb⟩
  have hlog : LRep w G D x FL := hlog0.mono fun b hb hx => by rw [hFL]; exact ⟨hx, hb⟩
  have hdis : ∀ b, FD b → ¬ FL b := fun b hb hx => by rw [hFD] at hb; rw [hFL] at hx; exact hdis0 b hb.1 hx.1
  have hFDF : ∀ b, FD b → F b ∧ b < w.heap.size := fun b hb => by rw [hFD] at hb; exact ⟨hFD0 b hb.1, hb.2⟩
  have hFLF : ∀ b, FL b → F b ∧ b < w.heap.size := fun b hb => by rw [hFL] at hb; exact ⟨hFL0 b hb.1, hb.2⟩
  clear hFD hFL hdsk0 hlog0 hdis0 hFD0 hFL0 hlen h48
  obtain ⟨BA, bn, bc, RA, rn, rc, rows, hL⟩ := hlog
  have hGF := hFLF G hL.fG
  have hFDG : ¬ FD G := fun hx => hdis G hx hL.fG
  have hbd := hL.bd
  have hc0 := (log_cells hL.blk).1
  have HG := Lib.hid hL.blk
  have HL := Lib.hid hL
  have HD := Lib.hid hdsk
  have HSL := Lib.hid hsl
  have HZ := Lib.hid hz
  have hk0 : Keep0 w w.drew := Keep.drew w
  clear hL hdsk hsl hz
  go_enter Try.func61, Try.ntmps61
  go_wp2_with fail
  refine wp_region_held_drew (S := fun W => W.cell? ⟨G, 0, none⟩ = some (.pointer (some ⟨D, 0, none⟩))) (by kernel_rfl) (hk0.cell_some hc0 fun hb => hb) (fun hHeld => ?_)
  refine wpAnyH_take (i := 0) (oi := ⟨_, _, _, _, _, _⟩) (v := ?_) rfl (by kernel_rfl) (by kernel_rfl) (by kernel_rfl) (fun _ _ _ h => h) (Or.inl ⟨by rfl, ?_⟩) (by assumption) ?_
  rotate_left
  · intro W hSw; (try dsimp only at hSw); go_simp; try with_reducible rfl
  try simp only [Act.put, List.setIfInBounds_toArray, List.set_cons_zero, List.set_cons_succ]
  refine wpAnyH_take (i := 2) (oi := ⟨_, _, _, _, _, _⟩) (v := ?_) rfl (by kernel_rfl) (by kernel_rfl) (by kernel_rfl) (fun _ _ _ h => h) (Or.inl ⟨by rfl, ?_⟩) (by assumption) ?_
  rotate_left
  · intro W hSw; (try dsimp only at hSw); go_simp; try with_reducible rfl
  try simp only [Act.put, List.setIfInBounds_toArray, List.set_cons_zero, List.set_cons_succ]
  refine wpAnyH_take (i := 3) (oi := ⟨_, _, _, _, _, _⟩) (v := ?_) rfl (by kernel_rfl) (by kernel_rfl) (by kernel_rfl) (fun _ _ _ h => h) (Or.inl ⟨by rfl, ?_⟩) (by assumption) ?_
  rotate_left
  · intro W hSw; (try dsimp only at hSw); go_simp; try with_reducible rfl
  try simp only [Act.put, List.setIfInBounds_toArray, List.set_cons_zero, List.set_cons_succ]
  refine wpAnyH_take (i := 4) (oi := ⟨_, _, _, _, _, _⟩) (v := ?_) rfl (by kernel_rfl) (by kernel_rfl) (by kernel_rfl) (fun _ _ _ h => h) (Or.inl ⟨by rfl, ?_⟩) (by assumption) ?_
  rotate_left
  · intro W hSw; (try dsimp only at hSw); go_simp; try with_reducible rfl
  try simp only [Act.put, List.setIfInBounds_toArray, List.set_cons_zero, List.set_cons_succ]
  refine wpAnyH_take (i := 5) (oi := ⟨_, _, _, _, _, _⟩) (v := ?_) rfl (by kernel_rfl) (by kernel_rfl) (by kernel_rfl) (fun _ _ _ h => h) (Or.inl ⟨by rfl, ?_⟩) (by assumption) ?_
  rotate_left
  · intro W hSw; (try dsimp only at hSw); go_simp; try with_reducible rfl
  try simp only [Act.put, List.setIfInBounds_toArray, List.set_cons_zero, List.set_cons_succ]
  refine wpAnyH_take (i := 6) (oi := ⟨_, _, _, _, _, _⟩) (v := ?_) rfl (by kernel_rfl) (by kernel_rfl) (by kernel_rfl) (fun _ _ _ h => h) (Or.inl ⟨by rfl, ?_⟩) (by assumption) ?_
  rotate_left
  · intro W hSw; (try dsimp only at hSw); go_simp; try with_reducible rfl
  try simp only [Act.put, List.setIfInBounds_toArray, List.set_cons_zero, List.set_cons_succ]
  refine wpAnyH_ready (rs := [1]) (by kernel_rfl) (by simp) ?_
  refine AllReadyH.cons (o := ⟨_, _, _, _, _, _⟩) rfl (fun K hK => ?_) AllReadyH.nil
  go_simp
  refine (framed_any l X A n c _ (HSL.out.keep0 hk0) hn).mono ?_
  rintro e w1 ⟨A1, c1, rfl, ho1, hk1⟩
  have hk01 := hk0.andThen hk1
  refine hK.out _ _ ?_ (fun hHeld => ?_)
  · exact hk01.cell_some hc0 fun hb => hb
  clear hK K
  try simp only [Act.put, List.setIfInBounds_toArray, List.set_cons_zero, List.set_cons_succ]
  refine wpAnyH_take (i := 7) (oi := ⟨_, _, _, _, _, _⟩) (v := ?_) rfl (by kernel_rfl) (by kernel_rfl) (by kernel_rfl) (fun _ _ _ h => h) (Or.inl ⟨by rfl, ?_⟩) (by assumption) ?_
  rotate_left
  · intro W hSw; (try dsimp only at hSw); go_simp; try with_reducible rfl
  try simp only [Act.put, List.setIfInBounds_toArray, List.set_cons_zero, List.set_cons_succ]
  refine wpAnyH_take (i := 8) (oi := ⟨_, _, _, _, _, _⟩) (v := ?_) rfl (by kernel_rfl) (by kernel_rfl) (by kernel_rfl) (fun _ _ _ h => h) (Or.inl ⟨by rfl, ?_⟩) (by assumption) ?_
  rotate_left
  · intro W hSw; (try dsimp only at hSw); go_simp; try with_reducible rfl
  try simp only [Act.put, List.setIfInBounds_toArray, List.set_cons_zero, List.set_cons_succ]
  refine wpAnyH_done (by kernel_rfl) ?_ _
  have HO1 := Lib.hid ho1
  have HK1 := Lib.hid hk01
  have hs1 := hk01.size
  have HS1 := Lib.hid hs1
  clear ho1 hk1 hHeld hk01 hk0 hc0 hs1
  go_wp2_with fail
  refine (mkzeroes_any G half 0 5 5 (by omega) (by omega) (by omega) w1).mono ?_
  rintro e w2 ⟨rfl, hb2, hz2, hk2, hs2⟩
  have HB2 := Lib.hid hb2
  have HZ2 := Lib.hid hz2
  have HK2 := Lib.hid (HK1.out.and0 hk2)
  have HKa := Lib.hid hk2
  have HS2 := Lib.hid hs2
  clear hb2 hz2 hk2 hs2
  go_wp2_with fail
  refine (logSize_any (HD.out.keep0 HK2.out) (HG.out.keep0 HK2.out)).mono ?_
  rintro e w2' ⟨rfl, rfl⟩
  rw [← HZ.out]
  go_wp2_with fail
  refine (mkzeroes_any G half 5 (z - 5) z (by omega) (by omega) (by omega) w2).mono ?_
  rintro e w3 ⟨rfl, hb3, hz3, hk3, hs3⟩
  have HB3 := Lib.hid hb3
  have HZ3 := Lib.hid hz3
  have HK3 := Lib.hid (HK2.out.and0 hk3)
  have HKb := Lib.hid hk3
  have HS3 := Lib.hid hs3
  clear hb3 hz3 hk3 hs3
  go_wp2_with fail
  refine (mkwrite_any G half 5 A1 (n + 5) c1 w3).mono ?_
  rintro e w4 ⟨rfl, hb4, hk4, hs4⟩
  have HB4 := Lib.hid hb4
  have HK4 := Lib.hid (HK3.out.and0 hk4)
  have HKc := Lib.hid hk4
  have HS4 := Lib.hid hs4
  clear hb4 hk4 hs4
  go_wp2_with fail
  refine (head_any turn w4).mono ?_
  rintro e w5 ⟨A5, c5, rfl, ho5, hk5⟩
  have HO5 := Lib.hid ho5
  have HK5 := Lib.hid (HK4.out.and0 hk5)
  have HKd := Lib.hid hk5
  have HS5 := Lib.hid hk5.size
  clear ho5 hk5
  go_wp2_with fail
  refine (mkwrite_any G half 0 A5 5 c5 w5).mono ?_
  rintro e w6 ⟨rfl, hb6, hk6, hs6⟩
  have HB6 := Lib.hid hb6
  have HK6 := Lib.hid (HK5.out.and0 hk6)
  have HKe := Lib.hid hk6
  have HS6 := Lib.hid hs6
  clear hb6 hk6 hs6
  simp only [wstp, Stp.val]
  go_wp2_with fail
  obtain ⟨ps, hps⟩ : ∃ ps : List Stp, ps = [wstp (w1.heap.size + 1), sstp D, wstp (w2.heap.size + 1), sstp D, wstp w3.heap.size, sstp D, wstp w5.heap.size, sstp D] := ⟨_, rfl⟩
  have hrow := fun t => steps_row w6 ps #[(wstp (w1.heap.size + 1)).val, (sstp D).val, (wstp (w2.heap.size + 1)).val, (sstp D).val, (wstp w3.heap.size).val, (sstp D).val, (wstp w5.heap.size).val, (sstp D).val] t (by rw [hps]; rfl)
  simp only [wstp, sstp, Stp.val] at hrow
  have hzip : ∀ w7, Keep0 w6 w7 → w6.heap.size < w7.heap.size → Zip (StpIs w7 (fun b => FD b ∨ w7.heap.size ≤ b) G D z) ps (compactOps z half turn l) := by
    intro w7 hk7 hs7
    have e1 := HS1.out; have e2 := HS2.out; have e3 := HS3.out; have e4 := HS4.out; have e5 := HS5.out; have e6 := HS6.out
    have q6 := hk7
    have q5 := HKe.out.and0 hk7
    have q4 := HKd.out.and0 q5
    have q3 := HKc.out.and0 q4
    have q2 := HKb.out.and0 q3
    have q1 := HKa.out.and0 q2
    have hlt : ∀ b, FD b → b < w.heap.size := fun b hb => (hFDF b hb).2
    rw [hps]
    exact ⟨stpis_mk hlt (HB2.out.keep0 q2) hh (by omega) (HZ2.out.keep0 q2) (fun b hb => by omega) (by omega) (by omega), rfl,
      stpis_mk hlt (HB3.out.keep0 q3) hh (by omega) (HZ3.out.keep0 q3) (fun b hb => by omega) (by omega) (by omega), rfl,
      stpis_mk hlt (HB4.out.keep0 q4) hh (by omega) (HO1.out.sl.keep0 q1) (fun b hb => by simp at hb; omega) (by omega) (by omega), rfl,
      stpis_mk hlt (HB6.out.keep0 q6) hh (by omega) (HO5.out.sl.keep0 q5) (fun b hb => by omega) (by omega) (by omega), rfl, trivial⟩
  have hplen : ps.length = 8 := by rw [hps]; rfl
  have HPS := Lib.hid hplen
  have HROW := Lib.hid hrow
  have HZIP := Lib.hid hzip
  clear hrow hzip hps hplen
  have hcl : (compactOps z half turn l).length = 8 := rfl
  have hcall := fun cs (hr : ∀ j p, ps[j]? = some p → (w6.alloc (.cells cs 39)).cell? ⟨w6.heap.size, 0 + j, none⟩ = some p.val) => steps_dsk (F := FD) (D := D) (G := G) (z := z) ps (compactOps z half turn l) w6.heap.size 0 8 8 HPS.out.symm (by rw [HPS.out]; omega) (by rw [hcl]; omega) HZ.out.symm hr
    (fun hx => by have := (hFDF _ hx).2; have := HS1.out; have := HK6.out.size; omega) (by simp) (HD.out.keep0 (HK6.out.alloc' _)) (HG.out.keep0 (HK6.out.alloc' _)) hFDG (HZIP.out _ (Keep.alloc _ _) (by simp))
  refine (hcall _ (HROW.out 39)).mono ?_
  clear hcall
  rintro e w8 ⟨rfl, hd8, hk8, hb8⟩
  rw [hcl] at hd8
  obtain ⟨w7, hw7⟩ : ∃ w7, w7 = w6.alloc (.cells #[(wstp (w1.heap.size + 1)).val, (sstp D).val, (wstp (w2.heap.size + 1)).val, (sstp D).val, (wstp w3.heap.size).val, (sstp D).val, (wstp w5.heap.size).val, (sstp D).val] 39) := ⟨_, rfl⟩
  simp only [wstp, sstp, Stp.val] at hw7
  rw [← hw7] at hd8 hk8
  have hk7 : Keep0 w w7 := by rw [hw7]; exact HK6.out.alloc' _
  have hk78 : Keep (fun b => FD b ∨ b = G) w w8 := (hk7.of0 _).andThen hk8
  have hkF : Keep F w w8 := hk78.mono fun b hb hx => by
    rcases hx with hx | hx
    · exact (hFDF b hx).1
    · rw [hx]; exact hGF.1
  have hs7 := hk7.size
  have hs8 := hk8.size
  have hG8 : ¬ Ext FD w7 w8 G := fun hx => by
    rcases hx with hx | hx
    · exact hFDG hx
    · have := hGF.2; omega
  have hsl8 : Sl w8 (fun b => X b ∧ b ≠ G) A n c l := (HSL.out.mono (G := fun b => X b ∧ b ≠ G) fun b hb hx => ⟨hx, fun e => hXF b hx (by rw [e]; exact hGF.1)⟩).keep hk78 fun b hb hx => by
    rcases hx with hx | hx
    · exact hXF b hb.1 (hFDF b hx).1
    · exact hb.2 hx
  have HD8 := Lib.hid hd8
  have HK8 := Lib.hid hkF
  have HK78 := Lib.hid hk78
  have HB8 := Lib.hid hb8
  have HSL8 := Lib.hid hsl8
  have HS8 := Lib.hid hs8
  have HS7 := Lib.hid hs7
  clear hw7 hk7 hd8 hk8 hb8 hsl8 hkF hk78 hs8 hs7
  by_cases h0 : s.stepsE (compactOps z half turn l) = 0
  · rw [if_pos h0] at HB8
    rw [h0]
    have H0 := Lib.hid h0
    clear h0
    obtain ⟨-, c1', c2', c3', c4', c5', -, hf⟩ := log_cells HB8.out
    go_wp2_with fail
    obtain ⟨w9, hw9⟩ : ∃ w9, w9 = ((w8.setCell ⟨G, 1, none⟩ (.int .i64 half)).setCell ⟨G, 2, none⟩ (.int .i64 turn)).setCell ⟨G, 3, none⟩ (.int .i64 (5 + ((n : Int) + 5))) := ⟨_, rfl⟩
    rw [← hw9]
    have hb9 := ((HB8.out.set_ 1 (.int .i64 half)).set_ 2 (.int .i64 turn)).set_ 3 (.int .i64 (5 + ((n : Int) + 5)))
    have hk9 : Keep (fun b => b = G) w8 w9 := by rw [hw9]; exact (((Keep.refl (fun b => b = G) w8).set' ⟨G, 1, none⟩ _ (.inl rfl)).set' ⟨G, 2, none⟩ _ (.inl rfl)).set' ⟨G, 3, none⟩ _ (.inl rfl)
    rw [← hw9] at hb9
    have hs9 : w9.heap.size = w8.heap.size := by rw [hw9]; simp [World.setCell]
    have HB9 := Lib.hid hb9
    have HK9 := Lib.hid hk9
    have HS9 := Lib.hid hs9
    clear hw9 hb9 hk9 hs9 c1' c2' c3' c4' c5' hf
    refine (clone_any l _ A n c w9 (HSL8.out.keep HK9.out fun b hb => hb.2) (by omega)).mono ?_
    rintro e w10 ⟨A10, c10, rfl, ho10, hk10⟩
    have hb10 := HB9.out.keep0 hk10
    have hf := hb10.frozen
    have c4' : w10.cell? ⟨G, 4, none⟩ = some (.slice BA bn bc) := hb10.cell 4
    have c5' : w10.cell? ⟨G, 5, none⟩ = some (.slice RA rn rc) := hb10.cell 5
    have HB10 := Lib.hid hb10
    have HO10 := Lib.hid ho10
    have HK10 := Lib.hid hk10
    clear hb10 ho10 hk10
    go_wp2_with fail
    go_ret
    have hgf : Keep (fun b => b = G) w10 ((w10.setCell ⟨G, 4, none⟩ (.slice A10 n c10)).setCell ⟨G, 5, none⟩ (.slice none 0 0)) := (((Keep.refl (fun b => b = G) w10).set' ⟨G, 4, none⟩ _ (.inl rfl)).set' ⟨G, 5, none⟩ _ (.inl rfl))
    have hbf := (HB10.out.set_ 4 (.slice A10 n c10)).set_ 5 (.slice none 0 0)
    obtain ⟨wf, hwf⟩ : ∃ wf, wf = (w10.setCell ⟨G, 4, none⟩ (.slice A10 n c10)).setCell ⟨G, 5, none⟩ (.slice none 0 0) := ⟨_, rfl⟩
    rw [← hwf] at hgf hbf ⊢
    have hk89 := HK9.out.and0 HK10.out
    have hk8f := hk89.andThen hgf
    have hkwf : Keep F w wf := (HK8.out.trans hk8f fun b _ e => by rw [e]; exact hGF.1)
    have e1 := HS1.out; have e9 := HS9.out; have e7 := HS7.out; have e8 := HS8.out
    have hlr : LRep wf G D ⟨half, turn, n + 10, l, ([] : List Row).map Row.bytes, x.broken⟩ (fun b => b = G ∨ w9.heap.size ≤ b) := by
      refine lrep_mk (B := w9.heap.size) hgf ?_ (HO10.out.of5 none fun b hb => by obtain ⟨a, ha, _⟩ := hb; cases ha) (by have := hGF.2; omega) (rw_nil _) (fun b hb => by obtain ⟨a, ha, _⟩ := hb; cases ha) (by simp) (by have := HSL.out.len; omega) (by simp) ⟨hh, ht, by omega⟩
      rw [show ((n + 10 : Nat) : Int) = 5 + ((n : Int) + 5) by omega]
      exact hbf
    refine ⟨ret_i H0.out.symm, hkwf, ?_⟩
    rw [H0.out, pickL_0]
    refine DL.mono (F := fun b => F b ∨ w.heap.size ≤ b) ⟨Ext FD w7 w8, fun b => b = G ∨ w9.heap.size ≤ b, HD8.out.keep hk8f (fun b hb e => hG8 (by rw [← e]; exact hb)), hlr, ?_, ?_, ?_⟩ ?_
    · rintro b hb (rfl | hx)
      · exact hG8 hb
      · rcases hb with hb | hb
        · have := (hFDF b hb).2; omega
        · omega
    · rintro b (hb | hb)
      · exact .inl (hFDF b hb).1
      · right; omega
    · rintro b (rfl | hb)
      · exact .inl hGF.1
      · right; omega
    · intro b hb hx
      rcases hx with hx | hx
      · exact .inl hx
      · exact .inr ⟨hx, hb⟩
  · rw [if_neg h0] at HB8
    obtain ⟨E, hE⟩ : ∃ E, E = s.stepsE (compactOps z half turn l) := ⟨_, rfl⟩
    have HE := Lib.hid hE
    rw [← hE] at h0 ⊢
    have jb1 : (E == 0) = false := by simpa using h0
    have jb2 : (E != 0) = true := by simpa using h0
    have H0 := Lib.hid h0
    clear hE h0
    go_wp2_with fail
    go_ret
    have e1 := HS1.out; have e7 := HS7.out; have e8 := HS8.out
    refine ⟨ret_i HE.out, HK8.out, ?_⟩
    rw [pickL_ne (by rw [← HE.out]; exact H0.out)]
    refine DL.mono (F := fun b => F b ∨ w.heap.size ≤ b) ⟨Ext FD w7 w8, FL, HD8.out, ⟨BA, bn, bc, RA, rn, rc, rows, HL.out.setS HK78.out ?_ HB8.out rfl rfl hbd.2.2⟩, ?_, ?_, ?_⟩ ?_
    · rintro b hb hne (hx | hx)
      · exact hdis b hx hb
      · exact hne hx
    · rintro b (hb | hb) hx
      · exact hdis b hb hx
      · have := (hFLF b hx).2; omega
    · rintro b (hb | hb)
      · exact .inl (hFDF b hb).1
      · right; omega
    · intro b hb; exact .inl (hFLF b hb).1
    · intro b hb hx
      rcases hx with hx | hx
      · exact .inl hx
      · exact .inr ⟨hx, hb⟩
end
end Go.Proofs.Ytbdencfgiemliaa
