/-
  Append: refused for what keeps it (broken, too many bytes, no room); else what the plain disk says of its two steps. Conditions: the disk and the log lie in memory apart, the record apart from both, the log's end within the half, fewer than 65536 records.
-/
import Derived.Test.YtbdencfgiemliaaWal16
import Derived.Test.YtbdencfgiemliaaWal7
namespace Go.Proofs.Ytbdencfgiemliaa
open Go.RowKit
set_option linter.unusedVariables false
set_option linter.unusedSimpArgs false
/-- The steps of an append. -/
def appendOps (z half stop : Nat) (l : List UInt8) : List DOp := [some ((half : Int) * (z : Int) + (stop : Int), frameL l), none]
/-- What keeps so many bytes from being a frame in so much room; 0: nothing. -/
def LSt.may (x : LSt) (n : Nat) (room : Int) : Int := if x.broken = true then 15 else if 8192 < n then 1 else if room < (n : Int) + 5 then 2 else 0
theorem Rw.keep0 {w w' : World} {A : Option Addr} {n c : Nat} {cs : List Value} (h : Rw w A n c cs) (hk : Keep0 w w') : Rw w' A n c cs := h.keep hk fun _ _ hb => hb
theorem one_cell' (w : World) (v : Value) (t : TypeId) : (w.alloc (.cells #[v] t)).cell? ⟨w.heap.size, 0, none⟩ = some v := by
  rw [(Blk.new w t #[v]).cell]
  rfl
theorem step_append_rw {P : Program} (w : World) {ops : Array Oper} {o : Oper} {a : Act} {K : Act → World → Prop} {Q : Exit → Act → World → Prop} {E : Prop} (hgd : o.guard = none) (s x : Operand) (t : TypeId)
    (ho : o.op = .call { callee := .builtin .append, args := #[s, x], argTypes := #[t, t] })
    (i : TypeInfo) (z : Value) (bytes : Nat) (ht : P.underlying t = some (.slice 22)) (hi : P.info? 22 = some i) (hz : i.zero = some z) (hsize : i.size = 1) (hby : i.bytes = bytes) (hzs : z.cells.size = 1)
    {A : Option Addr} {n c : Nat} {cs : List Value} (hs : a.eval s = .slice A n c) (h : Rw w A n c cs) (ad : Addr) (cx : Nat) (u : Value) (hx : a.eval x = .slice (some ad) 1 cx) (hu : w.cell? ad = some u) (h1 : u.oneCell' = true) (h63 : n + 1 ≤ maxLen) (hbytes : (n + 1) * bytes ≤ 140737488355328)
    (hK : ∀ A' c' w', Rw w' A' (n + 1) c' (cs ++ [u]) → Keep (BlkOf A) w w' → (∀ b, BlkOf A' b → BlkOf A b ∨ (w.heap.size ≤ b ∧ b < w'.heap.size)) → w.heap.size ≤ w'.heap.size → K (a.put o.dst (.slice A' (n + 1) c')) w') :
    if Region.wanted o (yielded ops a.tmps) = true then Oper.wp P o a w K Q else E := by
  have hw : Region.wanted o (yielded ops a.tmps) = true := by simp [Region.wanted, hgd]
  rw [if_pos hw]
  obtain ⟨A', c', w', hrun, h2, h3, h4, h5⟩ := run_append_rw (P := P) w t o.type i z bytes ht hi hz hsize hby hzs h ad cx u hu h1 h63 hbytes
  unfold Oper.wp execOp
  simp only [ho, resolve, invoke, builtin, Sem.run_bind, Sem.run_pure, Result.andThen_ok, List.map_toArray, List.map_cons, List.map_nil, hs, hx, hrun]
  exact hK A' c' w' h2 h3 h4 h5
theorem logrep_append {FL : Nat → Prop} {w9 w10 w11 wf : World} {G D n c10 c11 bn bc rn rc : Nat} {x : LSt} {BA RA A10 A11 : Option Addr} {rows : List Row} {l : List UInt8} (o : Obj) (h : LogRep w9 G D x FL BA bn bc RA rn rc rows)
    (ho10 : Own w10 w9.heap.size 5 A10 n c10 (l.map bv)) (hk10 : Keep0 w9 w10) (hk11 : Keep (BlkOf RA) (w10.alloc o) w11) (happ : Rw w11 A11 (rn + 1) c11 (rows.map Row.val ++ [.slice A10 n c10]))
    (hblk : ∀ b, BlkOf A11 b → BlkOf RA b ∨ ((w10.alloc o).heap.size ≤ b ∧ b < w11.heap.size)) (hkf : Keep (fun b => b = G) w11 wf) (hb : Blk wf G 86 (logCells D x.half x.turn x.stop (.slice BA bn bc) (.slice A11 (rn + 1) c11) x.broken)) (hn : n ≤ 65536) :
    LogRep wf G D { x with recs := x.recs ++ [l] } (fun b => FL b ∨ w9.heap.size ≤ b) BA bn bc A11 (rn + 1) c11 (rows ++ [⟨A10, n, c10, l⟩]) := by
  have hs10 := hk10.size
  have hsa : (w10.alloc o).heap.size = w10.heap.size + 1 := by simp
  have hk911 : Keep (BlkOf RA) w9 w11 := ((hk10.alloc' o).of0 _).andThen hk11
  have hGlt := h.blk.lt
  have hRlt := h.recs.lt
  have old : ∀ {A : Option Addr} {n c : Nat} {l : List UInt8}, Sl w9 (fun b => FL b ∧ OffL G RA b) A n c l → Sl wf (fun b => (FL b ∨ w9.heap.size ≤ b) ∧ OffL G A11 b) A n c l := by
    intro A n c l hs
    refine (((hs.mono (G := fun b => (FL b ∧ OffL G RA b) ∧ b < w9.heap.size) fun b hb hx => ⟨hx, hb⟩).keep hk911 fun b hx => hx.1.2.2).keep hkf fun b hx => hx.1.2.1).mono fun b _ hx => ⟨.inl hx.1.1, hx.1.2.1, fun hy => ?_⟩
    rcases hblk b hy with hz | hz
    · exact hx.1.2.2 hz
    · have := hx.2; omega
  refine { blk := hb, base := old h.base, recs := ?_, each := ?_, eq := ?_, fG := .inl h.fG, fR := ?_, bd := ?_ }
  · rw [List.map_append]
    refine happ.keep hkf fun b hx e => ?_
    subst e
    rcases hblk b hx with hz | hz
    · exact h.neGR hz
    · omega
  · intro r hr
    rcases List.mem_append.1 hr with hr | hr
    · exact old (h.each r hr)
    · rw [List.mem_singleton] at hr
      subst hr
      have h1 : Sl w10 (fun b => w9.heap.size ≤ b ∧ b < w10.heap.size) A10 n c10 l := ho10.sl.mono fun b hb hx => ⟨hx, hb⟩
      refine (((h1.keep0 (Keep.alloc w10 o)).keep hk11 fun b hx hy => by have := hRlt b hy; have := hx.1; omega).keep hkf fun b hx e => by have := hx.1; omega).mono fun b _ hx => ⟨.inr hx.1, fun e => by have := hx.1; omega, fun hy => ?_⟩
      rcases hblk b hy with hz | hz
      · have := hRlt b hz; have := hx.1; omega
      · have := hx.2; omega
  · show x.recs ++ [l] = _
    rw [List.map_append, h.eq]
    rfl
  · intro b hx
    rcases hblk b hx with hz | hz
    · exact .inl (h.fR b hz)
    · right; omega
  · refine ⟨h.bd.1, fun r hr => ?_, h.bd.2.2⟩
    rcases List.mem_append.1 hr with hr | hr
    · exact h.bd.2.1 r hr
    · rw [List.mem_singleton] at hr
      rw [hr]
      have := ho10.sl.len
      omega
section
variable {X F : Nat → Prop} {w : World} {D G m : Nat} {s : DSt} {x : LSt}
set_option maxRecDepth 20000
set_option maxHeartbeats 2000000
theorem DL.log {w : World} (h : DL w D G s x m F) : ∃ FD BA bn bc RA rn rc rows, Dsk w D s m FD ∧ LogRep w G D x F BA bn bc RA rn rc rows := by
  obtain ⟨FD, FL, h1, ⟨BA, bn, bc, RA, rn, rc, rows, h2⟩, h3, h4, h5⟩ := h
  exact ⟨FD, BA, bn, bc, RA, rn, rc, rows, h1, h2.mono fun b _ hb => h5 b hb⟩
theorem append_no (A : Option Addr) (n c : Nat) (hn : n ≤ 1073741824) (hno : x.may n (((s.kept.length / 2 : Nat) : Int) - (x.stop : Int)) ≠ 0) (hdsk : Dsk w D s m X) (hd : LRep w G D x F) :
    Calls Try.prog 41 #[.pointer (some ⟨G, 0, none⟩), .slice A n c] w fun e w' => e = .returned (.int .i64 (x.may n (((s.kept.length / 2 : Nat) : Int) - (x.stop : Int)))) ∧ Keep0 w w' := by
  obtain ⟨BA, bn, bc, RA, rn, rc, rows, hlog⟩ := hd
  have hst := hlog.bd.2.2.2.2
  have HD := Lib.hid hdsk
  have HG := Lib.hid hlog.blk
  obtain ⟨z, hz⟩ : ∃ z, z = s.kept.length / 2 := ⟨_, rfl⟩
  have HZ := Lib.hid hz
  rw [← hz] at hno ⊢
  obtain ⟨E, hE⟩ : ∃ E, E = x.may n ((z : Int) - (x.stop : Int)) := ⟨_, rfl⟩
  have HE := Lib.hid hE
  rw [← hE] at hno ⊢
  have jb1 : (E == 0) = false := by simpa using hno
  have jb2 : (E != 0) = true := by simpa using hno
  clear hdsk hlog hz hE hno
  go_enter Try.func41, Try.ntmps41
  go_wp2_with fail
  refine (room_any ⟨by omega, by omega⟩ HD.out HG.out).mono ?_
  rintro e w1 ⟨rfl, hk1⟩
  rw [← HZ.out]
  have HK1 := Lib.hid hk1
  clear hk1
  go_wp2_with fail
  refine (may_any A n c ((z : Int) - (x.stop : Int)) hn (HG.out.keep0 HK1.out)).mono ?_
  rintro e w2 ⟨rfl, rfl⟩
  have he : (if x.broken = true then 15 else if 8192 < n then 1 else if (z : Int) - (x.stop : Int) < (n : Int) + 5 then 2 else 0) = E := HE.out.symm
  rw [he]
  clear he
  go_wp2_with fail
  go_ret
  exact ⟨rfl, HK1.out⟩
theorem append_any (l : List UInt8) (A : Option Addr) (n c : Nat) (hsl : Sl w X A n c l) (hn : n ≤ 8192) (hm : m + 2 ≤ 1073741824) (h48 : 48 ≤ s.kept.length) (hrc : x.recs.length ≤ 65536) (hroom : x.stop + (n + 5) ≤ s.kept.length / 2) (hbr : x.broken = false) (hd : DL w D G s x m F) (hXF : ∀ b, X b → ¬ F b) :
    Calls Try.prog 41 #[.pointer (some ⟨G, 0, none⟩), .slice A n c] w fun e w' => e = .returned (.int .i64 (s.stepsE (appendOps (s.kept.length / 2) x.half x.stop l))) ∧ Keep F w w' ∧
      DL w' D G (s.steps (appendOps (s.kept.length / 2) x.half x.stop l)) (pickL (s.stepsE (appendOps (s.kept.length / 2) x.half x.stop l)) { x with stop := x.stop + (n + 5), recs := x.recs ++ [l] } { x with broken := true }) (m + 2) (Ext F w w') := by
  obtain ⟨i22, hi0, hz0, hz1, hz2⟩ := info_parts info22
  obtain ⟨FD0, FL0, hdsk0, hlog0, hdis0, hFD0, hFL0⟩ := hd
  have hlen := hdsk0.ok.size
  obtain ⟨z, hz⟩ : ∃ z, z = s.kept.length / 2 := ⟨_, rfl⟩
  rw [← hz] at hroom ⊢
  have hz5 : 24 ≤ z := by omega
  have hz6 : z ≤ 32768 := by omega
  obtain ⟨FD, hFD⟩ : ∃ FD : Nat → Prop, FD = fun b => FD0 b ∧ b < w.heap.size := ⟨_, rfl⟩
  obtain ⟨FL, hFL⟩ : ∃ FL : Nat → Prop, FL = fun b => FL0 b ∧ b < w.heap.size := ⟨_, rfl⟩
  have hdsk : Dsk w D s m FD := hdsk0.mono fun b hb hx => by rw [hFD]; exact ⟨hx, hb⟩
  have hlog : LRep w G D x FL := hlog0.mono fun b hb hx => by rw [hFL]; exact ⟨hx, hb⟩
  have hdis : ∀ b, FD b → ¬ FL b := fun b hb hx => by rw [hFD] at hb; rw [hFL] at hx; exact hdis0 b hb.1 hx.1
  have hFDF : ∀ b, FD b → F b ∧ b < w.heap.size := fun b hb => by rw [hFD] at hb; exact ⟨hFD0 b hb.1, hb.2⟩
  have hFLF : ∀ b, FL b → F b ∧ b < w.heap.size := fun b hb => by rw [hFL] at hb; exact ⟨hFL0 b hb.1, hb.2⟩
  clear hFD hFL hdsk0 hlog0 hdis0 hFD0 hFL0 hlen h48
  obtain ⟨BA, bn, bc, RA, rn, rc, rows, hL⟩ := hlog
  have hGF := hFLF G hL.fG
  have hFDG : ¬ FD G := fun hx => hdis G hx hL.fG
  have hbd := hL.bd
  have hxh : x.half ≤ 1 := hbd.2.2.1
  have hrn : rn ≤ 65536 := by
    have h1 := hL.recs.1
    have h2 := hL.eq
    rw [h2, List.length_map] at hrc
    rw [List.length_map] at h1
    omega
  have hc0 := (log_cells hL.blk).1
  have hc1 := (log_cells hL.blk).2.1
  have hc3 := (log_cells hL.blk).2.2.2.1
  have HG := Lib.hid hL.blk
  have HL := Lib.hid hL
  have HD := Lib.hid hdsk
  have HZ := Lib.hid hz
  have HSL := Lib.hid hsl
  have hst : x.stop ≤ 65536 := by omega
  have hmay : (if x.broken = true then 15 else if 8192 < n then 1 else if (z : Int) - (x.stop : Int) < (n : Int) + 5 then 2 else 0) = (0 : Int) := by
    rw [hbr, if_neg (by decide), if_neg (by omega), if_neg (by omega)]
  have HMAY := Lib.hid hmay
  have HBR := Lib.hid hbr
  clear hL hdsk hz hmay hrc hsl hbr
  go_enter Try.func41, Try.ntmps41
  go_wp2_with fail
  refine (room_any ⟨by omega, by omega⟩ HD.out HG.out).mono ?_
  rintro e wa ⟨rfl, hka⟩
  rw [← HZ.out]
  have HKA := Lib.hid hka
  clear hka
  go_wp2_with fail
  refine (may_any A n c ((z : Int) - (x.stop : Int)) (by omega) (HG.out.keep0 HKA.out)).mono ?_
  rintro e wa' ⟨rfl, rfl⟩
  rw [HMAY.out]
  go_wp2_with fail
  refine (framed_any l X A n c _ (HSL.out.keep0 HKA.out) hn).mono ?_
  rintro e w1 ⟨A1, c1, rfl, ho1, hk1'⟩
  have hk1 : Keep0 w w1.drew := (HKA.out.and0 hk1').drew'
  have HO1 := Lib.hid (ho1.mono HKA.out.size)
  clear ho1 hk1'
  go_wp2_with fail
  have hkS : ∀ W, Keep0 w W → (W.cell? ⟨G, 0, none⟩ = some (.pointer (some ⟨D, 0, none⟩)) ∧ W.cell? ⟨G, 1, none⟩ = some (.int .i64 x.half) ∧ W.cell? ⟨G, 3, none⟩ = some (.int .i64 x.stop)) := fun W hW => ⟨hW.cell_some hc0 fun hb => hb, hW.cell_some hc1 fun hb => hb, hW.cell_some hc3 fun hb => hb⟩
  refine wp_region_held_drew (S := fun W => W.cell? ⟨G, 0, none⟩ = some (.pointer (some ⟨D, 0, none⟩)) ∧ W.cell? ⟨G, 1, none⟩ = some (.int .i64 x.half) ∧ W.cell? ⟨G, 3, none⟩ = some (.int .i64 x.stop)) (by kernel_rfl) (hkS _ hk1) (fun hHeld => ?_)
  refine wpAnyH_take (i := 0) (oi := ⟨_, _, _, _, _, _⟩) (v := ?_) rfl (by kernel_rfl) (by kernel_rfl) (by kernel_rfl) (fun _ _ _ h => h) (Or.inl ⟨by rfl, ?_⟩) (by assumption) ?_
  rotate_left
  · intro W hSw; (try dsimp only at hSw); go_simp; try with_reducible rfl
  try simp only [Act.put, List.setIfInBounds_toArray, List.set_cons_zero, List.set_cons_succ]
  refine wpAnyH_take (i := 1) (oi := ⟨_, _, _, _, _, _⟩) (v := ?_) rfl (by kernel_rfl) (by kernel_rfl) (by kernel_rfl) (fun _ _ _ h => h) (Or.inl ⟨by rfl, ?_⟩) (by assumption) ?_
  rotate_left
  · intro W hSw; (try dsimp only at hSw); go_simp; try with_reducible rfl
  try simp only [Act.put, List.setIfInBounds_toArray, List.set_cons_zero, List.set_cons_succ]
  refine wpAnyH_take (i := 2) (oi := ⟨_, _, _, _, _, _⟩) (v := ?_) rfl (by kernel_rfl) (by kernel_rfl) (by kernel_rfl) (fun _ _ _ h => h) (Or.inl ⟨by rfl, ?_⟩) (by assumption) ?_
  rotate_left
  · intro W hSw; (try dsimp only at hSw); go_simp; try with_reducible rfl
  try simp only [Act.put, List.setIfInBounds_toArray, List.set_cons_zero, List.set_cons_succ]
  refine wpAnyH_take (i := 3) (oi := ⟨_, _, _, _, _, _⟩) (v := ?_) rfl (by kernel_rfl) (by kernel_rfl) (by kernel_rfl) (fun _ _ _ h => h) (Or.inl ⟨by rfl, ?_⟩) (by assumption) ?_
  rotate_left
  · intro W hSw; (try dsimp only at hSw); go_simp; try with_reducible rfl
  try simp only [Act.put, List.setIfInBounds_toArray, List.set_cons_zero, List.set_cons_succ]
  refine wpAnyH_take (i := 4) (oi := ⟨_, _, _, _, _, _⟩) (v := ?_) rfl (by kernel_rfl) (by kernel_rfl) (by kernel_rfl) (fun _ _ _ h => h) (Or.inl ⟨by rfl, ?_⟩) (by assumption) ?_
  rotate_left
  · intro W hSw; (try dsimp only at hSw); go_simp; try with_reducible rfl
  try simp only [Act.put, List.setIfInBounds_toArray, List.set_cons_zero, List.set_cons_succ]
  refine wpAnyH_take (i := 5) (oi := ⟨_, _, _, _, _, _⟩) (v := ?_) rfl (by kernel_rfl) (by kernel_rfl) (by kernel_rfl) (fun _ _ _ h => h) (Or.inl ⟨by rfl, ?_⟩) (by assumption) ?_
  rotate_left
  · intro W hSw; (try dsimp only at hSw); go_simp; try with_reducible rfl
  try simp only [Act.put, List.setIfInBounds_toArray, List.set_cons_zero, List.set_cons_succ]
  refine wpAnyH_take (i := 6) (oi := ⟨_, _, _, _, _, _⟩) (v := ?_) rfl (by kernel_rfl) (by kernel_rfl) (by kernel_rfl) (fun _ _ _ h => h) (Or.inl ⟨by rfl, ?_⟩) (by assumption) ?_
  rotate_left
  · intro W hSw; (try dsimp only at hSw); go_simp; try with_reducible rfl
  try simp only [Act.put, List.setIfInBounds_toArray, List.set_cons_zero, List.set_cons_succ]
  refine wpAnyH_take (i := 7) (oi := ⟨_, _, _, _, _, _⟩) (v := ?_) rfl (by kernel_rfl) (by kernel_rfl) (by kernel_rfl) (fun _ _ _ h => h) (Or.inl ⟨by rfl, ?_⟩) (by assumption) ?_
  rotate_left
  · intro W hSw; (try dsimp only at hSw); go_simp; try with_reducible rfl
  try simp only [Act.put, List.setIfInBounds_toArray, List.set_cons_zero, List.set_cons_succ]
  refine wpAnyH_take (i := 8) (oi := ⟨_, _, _, _, _, _⟩) (v := ?_) rfl (by kernel_rfl) (by kernel_rfl) (by kernel_rfl) (fun _ _ _ h => h) (Or.inl ⟨by rfl, ?_⟩) (by assumption) ?_
  rotate_left
  · intro W hSw; (try dsimp only at hSw); go_simp; try with_reducible rfl
  try simp only [Act.put, List.setIfInBounds_toArray, List.set_cons_zero, List.set_cons_succ]
  refine wpAnyH_take (i := 9) (oi := ⟨_, _, _, _, _, _⟩) (v := ?_) rfl (by kernel_rfl) (by kernel_rfl) (by kernel_rfl) (fun _ _ _ h => h) (Or.inl ⟨by rfl, ?_⟩) (by assumption) ?_
  rotate_left
  · intro W hSw; (try dsimp only at hSw); go_simp; try with_reducible rfl
  try simp only [Act.put, List.setIfInBounds_toArray, List.set_cons_zero, List.set_cons_succ]
  refine wpAnyH_take (i := 10) (oi := ⟨_, _, _, _, _, _⟩) (v := ?_) rfl (by kernel_rfl) (by kernel_rfl) (by kernel_rfl) (fun _ _ _ h => h) (Or.inl ⟨by rfl, ?_⟩) (by assumption) ?_
  rotate_left
  · intro W hSw; (try dsimp only at hSw); go_simp; try with_reducible rfl
  try simp only [Act.put, List.setIfInBounds_toArray, List.set_cons_zero, List.set_cons_succ]
  refine wpAnyH_take (i := 12) (oi := ⟨_, _, _, _, _, _⟩) (v := ?_) rfl (by kernel_rfl) (by kernel_rfl) (by kernel_rfl) (fun _ _ _ h => h) (Or.inl ⟨by rfl, ?_⟩) (by assumption) ?_
  rotate_left
  · intro W hSw; (try dsimp only at hSw); go_simp; try with_reducible rfl
  try simp only [Act.put, List.setIfInBounds_toArray, List.set_cons_zero, List.set_cons_succ]
  refine wpAnyH_take (i := 13) (oi := ⟨_, _, _, _, _, _⟩) (v := ?_) rfl (by kernel_rfl) (by kernel_rfl) (by kernel_rfl) (fun _ _ _ h => h) (Or.inl ⟨by rfl, ?_⟩) (by assumption) ?_
  rotate_left
  · intro W hSw; (try dsimp only at hSw); go_simp; try with_reducible rfl
  try simp only [Act.put, List.setIfInBounds_toArray, List.set_cons_zero, List.set_cons_succ]
  refine wpAnyH_take (i := 14) (oi := ⟨_, _, _, _, _, _⟩) (v := ?_) rfl (by kernel_rfl) (by kernel_rfl) (by kernel_rfl) (fun _ _ _ h => h) (Or.inl ⟨by rfl, ?_⟩) (by assumption) ?_
  rotate_left
  · intro W hSw; (try dsimp only at hSw); go_simp; try with_reducible rfl
  try simp only [Act.put, List.setIfInBounds_toArray, List.set_cons_zero, List.set_cons_succ]
  refine wpAnyH_take (i := 15) (oi := ⟨_, _, _, _, _, _⟩) (v := ?_) rfl (by kernel_rfl) (by kernel_rfl) (by kernel_rfl) (fun _ _ _ h => h) (Or.inl ⟨by rfl, ?_⟩) (by assumption) ?_
  rotate_left
  · intro W hSw; (try dsimp only at hSw); go_simp; try with_reducible rfl
  try simp only [Act.put, List.setIfInBounds_toArray, List.set_cons_zero, List.set_cons_succ]
  refine wpAnyH_take (i := 16) (oi := ⟨_, _, _, _, _, _⟩) (v := ?_) rfl (by kernel_rfl) (by kernel_rfl) (by kernel_rfl) (fun _ _ _ h => h) (Or.inl ⟨by rfl, ?_⟩) (by assumption) ?_
  rotate_left
  · intro W hSw; (try dsimp only at hSw); go_simp; try with_reducible rfl
  try simp only [Act.put, List.setIfInBounds_toArray, List.set_cons_zero, List.set_cons_succ]
  refine wpAnyH_ready (rs := [11]) (by kernel_rfl) (by simp) ?_
  refine AllReadyH.cons (o := ⟨_, _, _, _, _, _⟩) rfl (fun K hK => ?_) AllReadyH.nil
  go_simp
  refine (mkwrite_any G x.half x.stop A1 (n + 5) c1 _).mono ?_
  rintro e w2 ⟨rfl, hb2, hk2, hs2⟩
  have HB2 := Lib.hid hb2
  have HKa := Lib.hid hk2
  have HK2 := Lib.hid (hk1.and0 hk2)
  have HS2 := Lib.hid hs2
  clear hb2 hk2 hs2
  simp only [wstp, Stp.val]
  refine hK.out _ _ ?_ (fun hHeld => ?_)
  · exact hkS _ HK2.out
  clear hK K
  try simp only [Act.put, List.setIfInBounds_toArray, List.set_cons_zero, List.set_cons_succ]
  refine wpAnyH_ready (rs := [17]) (by kernel_rfl) (by simp) ?_
  refine AllReadyH.cons (o := ⟨_, _, _, _, _, _⟩) rfl (fun K hK => ?_) AllReadyH.nil
  go_simp
  refine hK.out _ _ ?_ (fun hHeld => ?_)
  · exact hkS _ (HK2.out.alloc' _)
  clear hK K
  try simp only [Act.put, List.setIfInBounds_toArray, List.set_cons_zero, List.set_cons_succ]
  refine wpAnyH_ready (rs := [18]) (by kernel_rfl) (by simp) ?_
  refine AllReadyH.cons (o := ⟨_, _, _, _, _, _⟩) rfl (fun K hK => ?_) AllReadyH.nil
  go_simp
  obtain ⟨ps, hps⟩ : ∃ ps : List Stp, ps = [wstp w1.drew.heap.size, sstp D] := ⟨_, rfl⟩
  have hrow := steps_row w2 ps #[(wstp w1.drew.heap.size).val, (sstp D).val] 39 (by rw [hps]; rfl)
  simp only [wstp, sstp, Stp.val] at hrow
  obtain ⟨w4, hw4⟩ : ∃ w4, w4 = w2.alloc (.cells #[(wstp w1.drew.heap.size).val, (sstp D).val] 39) := ⟨_, rfl⟩
  simp only [wstp, sstp, Stp.val] at hw4
  have e0 : w1.drew.heap.size = w1.heap.size := rfl
  rw [e0] at hrow hw4
  rw [← hw4] at hrow ⊢
  have q4 : Keep0 w2 w4 := by rw [hw4]; exact Keep.alloc _ _
  have hs4 : w4.heap.size = w2.heap.size + 1 := by rw [hw4]; simp
  have hk4 : Keep0 w w4 := HK2.out.and0 q4
  have hzip : Zip (StpIs w4 (fun b => FD b ∨ w4.heap.size ≤ b) G D z) ps (appendOps z x.half x.stop l) := by
    have e2 := HS2.out
    have e3 := hk1.size
    rw [e0] at e3
    have q3 := HKa.out.and0 q4
    have hlt : ∀ b, FD b → b < w.heap.size := fun b hb => (hFDF b hb).2
    rw [hps]
    exact ⟨stpis_mk hlt (HB2.out.keep0 q4) hxh (by omega) (HO1.out.sl.keep0 ((Keep.drew w1).and0 q3)) (fun b hb => hb) (by omega) (by omega), rfl, trivial⟩
  have hplen : ps.length = 2 := by rw [hps]; rfl
  have hcl : (appendOps z x.half x.stop l).length = 2 := rfl
  refine (steps_dsk (F := FD) (D := D) (G := G) (z := z) ps (appendOps z x.half x.stop l) w2.heap.size 0 2 2 hplen.symm (by rw [hplen]; omega) (by rw [hcl]; omega) HZ.out.symm hrow
    (fun hx => by have := (hFDF _ hx).2; have := HK2.out.size; omega) (by omega) (HD.out.keep0 hk4) (HG.out.keep0 hk4) hFDG hzip).mono ?_
  rintro e w8 ⟨rfl, hd8, hk8, hb8⟩
  rw [hcl] at hd8
  have HD8 := Lib.hid hd8
  have HK8 := Lib.hid hk8
  have HB8 := Lib.hid hb8
  have HK4 := Lib.hid hk4
  clear hw4 q4 hs4 hzip hplen hcl hrow hps
  refine hK.out _ _ ?_ (fun hHeld => ?_)
  · exact ⟨hb8.cell 0, hb8.cell 1, hb8.cell 3⟩
  clear hK K
  try simp only [Act.put, List.setIfInBounds_toArray, List.set_cons_zero, List.set_cons_succ]
  refine wpAnyH_take (i := 19) (oi := ⟨_, _, _, _, _, _⟩) (v := ?_) rfl (by kernel_rfl) (by kernel_rfl) (by kernel_rfl) (fun _ _ _ h => h) (Or.inl ⟨by rfl, ?_⟩) (by assumption) ?_
  rotate_left
  · intro W hSw; (try dsimp only at hSw); go_simp; try with_reducible rfl
  try simp only [Act.put, List.setIfInBounds_toArray, List.set_cons_zero, List.set_cons_succ]
  refine wpAnyH_done (by kernel_rfl) ?_ _
  have hk78 : Keep (fun b => FD b ∨ b = G) w w8 := (HK4.out.of0 _).andThen HK8.out
  have hs4 := HK4.out.size
  have hs8 := HK8.out.size
  have hkF : Keep F w w8 := hk78.mono fun b hb hx => by
    rcases hx with hx | hx
    · exact (hFDF b hx).1
    · rw [hx]; exact hGF.1
  have hnS : ∀ b, FL b → b ≠ G → ¬ (FD b ∨ b = G) := by
    rintro b hb hne (hx | hx)
    · exact hdis b hx hb
    · exact hne hx
  have HK78 := Lib.hid hk78
  have HKF := Lib.hid hkF
  have HS4 := Lib.hid hs4
  have HS8 := Lib.hid hs8
  have HNS := Lib.hid hnS
  clear hk78 hkF hs4 hs8 hnS hk1 hkS hc0 hc1 hc3
  by_cases h0 : s.stepsE (appendOps z x.half x.stop l) = 0
  · have hb8 := HB8.out
    rw [if_pos h0] at hb8
    rw [h0]
    have H0 := Lib.hid h0
    have hL8 : LogRep w8 G D x FL BA bn bc RA rn rc rows := HL.out.setS HK78.out HNS.out hb8 rfl rfl hbd.2.2
    have hc3 := (log_cells hb8).2.2.2.1
    have hf8 := hb8.frozen
    have HB8' := Lib.hid hb8
    have HL8 := Lib.hid hL8
    clear h0 hb8 hL8
    go_wp2_with fail
    obtain ⟨w9, hw9⟩ : ∃ w9, w9 = w8.setCell ⟨G, 3, none⟩ (.int .i64 ((x.stop : Int) + ((n : Int) + 5))) := ⟨_, rfl⟩
    rw [← hw9]
    have hb9 := HB8'.out.set_ 3 (.int .i64 ((x.stop : Int) + ((n : Int) + 5)))
    have hk9 : Keep (fun b => b = G) w8 w9 := by rw [hw9]; exact (Keep.refl (fun b => b = G) w8).set' ⟨G, 3, none⟩ _ (.inl rfl)
    rw [← hw9] at hb9
    have hs9 : w9.heap.size = w8.heap.size := by rw [hw9]; simp [World.setCell]
    have hsl9 : Sl w9.drew (fun b => X b ∧ b ≠ G) A n c l := (((HSL.out.mono (G := fun b => X b ∧ b ≠ G) fun b hb hx => ⟨hx, fun e => hXF b hx (by rw [e]; exact hGF.1)⟩).keep HK78.out fun b hb hx => by
      rcases hx with hx | hx
      · exact hXF b hb.1 (hFDF b hx).1
      · exact hb.2 hx).keep hk9 fun b hb => hb.2).keep0 (Keep.drew _)
    have hL9 : LogRep w9.drew G D { x with stop := x.stop + (n + 5) } FL BA bn bc RA rn rc rows := LogRep.setG HL8.out (hk9.drew') (by
      show Blk w9.drew G 86 (logCells D x.half x.turn ((x.stop + (n + 5) : Nat) : Int) (.slice BA bn bc) (.slice RA rn rc) x.broken)
      rw [show ((x.stop + (n + 5) : Nat) : Int) = (x.stop : Int) + ((n : Int) + 5) by omega]
      exact hb9) rfl rfl ⟨hbd.2.2.1, hbd.2.2.2.1, show x.stop + (n + 5) ≤ 65536 by omega⟩
    have HL9 := Lib.hid hL9
    have HB9 := Lib.hid hL9.blk
    have HREC := Lib.hid hL9.recs
    have HNE := Lib.hid hL9.neGR
    have HSL9 := Lib.hid hsl9
    have HK9 := Lib.hid hk9
    have HS9 := Lib.hid hs9
    have hc5 : w9.drew.cell? ⟨G, 5, none⟩ = some (.slice RA rn rc) := hL9.blk.cell 5
    clear hw9 hb9 hk9 hs9 hsl9 hL9 hc3 hf8
    go_wp2_with fail
    refine wp_region_held_drew (S := fun _ => True) (by kernel_rfl) trivial (fun hHeld => ?_)
    refine wpAnyH_take (i := 0) (oi := ⟨_, _, _, _, _, _⟩) (v := ?_) rfl (by kernel_rfl) (by kernel_rfl) (by kernel_rfl) (fun _ _ _ h => h) (Or.inl ⟨by rfl, ?_⟩) (by assumption) ?_
    rotate_left
    · intro W hSw; (try dsimp only at hSw); go_simp; try with_reducible rfl
    try simp only [Act.put, List.setIfInBounds_toArray, List.set_cons_zero, List.set_cons_succ]
    refine wpAnyH_take (i := 1) (oi := ⟨_, _, _, _, _, _⟩) (v := ?_) rfl (by kernel_rfl) (by kernel_rfl) (by kernel_rfl) (fun _ _ _ h => h) (Or.inl ⟨by rfl, ?_⟩) (by assumption) ?_
    rotate_left
    · intro W hSw; (try dsimp only at hSw); go_simp; try with_reducible rfl
    try simp only [Act.put, List.setIfInBounds_toArray, List.set_cons_zero, List.set_cons_succ]
    refine wpAnyH_take (i := 2) (oi := ⟨_, _, _, _, _, _⟩) (v := ?_) rfl (by kernel_rfl) (by kernel_rfl) (by kernel_rfl) (fun _ _ _ h => h) (Or.inl ⟨by rfl, ?_⟩) (by assumption) ?_
    rotate_left
    · intro W hSw; (try dsimp only at hSw); go_simp; try with_reducible rfl
    try simp only [Act.put, List.setIfInBounds_toArray, List.set_cons_zero, List.set_cons_succ]
    refine wpAnyH_take (i := 3) (oi := ⟨_, _, _, _, _, _⟩) (v := ?_) rfl (by kernel_rfl) (by kernel_rfl) (by kernel_rfl) (fun _ _ _ h => h) (Or.inl ⟨by rfl, ?_⟩) (by assumption) ?_
    rotate_left
    · intro W hSw; (try dsimp only at hSw); go_simp; try with_reducible rfl
    try simp only [Act.put, List.setIfInBounds_toArray, List.set_cons_zero, List.set_cons_succ]
    refine wpAnyH_take (i := 5) (oi := ⟨_, _, _, _, _, _⟩) (v := ?_) rfl (by kernel_rfl) (by kernel_rfl) (by kernel_rfl) (fun _ _ _ h => h) (Or.inl ⟨by rfl, ?_⟩) (by assumption) ?_
    rotate_left
    · intro W hSw; (try dsimp only at hSw); go_simp; try with_reducible rfl
    try simp only [Act.put, List.setIfInBounds_toArray, List.set_cons_zero, List.set_cons_succ]
    refine wpAnyH_ready (rs := [4, 6]) (by kernel_rfl) (by simp) ?_
    refine AllReadyH.cons (o := ⟨_, _, _, _, _, _⟩) rfl (fun K1 hK1 => ?_) (AllReadyH.cons (o := ⟨_, _, _, _, _, _⟩) rfl (fun K1 hK1 => ?_) AllReadyH.nil)
    · go_simp
      refine hK1.out _ _ trivial (fun hHeld2 => ?_)
      clear hK1 K1
      try simp only [Act.put, List.setIfInBounds_toArray, List.set_cons_zero, List.set_cons_succ]
      refine wpAnyH_ready (rs := [6]) (by kernel_rfl) (by simp) ?_
      refine AllReadyH.cons (o := ⟨_, _, _, _, _, _⟩) rfl (fun K1 hK1 => ?_) AllReadyH.nil
      go_simp
      refine (clone_any l _ A n c _ (HSL9.out) (by omega)).mono ?_
      rintro e w10 ⟨A10, c10, rfl, ho10, hk10⟩
      refine hK1.out _ _ trivial (fun hHeld2 => ?_)
      clear hK1 K1
      try simp only [Act.put, List.setIfInBounds_toArray, List.set_cons_zero, List.set_cons_succ]
      refine wpAnyH_ready (rs := [7]) (by kernel_rfl) (by simp) ?_
      refine AllReadyH.cons (o := ⟨_, _, _, _, _, _⟩) rfl (fun K hK => ?_) AllReadyH.nil
      go_simp
      refine hK.out _ _ ?_ (fun hHeld => ?_)
      · trivial
      clear hK K
      try simp only [Act.put, List.setIfInBounds_toArray, List.set_cons_zero, List.set_cons_succ]
      refine wpAnyH_ready (rs := [8]) (by kernel_rfl) (by simp) ?_
      refine AllReadyH.cons (o := ⟨_, _, _, _, _, _⟩) rfl (fun K1 hK1 => ?_) AllReadyH.nil
      refine step_append_rw _ rfl (.tmp 53) (.tmp 56) 62 rfl i22 _ 24 Try.underlying62 hi0 hz0 hz1 hz2 rfl (rfl) (HREC.out.keep0 (hk10.alloc' _)) ⟨w10.heap.size, 0, none⟩ 1 (.slice A10 n c10) rfl (one_cell' _ _ _) (by simp [Value.oneCell']) (by unfold maxLen; omega) (by omega) ?_
      intro A11 c11 w11 happ hk11 hblk11 hsz11
      refine hK1.out _ _ trivial (fun hHeld3 => ?_)
      clear hK1 K1
      try simp only [Act.put, List.setIfInBounds_toArray, List.set_cons_zero, List.set_cons_succ]
      have hk911 : Keep (BlkOf RA) w9.drew w11 := ((hk10.alloc' (.cells #[.slice A10 n c10] 22)).of0 _).andThen hk11
      have hb11 := HB9.out.keep hk911 HNE.out
      have hc11 : w11.cell? ⟨G, 5, none⟩ = some (.slice RA rn rc) := hb11.cell 5
      have hf11 := hb11.frozen
      have hset := hb11.set_ 5 (.slice A11 (rn + 1) c11)
      have HAPP := Lib.hid happ
      have HK911 := Lib.hid hk911
      have HBLK := Lib.hid hblk11
      have HSET := Lib.hid hset
      have HO10 := Lib.hid ho10
      have HK10 := Lib.hid hk10
      have HKB := Lib.hid hk11
      have HSZ := Lib.hid hsz11
      clear happ hk911 hblk11 hset hb11 ho10 hk10 hk11 hsz11
      refine wpAnyH_take (i := 9) (oi := ⟨_, _, _, _, _, _⟩) (v := ?_) rfl (by kernel_rfl) (by kernel_rfl) (by kernel_rfl) (fun _ _ _ h => h) (Or.inl ⟨by rfl, ?_⟩) (by assumption) ?_
      rotate_left
      · intro W hSw; (try dsimp only at hSw); go_simp; try with_reducible rfl
      try simp only [Act.put, List.setIfInBounds_toArray, List.set_cons_zero, List.set_cons_succ]
      refine wpAnyH_take (i := 10) (oi := ⟨_, _, _, _, _, _⟩) (v := ?_) rfl (by kernel_rfl) (by kernel_rfl) (by kernel_rfl) (fun _ _ _ h => h) (Or.inl ⟨by rfl, ?_⟩) (by assumption) ?_
      rotate_left
      · intro W hSw; (try dsimp only at hSw); go_simp; try with_reducible rfl
      try simp only [Act.put, List.setIfInBounds_toArray, List.set_cons_zero, List.set_cons_succ]
      refine wpAnyH_ready (rs := [11]) (by kernel_rfl) (by simp) ?_
      refine AllReadyH.cons (o := ⟨_, _, _, _, _, _⟩) rfl (fun K hK => ?_) AllReadyH.nil
      go_simp
      refine hK.out _ _ ?_ (fun hHeld => ?_)
      · trivial
      clear hK K
      try simp only [Act.put, List.setIfInBounds_toArray, List.set_cons_zero, List.set_cons_succ]
      refine wpAnyH_done (by kernel_rfl) ?_ _
      go_wp2_with fail
      go_ret
      have hgf : Keep (fun b => b = G) w11 (w11.setCell ⟨G, 5, none⟩ (.slice A11 (rn + 1) c11)) := (Keep.refl (fun b => b = G) w11).set' ⟨G, 5, none⟩ _ (.inl rfl)
      have hsz11 := HSZ.out
      have hs10 := HK10.out.size
      have hs9 := HS9.out; have hs4 := HS4.out; have hs8 := HS8.out
      have e9 : w9.drew.heap.size = w9.heap.size := rfl
      have e10 : (w10.alloc (.cells #[.slice A10 n c10] 22)).heap.size = w10.heap.size + 1 := by simp
      have hlr := logrep_append (wf := w11.setCell ⟨G, 5, none⟩ (.slice A11 (rn + 1) c11)) (.cells #[.slice A10 n c10] 22) HL9.out HO10.out HK10.out HKB.out HAPP.out HBLK.out hgf HSET.out (by omega)
      have hk8f : Keep (fun b => b = G ∨ BlkOf RA b) w8 (w11.setCell ⟨G, 5, none⟩ (.slice A11 (rn + 1) c11)) := ((HK9.out.drew'.mono (T := fun b => b = G ∨ BlkOf RA b) fun b _ e => .inl e).trans HK911.out fun b _ hb => .inr hb).trans hgf fun b _ hb => .inl hb
      have hRF : ∀ b, BlkOf RA b → FL b := HL.out.fR
      refine ⟨ret_i H0.out.symm, HKF.out.trans hk8f fun b _ hb => ?_, ?_⟩
      · rcases hb with rfl | hb
        · exact hGF.1
        · exact (hFLF b (hRF b hb)).1
      rw [H0.out, pickL_0]
      refine DL.ext ⟨Ext FD w4 w8, fun b => FL b ∨ w9.drew.heap.size ≤ b, HD8.out.keep hk8f (fun b hb hx => ?_), ⟨_, _, _, _, _, _, _, hlr⟩, ?_, ?_, ?_⟩
      · rcases hb with hb | hb
        · rcases hx with rfl | hx
          · exact hFDG hb
          · exact hdis b hb (hRF b hx)
        · rcases hx with rfl | hx
          · omega
          · have := (hFLF b (hRF b hx)).2; omega
      · rintro b (hb | hb) (hx | hx)
        · exact hdis b hb hx
        · have := (hFDF b hb).2; omega
        · have := (hFLF b hx).2; omega
        · omega
      · rintro b (hb | hb)
        · exact .inl (hFDF b hb).1
        · right; omega
      · rintro b (hb | hb)
        · exact .inl (hFLF b hb).1
        · right; omega
    · go_simp
      refine (clone_any l _ A n c _ (HSL9.out) (by omega)).mono ?_
      rintro e w10 ⟨A10, c10, rfl, ho10, hk10⟩
      refine hK1.out _ _ trivial (fun hHeld2 => ?_)
      clear hK1 K1
      try simp only [Act.put, List.setIfInBounds_toArray, List.set_cons_zero, List.set_cons_succ]
      have hcl5 : w10.cell? ⟨G, 5, none⟩ = some (.slice RA rn rc) := (HB9.out.keep0 hk10).cell 5
      refine wpAnyH_ready (rs := [4, 7]) (by kernel_rfl) (by simp) ?_
      refine AllReadyH.cons (o := ⟨_, _, _, _, _, _⟩) rfl (fun K1 hK1 => ?_) (AllReadyH.cons (o := ⟨_, _, _, _, _, _⟩) rfl (fun K1 hK1 => ?_) AllReadyH.nil)
      · go_simp
        refine hK1.out _ _ trivial (fun hHeld2 => ?_)
        clear hK1 K1
        try simp only [Act.put, List.setIfInBounds_toArray, List.set_cons_zero, List.set_cons_succ]
        refine wpAnyH_ready (rs := [7]) (by kernel_rfl) (by simp) ?_
        refine AllReadyH.cons (o := ⟨_, _, _, _, _, _⟩) rfl (fun K hK => ?_) AllReadyH.nil
        go_simp
        refine hK.out _ _ ?_ (fun hHeld => ?_)
        · trivial
        clear hK K
        try simp only [Act.put, List.setIfInBounds_toArray, List.set_cons_zero, List.set_cons_succ]
        clear hcl5
        refine wpAnyH_ready (rs := [8]) (by kernel_rfl) (by simp) ?_
        refine AllReadyH.cons (o := ⟨_, _, _, _, _, _⟩) rfl (fun K1 hK1 => ?_) AllReadyH.nil
        refine step_append_rw _ rfl (.tmp 53) (.tmp 56) 62 rfl i22 _ 24 Try.underlying62 hi0 hz0 hz1 hz2 rfl (rfl) (HREC.out.keep0 (hk10.alloc' _)) ⟨w10.heap.size, 0, none⟩ 1 (.slice A10 n c10) rfl (one_cell' _ _ _) (by simp [Value.oneCell']) (by unfold maxLen; omega) (by omega) ?_
        intro A11 c11 w11 happ hk11 hblk11 hsz11
        refine hK1.out _ _ trivial (fun hHeld3 => ?_)
        clear hK1 K1
        try simp only [Act.put, List.setIfInBounds_toArray, List.set_cons_zero, List.set_cons_succ]
        have hk911 : Keep (BlkOf RA) w9.drew w11 := ((hk10.alloc' (.cells #[.slice A10 n c10] 22)).of0 _).andThen hk11
        have hb11 := HB9.out.keep hk911 HNE.out
        have hc11 : w11.cell? ⟨G, 5, none⟩ = some (.slice RA rn rc) := hb11.cell 5
        have hf11 := hb11.frozen
        have hset := hb11.set_ 5 (.slice A11 (rn + 1) c11)
        have HAPP := Lib.hid happ
        have HK911 := Lib.hid hk911
        have HBLK := Lib.hid hblk11
        have HSET := Lib.hid hset
        have HO10 := Lib.hid ho10
        have HK10 := Lib.hid hk10
        have HKB := Lib.hid hk11
        have HSZ := Lib.hid hsz11
        clear happ hk911 hblk11 hset hb11 ho10 hk10 hk11 hsz11
        refine wpAnyH_take (i := 9) (oi := ⟨_, _, _, _, _, _⟩) (v := ?_) rfl (by kernel_rfl) (by kernel_rfl) (by kernel_rfl) (fun _ _ _ h => h) (Or.inl ⟨by rfl, ?_⟩) (by assumption) ?_
        rotate_left
        · intro W hSw; (try dsimp only at hSw); go_simp; try with_reducible rfl
        try simp only [Act.put, List.setIfInBounds_toArray, List.set_cons_zero, List.set_cons_succ]
        refine wpAnyH_take (i := 10) (oi := ⟨_, _, _, _, _, _⟩) (v := ?_) rfl (by kernel_rfl) (by kernel_rfl) (by kernel_rfl) (fun _ _ _ h => h) (Or.inl ⟨by rfl, ?_⟩) (by assumption) ?_
        rotate_left
        · intro W hSw; (try dsimp only at hSw); go_simp; try with_reducible rfl
        try simp only [Act.put, List.setIfInBounds_toArray, List.set_cons_zero, List.set_cons_succ]
        refine wpAnyH_ready (rs := [11]) (by kernel_rfl) (by simp) ?_
        refine AllReadyH.cons (o := ⟨_, _, _, _, _, _⟩) rfl (fun K hK => ?_) AllReadyH.nil
        go_simp
        refine hK.out _ _ ?_ (fun hHeld => ?_)
        · trivial
        clear hK K
        try simp only [Act.put, List.setIfInBounds_toArray, List.set_cons_zero, List.set_cons_succ]
        refine wpAnyH_done (by kernel_rfl) ?_ _
        go_wp2_with fail
        go_ret
        have hgf : Keep (fun b => b = G) w11 (w11.setCell ⟨G, 5, none⟩ (.slice A11 (rn + 1) c11)) := (Keep.refl (fun b => b = G) w11).set' ⟨G, 5, none⟩ _ (.inl rfl)
        have hsz11 := HSZ.out
        have hs10 := HK10.out.size
        have hs9 := HS9.out; have hs4 := HS4.out; have hs8 := HS8.out
        have e9 : w9.drew.heap.size = w9.heap.size := rfl
        have e10 : (w10.alloc (.cells #[.slice A10 n c10] 22)).heap.size = w10.heap.size + 1 := by simp
        have hlr := logrep_append (wf := w11.setCell ⟨G, 5, none⟩ (.slice A11 (rn + 1) c11)) (.cells #[.slice A10 n c10] 22) HL9.out HO10.out HK10.out HKB.out HAPP.out HBLK.out hgf HSET.out (by omega)
        have hk8f : Keep (fun b => b = G ∨ BlkOf RA b) w8 (w11.setCell ⟨G, 5, none⟩ (.slice A11 (rn + 1) c11)) := ((HK9.out.drew'.mono (T := fun b => b = G ∨ BlkOf RA b) fun b _ e => .inl e).trans HK911.out fun b _ hb => .inr hb).trans hgf fun b _ hb => .inl hb
        have hRF : ∀ b, BlkOf RA b → FL b := HL.out.fR
        refine ⟨ret_i H0.out.symm, HKF.out.trans hk8f fun b _ hb => ?_, ?_⟩
        · rcases hb with rfl | hb
          · exact hGF.1
          · exact (hFLF b (hRF b hb)).1
        rw [H0.out, pickL_0]
        refine DL.ext ⟨Ext FD w4 w8, fun b => FL b ∨ w9.drew.heap.size ≤ b, HD8.out.keep hk8f (fun b hb hx => ?_), ⟨_, _, _, _, _, _, _, hlr⟩, ?_, ?_, ?_⟩
        · rcases hb with hb | hb
          · rcases hx with rfl | hx
            · exact hFDG hb
            · exact hdis b hb (hRF b hx)
          · rcases hx with rfl | hx
            · omega
            · have := (hFLF b (hRF b hx)).2; omega
        · rintro b (hb | hb) (hx | hx)
          · exact hdis b hb hx
          · have := (hFDF b hb).2; omega
          · have := (hFLF b hx).2; omega
          · omega
        · rintro b (hb | hb)
          · exact .inl (hFDF b hb).1
          · right; omega
        · rintro b (hb | hb)
          · exact .inl (hFLF b hb).1
          · right; omega
      · go_simp
        refine hK1.out _ _ trivial (fun hHeld2 => ?_)
        clear hK1 K1
        try simp only [Act.put, List.setIfInBounds_toArray, List.set_cons_zero, List.set_cons_succ]
        have hcl5' := (HB9.out.keep0 (hk10.alloc' (.cells #[.slice A10 n c10] 22))).cell 5
        refine wpAnyH_ready (rs := [4]) (by kernel_rfl) (by simp) ?_
        refine AllReadyH.cons (o := ⟨_, _, _, _, _, _⟩) rfl (fun K hK => ?_) AllReadyH.nil
        go_simp
        refine hK.out _ _ ?_ (fun hHeld => ?_)
        · trivial
        clear hK K
        try simp only [Act.put, List.setIfInBounds_toArray, List.set_cons_zero, List.set_cons_succ]
        clear hcl5 hcl5'
        refine wpAnyH_ready (rs := [8]) (by kernel_rfl) (by simp) ?_
        refine AllReadyH.cons (o := ⟨_, _, _, _, _, _⟩) rfl (fun K1 hK1 => ?_) AllReadyH.nil
        refine step_append_rw _ rfl (.tmp 53) (.tmp 56) 62 rfl i22 _ 24 Try.underlying62 hi0 hz0 hz1 hz2 rfl (rfl) (HREC.out.keep0 (hk10.alloc' _)) ⟨w10.heap.size, 0, none⟩ 1 (.slice A10 n c10) rfl (one_cell' _ _ _) (by simp [Value.oneCell']) (by unfold maxLen; omega) (by omega) ?_
        intro A11 c11 w11 happ hk11 hblk11 hsz11
        refine hK1.out _ _ trivial (fun hHeld3 => ?_)
        clear hK1 K1
        try simp only [Act.put, List.setIfInBounds_toArray, List.set_cons_zero, List.set_cons_succ]
        have hk911 : Keep (BlkOf RA) w9.drew w11 := ((hk10.alloc' (.cells #[.slice A10 n c10] 22)).of0 _).andThen hk11
        have hb11 := HB9.out.keep hk911 HNE.out
        have hc11 : w11.cell? ⟨G, 5, none⟩ = some (.slice RA rn rc) := hb11.cell 5
        have hf11 := hb11.frozen
        have hset := hb11.set_ 5 (.slice A11 (rn + 1) c11)
        have HAPP := Lib.hid happ
        have HK911 := Lib.hid hk911
        have HBLK := Lib.hid hblk11
        have HSET := Lib.hid hset
        have HO10 := Lib.hid ho10
        have HK10 := Lib.hid hk10
        have HKB := Lib.hid hk11
        have HSZ := Lib.hid hsz11
        clear happ hk911 hblk11 hset hb11 ho10 hk10 hk11 hsz11
        refine wpAnyH_take (i := 9) (oi := ⟨_, _, _, _, _, _⟩) (v := ?_) rfl (by kernel_rfl) (by kernel_rfl) (by kernel_rfl) (fun _ _ _ h => h) (Or.inl ⟨by rfl, ?_⟩) (by assumption) ?_
        rotate_left
        · intro W hSw; (try dsimp only at hSw); go_simp; try with_reducible rfl
        try simp only [Act.put, List.setIfInBounds_toArray, List.set_cons_zero, List.set_cons_succ]
        refine wpAnyH_take (i := 10) (oi := ⟨_, _, _, _, _, _⟩) (v := ?_) rfl (by kernel_rfl) (by kernel_rfl) (by kernel_rfl) (fun _ _ _ h => h) (Or.inl ⟨by rfl, ?_⟩) (by assumption) ?_
        rotate_left
        · intro W hSw; (try dsimp only at hSw); go_simp; try with_reducible rfl
        try simp only [Act.put, List.setIfInBounds_toArray, List.set_cons_zero, List.set_cons_succ]
        refine wpAnyH_ready (rs := [11]) (by kernel_rfl) (by simp) ?_
        refine AllReadyH.cons (o := ⟨_, _, _, _, _, _⟩) rfl (fun K hK => ?_) AllReadyH.nil
        go_simp
        refine hK.out _ _ ?_ (fun hHeld => ?_)
        · trivial
        clear hK K
        try simp only [Act.put, List.setIfInBounds_toArray, List.set_cons_zero, List.set_cons_succ]
        refine wpAnyH_done (by kernel_rfl) ?_ _
        go_wp2_with fail
        go_ret
        have hgf : Keep (fun b => b = G) w11 (w11.setCell ⟨G, 5, none⟩ (.slice A11 (rn + 1) c11)) := (Keep.refl (fun b => b = G) w11).set' ⟨G, 5, none⟩ _ (.inl rfl)
        have hsz11 := HSZ.out
        have hs10 := HK10.out.size
        have hs9 := HS9.out; have hs4 := HS4.out; have hs8 := HS8.out
        have e9 : w9.drew.heap.size = w9.heap.size := rfl
        have e10 : (w10.alloc (.cells #[.slice A10 n c10] 22)).heap.size = w10.heap.size + 1 := by simp
        have hlr := logrep_append (wf := w11.setCell ⟨G, 5, none⟩ (.slice A11 (rn + 1) c11)) (.cells #[.slice A10 n c10] 22) HL9.out HO10.out HK10.out HKB.out HAPP.out HBLK.out hgf HSET.out (by omega)
        have hk8f : Keep (fun b => b = G ∨ BlkOf RA b) w8 (w11.setCell ⟨G, 5, none⟩ (.slice A11 (rn + 1) c11)) := ((HK9.out.drew'.mono (T := fun b => b = G ∨ BlkOf RA b) fun b _ e => .inl e).trans HK911.out fun b _ hb => .inr hb).trans hgf fun b _ hb => .inl hb
        have hRF : ∀ b, BlkOf RA b → FL b := HL.out.fR
        refine ⟨ret_i H0.out.symm, HKF.out.trans hk8f fun b _ hb => ?_, ?_⟩
        · rcases hb with rfl | hb
          · exact hGF.1
          · exact (hFLF b (hRF b hb)).1
        rw [H0.out, pickL_0]
        refine DL.ext ⟨Ext FD w4 w8, fun b => FL b ∨ w9.drew.heap.size ≤ b, HD8.out.keep hk8f (fun b hb hx => ?_), ⟨_, _, _, _, _, _, _, hlr⟩, ?_, ?_, ?_⟩
        · rcases hb with hb | hb
          · rcases hx with rfl | hx
            · exact hFDG hb
            · exact hdis b hb (hRF b hx)
          · rcases hx with rfl | hx
            · omega
            · have := (hFLF b (hRF b hx)).2; omega
        · rintro b (hb | hb) (hx | hx)
          · exact hdis b hb hx
          · have := (hFDF b hb).2; omega
          · have := (hFLF b hx).2; omega
          · omega
        · rintro b (hb | hb)
          · exact .inl (hFDF b hb).1
          · right; omega
        · rintro b (hb | hb)
          · exact .inl (hFLF b hb).1
          · right; omega
  · have hb8 := HB8.out
    rw [if_neg h0] at hb8
    obtain ⟨E, hE⟩ : ∃ E, E = s.stepsE (appendOps z x.half x.stop l) := ⟨_, rfl⟩
    have HE := Lib.hid hE
    rw [← hE] at h0 ⊢
    have jb1 : (E == 0) = false := by simpa using h0
    have jb2 : (E != 0) = true := by simpa using h0
    have H0 := Lib.hid h0
    have HB8' := Lib.hid hb8
    clear hE h0 hb8
    go_wp2_with fail
    go_ret
    have hs4 := HS4.out; have hs8 := HS8.out
    refine ⟨ret_i HE.out, HKF.out, ?_⟩
    rw [pickL_ne (by rw [← HE.out]; exact H0.out)]
    refine DL.ext ⟨Ext FD w4 w8, FL, HD8.out, ⟨BA, bn, bc, RA, rn, rc, rows, HL.out.setS HK78.out HNS.out HB8'.out rfl rfl hbd.2.2⟩, ?_, ?_, ?_⟩
    · rintro b (hb | hb) hx
      · exact hdis b hb hx
      · have := (hFLF b hx).2; omega
    · rintro b (hb | hb)
      · exact .inl (hFDF b hb).1
      · right; omega
    · intro b hb; exact .inl (hFLF b hb).1
end
end Go.Proofs.Ytbdencfgiemliaa
