/-
  Contract of a disk's Write. Conditions: the disk lies so in memory, and its count of pending writes is below 2^30.
-/
import Derived.Test.YtbdencfgiemliaaDisk6
import Derived.Deep.RegionHeld3
namespace Go.Proofs.Ytbdencfgiemliaa
open Go.RowKit
theorem info81 : (Try.prog.info? 81).map (fun i => (i.zero, i.size, i.bytes)) = some (some (.agg #[.int .i64 0, .slice none 0 0]), 2, 32) := by kernel_rfl
section
variable {F G : Nat → Prop} {w : World} {D m : Nat} {s : DSt}
set_option maxRecDepth 20000
set_option maxHeartbeats 1000000
theorem write_err (a : Int) (l : List UInt8) (A : Option Addr) (n c : Nat) (ha : -9223372036854775808 ≤ a ∧ a ≤ 9223372036854775807) (hl : l.length = n) (hz : ¬ s.ask a n = 0) (hd : Dsk w D s m F) : Calls Try.prog 27 #[.pointer (some ⟨D, 0, none⟩), .int .i64 a, .slice A n c] w fun e w' =>
    e = .returned (.int .i64 (s.writeE a l)) ∧ s.write a l = s ∧ w = w' := by
  have e1 : s.writeE a l = s.ask a n := by unfold DSt.writeE; rw [hl, if_neg hz]
  have e2 : s.write a l = s := by unfold DSt.write; rw [hl, if_neg hz]
  rw [e1, e2]
  have HD := Lib.hid hd
  have hz1 : (s.ask a n == 0) = false := by simpa using hz
  have hz2 : (s.ask a n != 0) = true := by simpa using hz
  clear e1 e2 hz hd hl
  go_enter Try.func27, Try.ntmps27
  go_wp2_with fail
  refine (ask_any a n ha HD.out).mono ?_
  rintro e w' ⟨rfl, rfl⟩
  go_wp2_with fail
  go_ret
  exact ⟨rfl, trivial, rfl⟩
/-- The disk behind the append of what was written, ahead of 'stops'. -/
theorem write_rep {w1 w2 w3 w5 : World} {K pn pc n c1 i c' : Nat} {P A1 P' : Option Addr} {ents : List Ent} {l : List UInt8} (h : DskRep w D s m F K P pn pc ents)
    (hown1 : Own w1 w.heap.size 5 A1 n c1 (l.map bv)) (hk1 : Keep0 w w1) (h12 : Keep0 w1 w2) (hs2 : w2.heap.size = w1.heap.size + 1)
    (happ : w3.ownsRow 0 81 2 (.slice P' (pn + 1) c') (pn + 1) (ents.flatMap Ent.cells ++ [.int .i64 (i : Int), .slice A1 n c1])) (hg : w2.grownBy w3 (Value.slice P pn pc).ownBlock)
    (hat : (Value.slice P' (pn + 1) c').ownBlock = (Value.slice P pn pc).ownBlock ∨ (Value.slice P' (pn + 1) c').ownBlock = some w2.heap.size)
    (hik : i + n ≤ s.kept.length) (h35 : Keep (fun b => b = D) w3 w5)
    (hb5 : Blk w5 D 78 #[.slice (some ⟨K, 0, none⟩) s.kept.length s.kept.length, .slice P' (pn + 1) c', .int .i64 ((s.waits.length + n : Nat) : Int), .bool s.down, .int .i64 (s.armed : Int)]) :
    Dsk w5 D { s with waits := s.waits ++ at_ i l } (m + 1) (Ext F w w5) ∧ Keep F w w5 := by
  have hl : l.length = n := by have := hown1.len; simpa using this
  have hPlt := fun g hg => (h.pend.lt g hg).2
  have hKlt := h.ltK
  have hDlt := h.blk.lt
  have hs1 := hk1.size
  have hs3 : w2.heap.size ≤ w3.heap.size := hg.size
  have hs5 := h35.size
  have hP3 : ∀ g, (Value.slice P' (pn + 1) c').ownBlock = some g → g < w3.heap.size := fun g hg => (happ.lt g hg).2
  have hP'D : ∀ g, (Value.slice P' (pn + 1) c').ownBlock = some g → g ≠ D ∧ g ≠ K ∧ ((Value.slice P pn pc).ownBlock = some g ∨ w1.heap.size ≤ g) := by
    intro g hg'
    rcases hat with e | e
    · rw [e] at hg'
      exact ⟨h.nePD g hg', h.nePK g hg', .inl hg'⟩
    · rw [e] at hg'
      injection hg' with hg'
      exact ⟨by omega, by omega, .inr (by omega)⟩
  have hk2 : Keep0 w w2 := hk1.and0 h12
  have hk23 : Keep (fun b => (Value.slice P pn pc).ownBlock = some b) w2 w3 := Keep.ofGrown hg fun k hk => hk
  have hk25 : Keep (fun b => b = D ∨ (Value.slice P pn pc).ownBlock = some b) w2 w5 := (hk23.mono fun b _ hb => .inr hb).andThen (h35.mono fun b _ hb => .inl hb)
  have hkw5 : Keep F w w5 := (hk2.of0 F).trans hk25 fun b _ hb => by
    rcases hb with rfl | hb
    · exact h.fD
    · exact h.fP b hb
  refine ⟨⟨K, P', pn + 1, c', ents ++ [⟨i, A1, n, c1, l⟩], ?_, ?_, ?_, ?_, ?_, ?_, ?_, ?_, ?_, ?_, ?_, ?_⟩, hkw5⟩
  · simp only [List.length_append, at_len, hl]
    exact hb5
  · have h2 := ownsRow_keep h.kept hk2 fun _ _ hb => hb
    exact ownsRow_keep h2 hk25 (fun g hg => by
      simp [Value.ownBlock] at hg
      subst hg
      rintro (hx | hx)
      · exact h.neKD hx
      · exact h.nePK K hx rfl)
  · rw [List.flatMap_append]
    have h4 : [(⟨i, A1, n, c1, l⟩ : Ent)].flatMap Ent.cells = [.int .i64 (i : Int), .slice A1 n c1] := rfl
    rw [h4]
    exact ownsRow_keep happ h35 fun g hg => (hP'D g hg).1
  · intro e he
    rcases List.mem_append.1 he with he | he
    · have h1 := ((h.each e he).keep0 hk2).keep hk25 (fun b hb hx => by
        rcases hx with rfl | hx
        · exact hb.2.1 rfl
        · cases P with
          | none => simp [Value.ownBlock] at hx
          | some pa => simp [Value.ownBlock] at hx; exact hb.2.2.2 pa rfl hx.symm)
      have h0 := (h.each e he).mono (G := fun b => b < w.heap.size ∧ F b ∧ Off D K P b) fun b hb hf => ⟨hb, hf⟩
      have h2 := (h0.keep0 hk2).keep hk25 (fun b hb hx => by
        rcases hx with rfl | hx
        · exact hb.2.2.1 rfl
        · cases P with
          | none => simp [Value.ownBlock] at hx
          | some pa => simp [Value.ownBlock] at hx; exact hb.2.2.2.2 pa rfl hx.symm)
      refine h2.mono fun b _ hb => ⟨.inl hb.2.1, hb.2.2.1, hb.2.2.2.1, fun pa hpa hbp => ?_⟩
      rcases (hP'D b (by rw [hpa, hbp]; rfl)).2.2 with hx | hx
      · cases P with
        | none => simp [Value.ownBlock] at hx
        | some pa => simp [Value.ownBlock] at hx; exact hb.2.2.2.2 pa rfl hx.symm
      · have := hb.1; omega
    · rw [List.mem_singleton] at he
      subst he
      have h0 := hown1.sl.mono (G := fun b => w.heap.size ≤ b ∧ b < w1.heap.size) fun b hb hf => ⟨hf, hb⟩
      have h2 := (h0.keep0 h12).keep hk25 (fun b hb hx => by
        rcases hx with rfl | hx
        · omega
        · have := hPlt b hx; omega)
      refine h2.mono fun b _ hb => ⟨.inr ⟨hb.1, by omega⟩, by omega, by omega, fun pa hpa hbp => ?_⟩
      rcases (hP'D b (by rw [hpa, hbp]; rfl)).2.2 with hx | hx
      · have := hPlt b hx; omega
      · omega
  · simp only
    rw [h.waits, List.flatMap_append]
    have h4 : [(⟨i, A1, n, c1, l⟩ : Ent)].flatMap Ent.waits = at_ i l := by simp [Ent.waits]
    rw [h4]
  · refine ⟨h.ok.size, ?_, h.ok.arm⟩
    intro p hp
    rcases List.mem_append.1 hp with hp | hp
    · exact h.ok.pend p hp
    · have := at_mem l i p hp
      have h9 : p.1 < s.kept.length := by omega
      exact h9
  · intro e he
    rcases List.mem_append.1 he with he | he
    · exact h.bd e he
    · rw [List.mem_singleton] at he
      subst he
      have := h.ok.size
      exact ⟨by show i ≤ 65536; omega, by show l.length ≤ 65536; omega⟩
  · have := h.cnt; omega
  · have := h.few
    have := h.ok.size
    simp only [List.length_append, at_len]
    omega
  · exact .inl h.fD
  · exact .inl h.fK
  · intro g hg'
    rcases (hP'D g hg').2.2 with hx | hx
    · exact .inl (h.fP g hx)
    · exact .inr ⟨by omega, by have := hP3 g hg'; omega⟩
theorem write_any (a : Int) (l : List UInt8) (A : Option Addr) (n c : Nat) (ha : -9223372036854775808 ≤ a ∧ a ≤ 9223372036854775807) (hsl : Sl w G A n c l) (hm : m ≤ 1073741824) (hd : Dsk w D s m F) : Calls Try.prog 27 #[.pointer (some ⟨D, 0, none⟩), .int .i64 a, .slice A n c] w fun e w' =>
    e = .returned (.int .i64 (s.writeE a l)) ∧ Dsk w' D (s.write a l) (m + 1) (Ext F w w') ∧ Keep F w w' := by
  by_cases hz : s.ask a n = 0
  · obtain ⟨hdn, i, k, rfl, hk, hik⟩ := ask_cases s a n hz
    obtain rfl : n = k := by omega
    have hll := hsl.len
    have e1 : s.writeE (i : Int) l = (s.put i l).errno := by unfold DSt.writeE; rw [hll, if_pos hz]; rfl
    have e2 : s.write (i : Int) l = s.put i l := by unfold DSt.write; rw [hll, if_pos hz]; rfl
    have e3 : s.put i l = ({ s with waits := s.waits ++ at_ i l } : DSt).stop := rfl
    rw [e1, e2, e3]
    have HD := Lib.hid hd
    obtain ⟨K, P, pn, pc, ents, h⟩ := hd
    obtain ⟨c0, c1, c2, c3, c4, hf⟩ := h.cells
    have hsz := h.ok.size
    have hfew := h.few
    have hcnt := h.cnt
    have H := Lib.hid h
    have HZ := Lib.hid hz
    have HSL := Lib.hid hsl
    have HDN := Lib.hid hdn
    have HK := Lib.hid hik
    clear h hz e1 e2 e3 c0 c3 c4 hdn hll hsl hk
    obtain ⟨j0, hj0, hz0, hz1, hz2⟩ := info_parts info81
    go_enter Try.func27, Try.ntmps27
    go_wp2_with fail
    refine (ask_any i n (by omega) HD.out).mono ?_
    rintro e w' ⟨rfl, rfl⟩
    rw [HZ.out]
    go_wp2_with fail
    refine wp_region_held_drew (S := fun _ => True) (by kernel_rfl) trivial (fun hHeld => ?_)
    refine wpAnyH_take (i := 0) (oi := ⟨_, _, _, _, _, _⟩) (v := ?_) rfl (by kernel_rfl) (by kernel_rfl) (by kernel_rfl) (fun _ _ _ h => h) (Or.inl ⟨by rfl, ?_⟩) (by assumption) ?_
    rotate_left
    · intro W hSw; (try dsimp only at hSw); go_simp; try with_reducible rfl
    try simp only [Act.put, List.setIfInBounds_toArray, List.set_cons_zero, List.set_cons_succ]
    refine wpAnyH_take (i := 1) (oi := ⟨_, _, _, _, _, _⟩) (v := ?_) rfl (by kernel_rfl) (by kernel_rfl) (by kernel_rfl) (fun _ _ _ h => h) (Or.inl ⟨by rfl, ?_⟩) (by assumption) ?_
    rotate_left
    · intro W hSw; (try dsimp only at hSw); go_simp; try with_reducible rfl
    try simp only [Act.put, List.setIfInBounds_toArray, List.set_cons_zero, List.set_cons_succ]
    refine wpAnyH_take (i := 2) (oi := ⟨_, _, _, _, _, _⟩) (v := ?_) rfl (by kernel_rfl) (by kernel_rfl) (by kernel_rfl) (fun _ _ _ h => h) (Or.inl ⟨by rfl, ?_⟩) (by assumption) ?_
    rotate_left
    · intro W hSw; (try dsimp only at hSw); go_simp; try with_reducible rfl
    try simp only [Act.put, List.setIfInBounds_toArray, List.set_cons_zero, List.set_cons_succ]
    refine wpAnyH_take (i := 3) (oi := ⟨_, _, _, _, _, _⟩) (v := ?_) rfl (by kernel_rfl) (by kernel_rfl) (by kernel_rfl) (fun _ _ _ h => h) (Or.inl ⟨by rfl, ?_⟩) (by assumption) ?_
    rotate_left
    · intro W hSw; (try dsimp only at hSw); go_simp; try with_reducible rfl
    try simp only [Act.put, List.setIfInBounds_toArray, List.set_cons_zero, List.set_cons_succ]
    refine wpAnyH_take (i := 5) (oi := ⟨_, _, _, _, _, _⟩) (v := ?_) rfl (by kernel_rfl) (by kernel_rfl) (by kernel_rfl) (fun _ _ _ h => h) (Or.inl ⟨by rfl, ?_⟩) (by assumption) ?_
    rotate_left
    · intro W hSw; (try dsimp only at hSw); go_simp; try with_reducible rfl
    try simp only [Act.put, List.setIfInBounds_toArray, List.set_cons_zero, List.set_cons_succ]
    refine wpAnyH_take (i := 6) (oi := ⟨_, _, _, _, _, _⟩) (v := ?_) rfl (by kernel_rfl) (by kernel_rfl) (by kernel_rfl) (fun _ _ _ h => h) (Or.inl ⟨by rfl, ?_⟩) (by assumption) ?_
    rotate_left
    · intro W hSw; (try dsimp only at hSw); go_simp; try with_reducible rfl
    try simp only [Act.put, List.setIfInBounds_toArray, List.set_cons_zero, List.set_cons_succ]
    have hk0 : Keep0 w w.drew := Keep.drew w
    refine wpAnyH_ready (rs := [4, 7]) (by kernel_rfl) (by simp) ?_
    refine AllReadyH.cons (o := ⟨_, _, _, _, _, _⟩) rfl (fun K1 hK1 => ?_) (AllReadyH.cons (o := ⟨_, _, _, _, _, _⟩) rfl (fun K1 hK1 => ?_) AllReadyH.nil)
    · go_simp
      refine hK1.out _ _ trivial (fun hHeld2 => ?_)
      clear hK1 K1
      try simp only [Act.put, List.setIfInBounds_toArray, List.set_cons_zero, List.set_cons_succ]
      refine wpAnyH_ready (rs := [7]) (by kernel_rfl) (by simp) ?_
      refine AllReadyH.cons (o := ⟨_, _, _, _, _, _⟩) rfl (fun K hK => ?_) AllReadyH.nil
      go_simp
      refine (clone_any l G A n c _ (HSL.out.keep0 hk0) (by omega)).mono ?_
      rintro e w1 ⟨A1, cc1, rfl, hown1, hk1⟩
      refine hK.out _ _ ?_ (fun hHeld => ?_)
      · trivial
      clear hK K
      try simp only [Act.put, List.setIfInBounds_toArray, List.set_cons_zero, List.set_cons_succ]
      refine wpAnyH_take (i := 8) (oi := ⟨_, _, _, _, _, _⟩) (v := ?_) rfl (by kernel_rfl) (by kernel_rfl) (by kernel_rfl) (fun _ _ _ h => h) (Or.inl ⟨by rfl, ?_⟩) (by assumption) ?_
      rotate_left
      · intro W hSw; (try dsimp only at hSw); go_simp; try with_reducible rfl
      try simp only [Act.put, List.setIfInBounds_toArray, List.set_cons_zero, List.set_cons_succ]
      refine wpAnyH_ready (rs := [9]) (by kernel_rfl) (by simp) ?_
      refine AllReadyH.cons (o := ⟨_, _, _, _, _, _⟩) rfl (fun K hK => ?_) AllReadyH.nil
      go_simp
      refine hK.out _ _ ?_ (fun hHeld => ?_)
      · trivial
      clear hK K
      try simp only [Act.put, List.setIfInBounds_toArray, List.set_cons_zero, List.set_cons_succ]
      refine wpAnyH_ready (rs := [10]) (by kernel_rfl) (by simp) ?_
      refine AllReadyH.cons (o := ⟨_, _, _, _, _, _⟩) rfl (fun K1 hK1 => ?_) AllReadyH.nil
      refine step_append_rd _ rfl (.tmp 20) (.tmp 25) 76 rfl 0 81 j0 _ 2 32 Try.underlying76 hj0 hz0 hz1 hz2 rfl (by omega) (.slice P pn pc) pn (ents.flatMap Ent.cells) rfl (ownsRow_keep H.out.pend ((hk0.and0 hk1).alloc' _) fun _ _ hb => hb) (fun _ => True) (some ⟨w1.heap.size, 0, none⟩) 1 1 [.int .i64 (i : Int), .slice A1 n cc1] rfl rfl (.inr ⟨_, _, rfl, trivial, two_cells _ _ _ _⟩) (by simp [Value.oneCell']) (by simp only [maxLen]; omega) (by omega) (Nat.zero_le _) ?_
      intro P' c' w3 happ hg hat
      refine hK1.out _ _ trivial (fun hHeld3 => ?_)
      clear hK1 K1
      try simp only [Act.put, List.setIfInBounds_toArray, List.set_cons_zero, List.set_cons_succ]
      have hk03 : Keep (fun b => (Value.slice P pn pc).ownBlock = some b) w w3 := (((hk0.and0 hk1).alloc' (.cells #[.int .i64 (i : Int), .slice A1 n cc1] 81)).of0 _).andThen (Keep.ofGrown hg fun k hk => hk)
      have hb3 := H.out.blk.keep hk03 (fun hx => H.out.nePD D hx rfl)
      have hc3 : w3.cell? ⟨D, 1, none⟩ = some (.slice P pn pc) := hb3.cell 1
      have hc4 : w3.cell? ⟨D, 2, none⟩ = some (.int .i64 (s.waits.length : Int)) := hb3.cell 2
      have hf3 := hb3.frozen
      have hset := (hb3.set_ 1 (.slice P' (pn + 1) c')).set_ 2 (.int .i64 ((s.waits.length + n : Nat) : Int))
      have hk35 : Keep (fun b => b = D) w3 ((w3.setCell ⟨D, 1, none⟩ (.slice P' (pn + 1) c')).setCell ⟨D, 2, none⟩ (.int .i64 ((s.waits.length + n : Nat) : Int))) := (Keep.setCell (S := fun b => b = D) w3 ⟨D, 1, none⟩ _ rfl).andThen (Keep.setCell (S := fun b => b = D) _ ⟨D, 2, none⟩ _ rfl)
      have hrep := write_rep (w := w) (i := i) (l := l) (n := n) (c1 := cc1) (A1 := A1) H.out (hown1.mono (by simp)) (hk0.and0 hk1) (Keep.alloc w1 _) (by simp) happ hg hat hik hk35 hset
      have e9 : ((s.waits.length + n : Nat) : Int) = (s.waits.length : Int) + (n : Int) := by omega
      rw [e9] at hrep
      have HREP := Lib.hid hrep
      clear hrep hset hk35 hb3 hk03 hg hat happ hown1 hk1 hk0 e9 c1 c2 hf
      refine wpAnyH_take (i := 11) (oi := ⟨_, _, _, _, _, _⟩) (v := ?_) rfl (by kernel_rfl) (by kernel_rfl) (by kernel_rfl) (fun _ _ _ h => h) (Or.inl ⟨by rfl, ?_⟩) (by assumption) ?_
      rotate_left
      · intro W hSw; (try dsimp only at hSw); go_simp; try with_reducible rfl
      try simp only [Act.put, List.setIfInBounds_toArray, List.set_cons_zero, List.set_cons_succ]
      refine wpAnyH_take (i := 12) (oi := ⟨_, _, _, _, _, _⟩) (v := ?_) rfl (by kernel_rfl) (by kernel_rfl) (by kernel_rfl) (fun _ _ _ h => h) (Or.inl ⟨by rfl, ?_⟩) (by assumption) ?_
      rotate_left
      · intro W hSw; (try dsimp only at hSw); go_simp; try with_reducible rfl
      try simp only [Act.put, List.setIfInBounds_toArray, List.set_cons_zero, List.set_cons_succ]
      refine wpAnyH_ready (rs := [13]) (by kernel_rfl) (by simp) ?_
      refine AllReadyH.cons (o := ⟨_, _, _, _, _, _⟩) rfl (fun K hK => ?_) AllReadyH.nil
      go_simp
      refine hK.out _ _ ?_ (fun hHeld => ?_)
      · trivial
      clear hK K
      try simp only [Act.put, List.setIfInBounds_toArray, List.set_cons_zero, List.set_cons_succ]
      refine wpAnyH_done (by kernel_rfl) ?_ _
      go_wp2_with fail
      refine (stops_any (s := { s with waits := s.waits ++ at_ i l }) HDN.out HREP.out.1).mono ?_
      rintro e w6 ⟨rfl, hd6, hk6⟩
      have hfin : Dsk w6 D ({ s with waits := s.waits ++ at_ i l } : DSt).stop (m + 1) (Ext F w w6) := hd6.mono fun b _ hb => by
        rcases hb with hb | hb
        · exact .inl hb
        · exact .inr ⟨hb.1, Nat.lt_of_lt_of_le hb.2 hk6.size⟩
      have hkf : Keep F w w6 := HREP.out.2.trans hk6 fun b _ e => by rw [e]; exact H.out.fD
      have HF := Lib.hid hfin
      have HKF := Lib.hid hkf
      clear hd6 hk6 hfin hkf
      by_cases hsd : ({ s with waits := s.waits ++ at_ i l } : DSt).stop.down = true
      · have HSD := Lib.hid hsd
        rw [hsd]
        clear hsd
        go_wp2_with fail
        go_ret
        exact ⟨ret_i (by unfold DSt.errno; rw [HSD.out]; rfl), HF.out, HKF.out⟩
      · have hsd' : ({ s with waits := s.waits ++ at_ i l } : DSt).stop.down = false := by simpa using hsd
        have HSD := Lib.hid hsd'
        rw [hsd']
        clear hsd hsd'
        go_wp2_with fail
        go_ret
        exact ⟨ret_i (by unfold DSt.errno; rw [HSD.out]; rfl), HF.out, HKF.out⟩
    · go_simp
      refine (clone_any l G A n c _ (HSL.out.keep0 hk0) (by omega)).mono ?_
      rintro e w1 ⟨A1, cc1, rfl, hown1, hk1⟩
      refine hK1.out _ _ trivial (fun hHeld2 => ?_)
      clear hK1 K1
      try simp only [Act.put, List.setIfInBounds_toArray, List.set_cons_zero, List.set_cons_succ]
      have c1' : w1.cell? ⟨D, 1, none⟩ = some (.slice P pn pc) := (hk0.and0 hk1).cell_some c1 fun hb => hb
      refine wpAnyH_take (i := 8) (oi := ⟨_, _, _, _, _, _⟩) (v := ?_) rfl (by kernel_rfl) (by kernel_rfl) (by kernel_rfl) (fun _ _ _ h => h) (Or.inl ⟨by rfl, ?_⟩) (by assumption) ?_
      rotate_left
      · intro W hSw; (try dsimp only at hSw); go_simp; try with_reducible rfl
      try simp only [Act.put, List.setIfInBounds_toArray, List.set_cons_zero, List.set_cons_succ]
      refine wpAnyH_ready (rs := [4, 9]) (by kernel_rfl) (by simp) ?_
      refine AllReadyH.cons (o := ⟨_, _, _, _, _, _⟩) rfl (fun K1 hK1 => ?_) (AllReadyH.cons (o := ⟨_, _, _, _, _, _⟩) rfl (fun K1 hK1 => ?_) AllReadyH.nil)
      · go_simp
        refine hK1.out _ _ trivial (fun hHeld4 => ?_)
        clear hK1 K1
        try simp only [Act.put, List.setIfInBounds_toArray, List.set_cons_zero, List.set_cons_succ]
        refine wpAnyH_ready (rs := [9]) (by kernel_rfl) (by simp) ?_
        refine AllReadyH.cons (o := ⟨_, _, _, _, _, _⟩) rfl (fun K hK => ?_) AllReadyH.nil
        go_simp
        refine hK.out _ _ ?_ (fun hHeld => ?_)
        · trivial
        clear hK K
        try simp only [Act.put, List.setIfInBounds_toArray, List.set_cons_zero, List.set_cons_succ]
        clear c1'
        refine wpAnyH_ready (rs := [10]) (by kernel_rfl) (by simp) ?_
        refine AllReadyH.cons (o := ⟨_, _, _, _, _, _⟩) rfl (fun K1 hK1 => ?_) AllReadyH.nil
        refine step_append_rd _ rfl (.tmp 20) (.tmp 25) 76 rfl 0 81 j0 _ 2 32 Try.underlying76 hj0 hz0 hz1 hz2 rfl (by omega) (.slice P pn pc) pn (ents.flatMap Ent.cells) rfl (ownsRow_keep H.out.pend ((hk0.and0 hk1).alloc' _) fun _ _ hb => hb) (fun _ => True) (some ⟨w1.heap.size, 0, none⟩) 1 1 [.int .i64 (i : Int), .slice A1 n cc1] rfl rfl (.inr ⟨_, _, rfl, trivial, two_cells _ _ _ _⟩) (by simp [Value.oneCell']) (by simp only [maxLen]; omega) (by omega) (Nat.zero_le _) ?_
        intro P' c' w3 happ hg hat
        refine hK1.out _ _ trivial (fun hHeld3 => ?_)
        clear hK1 K1
        try simp only [Act.put, List.setIfInBounds_toArray, List.set_cons_zero, List.set_cons_succ]
        have hk03 : Keep (fun b => (Value.slice P pn pc).ownBlock = some b) w w3 := (((hk0.and0 hk1).alloc' (.cells #[.int .i64 (i : Int), .slice A1 n cc1] 81)).of0 _).andThen (Keep.ofGrown hg fun k hk => hk)
        have hb3 := H.out.blk.keep hk03 (fun hx => H.out.nePD D hx rfl)
        have hc3 : w3.cell? ⟨D, 1, none⟩ = some (.slice P pn pc) := hb3.cell 1
        have hc4 : w3.cell? ⟨D, 2, none⟩ = some (.int .i64 (s.waits.length : Int)) := hb3.cell 2
        have hf3 := hb3.frozen
        have hset := (hb3.set_ 1 (.slice P' (pn + 1) c')).set_ 2 (.int .i64 ((s.waits.length + n : Nat) : Int))
        have hk35 : Keep (fun b => b = D) w3 ((w3.setCell ⟨D, 1, none⟩ (.slice P' (pn + 1) c')).setCell ⟨D, 2, none⟩ (.int .i64 ((s.waits.length + n : Nat) : Int))) := (Keep.setCell (S := fun b => b = D) w3 ⟨D, 1, none⟩ _ rfl).andThen (Keep.setCell (S := fun b => b = D) _ ⟨D, 2, none⟩ _ rfl)
        have hrep := write_rep (w := w) (i := i) (l := l) (n := n) (c1 := cc1) (A1 := A1) H.out (hown1.mono (by simp)) (hk0.and0 hk1) (Keep.alloc w1 _) (by simp) happ hg hat hik hk35 hset
        have e9 : ((s.waits.length + n : Nat) : Int) = (s.waits.length : Int) + (n : Int) := by omega
        rw [e9] at hrep
        have HREP := Lib.hid hrep
        clear hrep hset hk35 hb3 hk03 hg hat happ hown1 hk1 hk0 e9 c1 c2 hf
        refine wpAnyH_take (i := 11) (oi := ⟨_, _, _, _, _, _⟩) (v := ?_) rfl (by kernel_rfl) (by kernel_rfl) (by kernel_rfl) (fun _ _ _ h => h) (Or.inl ⟨by rfl, ?_⟩) (by assumption) ?_
        rotate_left
        · intro W hSw; (try dsimp only at hSw); go_simp; try with_reducible rfl
        try simp only [Act.put, List.setIfInBounds_toArray, List.set_cons_zero, List.set_cons_succ]
        refine wpAnyH_take (i := 12) (oi := ⟨_, _, _, _, _, _⟩) (v := ?_) rfl (by kernel_rfl) (by kernel_rfl) (by kernel_rfl) (fun _ _ _ h => h) (Or.inl ⟨by rfl, ?_⟩) (by assumption) ?_
        rotate_left
        · intro W hSw; (try dsimp only at hSw); go_simp; try with_reducible rfl
        try simp only [Act.put, List.setIfInBounds_toArray, List.set_cons_zero, List.set_cons_succ]
        refine wpAnyH_ready (rs := [13]) (by kernel_rfl) (by simp) ?_
        refine AllReadyH.cons (o := ⟨_, _, _, _, _, _⟩) rfl (fun K hK => ?_) AllReadyH.nil
        go_simp
        refine hK.out _ _ ?_ (fun hHeld => ?_)
        · trivial
        clear hK K
        try simp only [Act.put, List.setIfInBounds_toArray, List.set_cons_zero, List.set_cons_succ]
        refine wpAnyH_done (by kernel_rfl) ?_ _
        go_wp2_with fail
        refine (stops_any (s := { s with waits := s.waits ++ at_ i l }) HDN.out HREP.out.1).mono ?_
        rintro e w6 ⟨rfl, hd6, hk6⟩
        have hfin : Dsk w6 D ({ s with waits := s.waits ++ at_ i l } : DSt).stop (m + 1) (Ext F w w6) := hd6.mono fun b _ hb => by
          rcases hb with hb | hb
          · exact .inl hb
          · exact .inr ⟨hb.1, Nat.lt_of_lt_of_le hb.2 hk6.size⟩
        have hkf : Keep F w w6 := HREP.out.2.trans hk6 fun b _ e => by rw [e]; exact H.out.fD
        have HF := Lib.hid hfin
        have HKF := Lib.hid hkf
        clear hd6 hk6 hfin hkf
        by_cases hsd : ({ s with waits := s.waits ++ at_ i l } : DSt).stop.down = true
        · have HSD := Lib.hid hsd
          rw [hsd]
          clear hsd
          go_wp2_with fail
          go_ret
          exact ⟨ret_i (by unfold DSt.errno; rw [HSD.out]; rfl), HF.out, HKF.out⟩
        · have hsd' : ({ s with waits := s.waits ++ at_ i l } : DSt).stop.down = false := by simpa using hsd
          have HSD := Lib.hid hsd'
          rw [hsd']
          clear hsd hsd'
          go_wp2_with fail
          go_ret
          exact ⟨ret_i (by unfold DSt.errno; rw [HSD.out]; rfl), HF.out, HKF.out⟩
      · go_simp
        refine hK1.out _ _ trivial (fun hHeld4 => ?_)
        clear hK1 K1
        try simp only [Act.put, List.setIfInBounds_toArray, List.set_cons_zero, List.set_cons_succ]
        have c1'' : (w1.alloc (.cells #[.int .i64 (i : Int), .slice A1 n cc1] 81)).cell? ⟨D, 1, none⟩ = some (.slice P pn pc) := (Keep.alloc w1 _).cell_some c1' fun hb => hb
        refine wpAnyH_ready (rs := [4]) (by kernel_rfl) (by simp) ?_
        refine AllReadyH.cons (o := ⟨_, _, _, _, _, _⟩) rfl (fun K hK => ?_) AllReadyH.nil
        go_simp
        refine hK.out _ _ ?_ (fun hHeld => ?_)
        · trivial
        clear hK K
        try simp only [Act.put, List.setIfInBounds_toArray, List.set_cons_zero, List.set_cons_succ]
        clear c1''
        clear c1'
        refine wpAnyH_ready (rs := [10]) (by kernel_rfl) (by simp) ?_
        refine AllReadyH.cons (o := ⟨_, _, _, _, _, _⟩) rfl (fun K1 hK1 => ?_) AllReadyH.nil
        refine step_append_rd _ rfl (.tmp 20) (.tmp 25) 76 rfl 0 81 j0 _ 2 32 Try.underlying76 hj0 hz0 hz1 hz2 rfl (by omega) (.slice P pn pc) pn (ents.flatMap Ent.cells) rfl (ownsRow_keep H.out.pend ((hk0.and0 hk1).alloc' _) fun _ _ hb => hb) (fun _ => True) (some ⟨w1.heap.size, 0, none⟩) 1 1 [.int .i64 (i : Int), .slice A1 n cc1] rfl rfl (.inr ⟨_, _, rfl, trivial, two_cells _ _ _ _⟩) (by simp [Value.oneCell']) (by simp only [maxLen]; omega) (by omega) (Nat.zero_le _) ?_
        intro P' c' w3 happ hg hat
        refine hK1.out _ _ trivial (fun hHeld3 => ?_)
        clear hK1 K1
        try simp only [Act.put, List.setIfInBounds_toArray, List.set_cons_zero, List.set_cons_succ]
        have hk03 : Keep (fun b => (Value.slice P pn pc).ownBlock = some b) w w3 := (((hk0.and0 hk1).alloc' (.cells #[.int .i64 (i : Int), .slice A1 n cc1] 81)).of0 _).andThen (Keep.ofGrown hg fun k hk => hk)
        have hb3 := H.out.blk.keep hk03 (fun hx => H.out.nePD D hx rfl)
        have hc3 : w3.cell? ⟨D, 1, none⟩ = some (.slice P pn pc) := hb3.cell 1
        have hc4 : w3.cell? ⟨D, 2, none⟩ = some (.int .i64 (s.waits.length : Int)) := hb3.cell 2
        have hf3 := hb3.frozen
        have hset := (hb3.set_ 1 (.slice P' (pn + 1) c')).set_ 2 (.int .i64 ((s.waits.length + n : Nat) : Int))
        have hk35 : Keep (fun b => b = D) w3 ((w3.setCell ⟨D, 1, none⟩ (.slice P' (pn + 1) c')).setCell ⟨D, 2, none⟩ (.int .i64 ((s.waits.length + n : Nat) : Int))) := (Keep.setCell (S := fun b => b = D) w3 ⟨D, 1, none⟩ _ rfl).andThen (Keep.setCell (S := fun b => b = D) _ ⟨D, 2, none⟩ _ rfl)
        have hrep := write_rep (w := w) (i := i) (l := l) (n := n) (c1 := cc1) (A1 := A1) H.out (hown1.mono (by simp)) (hk0.and0 hk1) (Keep.alloc w1 _) (by simp) happ hg hat hik hk35 hset
        have e9 : ((s.waits.length + n : Nat) : Int) = (s.waits.length : Int) + (n : Int) := by omega
        rw [e9] at hrep
        have HREP := Lib.hid hrep
        clear hrep hset hk35 hb3 hk03 hg hat happ hown1 hk1 hk0 e9 c1 c2 hf
        refine wpAnyH_take (i := 11) (oi := ⟨_, _, _, _, _, _⟩) (v := ?_) rfl (by kernel_rfl) (by kernel_rfl) (by kernel_rfl) (fun _ _ _ h => h) (Or.inl ⟨by rfl, ?_⟩) (by assumption) ?_
        rotate_left
        · intro W hSw; (try dsimp only at hSw); go_simp; try with_reducible rfl
        try simp only [Act.put, List.setIfInBounds_toArray, List.set_cons_zero, List.set_cons_succ]
        refine wpAnyH_take (i := 12) (oi := ⟨_, _, _, _, _, _⟩) (v := ?_) rfl (by kernel_rfl) (by kernel_rfl) (by kernel_rfl) (fun _ _ _ h => h) (Or.inl ⟨by rfl, ?_⟩) (by assumption) ?_
        rotate_left
        · intro W hSw; (try dsimp only at hSw); go_simp; try with_reducible rfl
        try simp only [Act.put, List.setIfInBounds_toArray, List.set_cons_zero, List.set_cons_succ]
        refine wpAnyH_ready (rs := [13]) (by kernel_rfl) (by simp) ?_
        refine AllReadyH.cons (o := ⟨_, _, _, _, _, _⟩) rfl (fun K hK => ?_) AllReadyH.nil
        go_simp
        refine hK.out _ _ ?_ (fun hHeld => ?_)
        · trivial
        clear hK K
        try simp only [Act.put, List.setIfInBounds_toArray, List.set_cons_zero, List.set_cons_succ]
        refine wpAnyH_done (by kernel_rfl) ?_ _
        go_wp2_with fail
        refine (stops_any (s := { s with waits := s.waits ++ at_ i l }) HDN.out HREP.out.1).mono ?_
        rintro e w6 ⟨rfl, hd6, hk6⟩
        have hfin : Dsk w6 D ({ s with waits := s.waits ++ at_ i l } : DSt).stop (m + 1) (Ext F w w6) := hd6.mono fun b _ hb => by
          rcases hb with hb | hb
          · exact .inl hb
          · exact .inr ⟨hb.1, Nat.lt_of_lt_of_le hb.2 hk6.size⟩
        have hkf : Keep F w w6 := HREP.out.2.trans hk6 fun b _ e => by rw [e]; exact H.out.fD
        have HF := Lib.hid hfin
        have HKF := Lib.hid hkf
        clear hd6 hk6 hfin hkf
        by_cases hsd : ({ s with waits := s.waits ++ at_ i l } : DSt).stop.down = true
        · have HSD := Lib.hid hsd
          rw [hsd]
          clear hsd
          go_wp2_with fail
          go_ret
          exact ⟨ret_i (by unfold DSt.errno; rw [HSD.out]; rfl), HF.out, HKF.out⟩
        · have hsd' : ({ s with waits := s.waits ++ at_ i l } : DSt).stop.down = false := by simpa using hsd
          have HSD := Lib.hid hsd'
          rw [hsd']
          clear hsd hsd'
          go_wp2_with fail
          go_ret
          exact ⟨ret_i (by unfold DSt.errno; rw [HSD.out]; rfl), HF.out, HKF.out⟩
  · have hlen := hsl.len
    refine (write_err a l A n c ha hlen hz hd).mono ?_
    rintro e w' ⟨rfl, h2, rfl⟩
    rw [h2]
    exact ⟨rfl, (hd.more (Nat.le_succ m)).mono fun b _ hb => .inl hb, Keep.refl _ _⟩
end
end Go.Proofs.Ytbdencfgiemliaa
