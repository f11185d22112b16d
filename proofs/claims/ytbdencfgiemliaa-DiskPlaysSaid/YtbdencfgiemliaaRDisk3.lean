/-
  Contract of the reference disk's Write: what the plain disk says. Conditions: it lies so in memory, with fewer than 2^30 bytes pending.
-/
import Derived.Test.YtbdencfgiemliaaRDisk2
import Derived.Test.YtbdencfgiemliaaDiskLaw
namespace Go.Proofs.Ytbdencfgiemliaa
open Go.RowKit
set_option linter.unusedVariables false
theorem info83 : (Try.prog.info? 83).map (fun i => (i.zero, i.size, i.bytes)) = some (some (.agg #[.int .i64 0, .int .u8 0]), 2, 16) := by kernel_rfl
def DSt.push (s : DSt) (ps : List (Nat × UInt8)) : DSt := { s with waits := s.waits ++ ps }
section
variable {F G : Nat → Prop} {w : World} {D : Nat} {s : DSt}
set_option maxRecDepth 20000
set_option maxHeartbeats 2000000
theorem rwrite_err (a : Int) (l : List UInt8) (A : Option Addr) (n c : Nat) (ha : -9223372036854775808 ≤ a ∧ a ≤ 9223372036854775807) (hl : l.length = n) (hz : ¬ s.ask a n = 0) (hd : RDsk w D s F) : Calls Try.prog 31 #[.pointer (some ⟨D, 0, none⟩), .int .i64 a, .slice A n c] w fun e w' =>
    e = .returned (.int .i64 (s.writeE a l)) ∧ s.write a l = s ∧ w = w' := by
  have e1 : s.writeE a l = s.ask a n := by unfold DSt.writeE; rw [hl, if_neg hz]
  have e2 : s.write a l = s := by unfold DSt.write; rw [hl, if_neg hz]
  rw [e1, e2]
  have HD := Lib.hid hd
  have hz1 : (s.ask a n == 0) = false := by simpa using hz
  have hz2 : (s.ask a n != 0) = true := by simpa using hz
  clear e1 e2 hz hd hl
  go_enter Try.func31, Try.ntmps31
  go_wp2_with fail
  refine (rmay_any a n ha HD.out).mono ?_
  rintro e w' ⟨rfl, rfl⟩
  go_wp2_with fail
  go_ret
  exact ⟨rfl, trivial, rfl⟩
/-- One byte more is pending. -/
theorem rpush_rep {w1 w2 w3 w5 : World} {K pc i c' : Nat} {x : UInt8} {P P' : Option Addr} (h : RDskRep w D s F K P pc) (h12 : Keep0 w w2)
    (happ : w3.ownsRow 0 83 2 (.slice P' (s.waits.length + 1) c') (s.waits.length + 1) (s.waits.flatMap oneCells ++ [.int .i64 (i : Int), .int .u8 (x.toNat : Int)])) (hg : w2.grownBy w3 (Value.slice P s.waits.length pc).ownBlock)
    (hat : (Value.slice P' (s.waits.length + 1) c').ownBlock = (Value.slice P s.waits.length pc).ownBlock ∨ (Value.slice P' (s.waits.length + 1) c').ownBlock = some w2.heap.size)
    (hik : i < s.kept.length) (h35 : Keep (fun b => b = D) w3 w5)
    (hb5 : Blk w5 D 51 #[.slice (some ⟨K, 0, none⟩) s.kept.length s.kept.length, .slice P' (s.waits.length + 1) c', .bool s.down, .int .i64 (s.armed : Int)]) :
    RDsk w5 D (s.push [(i, x)]) (Ext F w w5) ∧ Keep F w w5 := by
  have hPlt := fun g hg => (h.pend.lt g hg).2
  have hKlt := h.ltK
  have hDlt := h.blk.lt
  have hs1 := h12.size
  have hs3 : w2.heap.size ≤ w3.heap.size := hg.size
  have hs5 := h35.size
  have hP3 : ∀ g, (Value.slice P' (s.waits.length + 1) c').ownBlock = some g → g < w3.heap.size := fun g hg => (happ.lt g hg).2
  have hP'D : ∀ g, (Value.slice P' (s.waits.length + 1) c').ownBlock = some g → g ≠ D ∧ g ≠ K ∧ ((Value.slice P s.waits.length pc).ownBlock = some g ∨ w.heap.size ≤ g) := by
    intro g hg'
    rcases hat with e | e
    · rw [e] at hg'
      exact ⟨h.nePD g hg', h.nePK g hg', .inl hg'⟩
    · rw [e] at hg'
      injection hg' with hg'
      exact ⟨by omega, by omega, .inr (by omega)⟩
  have hk23 : Keep (fun b => (Value.slice P s.waits.length pc).ownBlock = some b) w2 w3 := Keep.ofGrown hg fun k hk => hk
  have hk25 : Keep (fun b => b = D ∨ (Value.slice P s.waits.length pc).ownBlock = some b) w2 w5 := (hk23.mono fun b _ hb => .inr hb).andThen (h35.mono fun b _ hb => .inl hb)
  have hkw5 : Keep F w w5 := (h12.of0 F).trans hk25 fun b _ hb => by
    rcases hb with rfl | hb
    · exact h.fD
    · exact h.fP b hb
  have hlen : (s.push [(i, x)]).waits.length = s.waits.length + 1 := by simp [DSt.push]
  refine ⟨⟨K, P', c', ?_, ?_, ?_, ?_, .inl h.fD, .inl h.fK, ?_⟩, hkw5⟩
  · rw [hlen]
    exact hb5
  · have h2 := ownsRow_keep h.kept h12 fun _ _ hb => hb
    exact ownsRow_keep h2 hk25 (fun g hg => by
      simp [Value.ownBlock] at hg
      subst hg
      rintro (hx | hx)
      · exact h.neKD hx
      · exact h.nePK K hx rfl)
  · rw [hlen]
    have e : (s.push [(i, x)]).waits.flatMap oneCells = s.waits.flatMap oneCells ++ [.int .i64 (i : Int), .int .u8 (x.toNat : Int)] := by simp [DSt.push, oneCells]
    rw [e]
    exact ownsRow_keep happ h35 fun g hg => (hP'D g hg).1
  · refine ⟨h.ok.size, ?_, h.ok.arm⟩
    intro p hp
    rcases List.mem_append.1 hp with hp | hp
    · exact h.ok.pend p hp
    · rw [List.mem_singleton] at hp
      subst hp
      exact hik
  · rw [hlen]
    intro g hg'
    rcases (hP'D g hg').2.2 with hx | hx
    · exact .inl (h.fP g hx)
    · exact .inr ⟨by omega, by have := hP3 g hg'; omega⟩
theorem push_push (s : DSt) (i k : Nat) (l : List UInt8) (h : k < l.length) : (s.push (at_ i (l.take k))).push [(i + k, l[k])] = s.push (at_ i (l.take (k + 1))) := by
  unfold DSt.push
  simp only [List.append_assoc]
  rw [at_take_succ l i k h]
theorem rwrite_any (a : Int) (l : List UInt8) (A : Option Addr) (n c : Nat) (ha : -9223372036854775808 ≤ a ∧ a ≤ 9223372036854775807) (hsl : Sl w G A n c l) (hG : ∀ b, G b → ¬ F b) (hwl : s.waits.length < 1073741824) (hd : RDsk w D s F) : Calls Try.prog 31 #[.pointer (some ⟨D, 0, none⟩), .int .i64 a, .slice A n c] w fun e w' =>
    e = .returned (.int .i64 (s.writeE a l)) ∧ RDsk w' D (s.write a l) (Ext F w w') ∧ Keep F w w' := by
  by_cases hz : s.ask a n = 0
  · obtain ⟨hdn, i, k, rfl, hk, hik⟩ := ask_cases s a n hz
    obtain rfl : n = k := by omega
    have hll := hsl.len
    have e1 : s.writeE (i : Int) l = (s.put i l).errno := by unfold DSt.writeE; rw [hll, if_pos hz]; rfl
    have e2 : s.write (i : Int) l = s.put i l := by unfold DSt.write; rw [hll, if_pos hz]; rfl
    have e3 : s.put i l = (s.push (at_ i l)).stop := rfl
    rw [e1, e2, e3]
    have HD := Lib.hid hd
    have hsz := hd.ok.size
    have HZ := Lib.hid hz
    have HSL := Lib.hid hsl
    have HDN := Lib.hid hdn
    have HG := Lib.hid hG
    have HLL := Lib.hid hll
    have HIK := Lib.hid hik
    have hn : n ≤ 65536 := by omega
    have hi64 : i ≤ 65536 := by omega
    clear hz e1 e2 e3 hdn hsl hk hd hG hll hik
    obtain ⟨j0, hj0, hz0, hz1, hz2⟩ := info_parts info83
    go_enter Try.func31, Try.ntmps31
    go_wp2_with fail
    refine (rmay_any i n (by omega) HD.out).mono ?_
    rintro e w' ⟨rfl, rfl⟩
    rw [HZ.out]
    go_wp2_with fail
    go_loopw [8] (fun j wr => ∃ k : Nat, k ≤ n ∧ j = .int .i64 k ∧ RDsk wr D (s.push (at_ i (l.take k))) (Ext F w wr) ∧ Keep F w wr) (fun j _ => n - (intOf j).toNat)
    case atStart => exact ⟨0, Nat.zero_le _, rfl, by rw [show s.push (at_ i (l.take 0)) = s from by simp [DSt.push, at_]]; exact HD.out.mono fun b _ hb => .inl hb, Keep.refl _ _⟩
    case round =>
      obtain ⟨k, hk, rfl, hd, hkr⟩ := hrel
      have HK := Lib.hid hkr
      by_cases hlt : k < n
      · have hkl : k < l.length := by rw [HLL.out]; exact hlt
        obtain ⟨b, oo, rfl, hGb, hcell0⟩ := HSL.out.rd.at_ (k := k) (by simpa using hkl)
        rw [byte_at l k hkl] at hcell0
        have hcell : wr.cell? ⟨b, oo + k, none⟩ = some (.int .u8 (l[k].toNat : Int)) := HK.out.cell_some hcell0 (HG.out b hGb)
        have hblt : b < w.heap.size := World.block_lt_of_cell? w _ hcell0
        have hpp := push_push s i k l hkl
        have hsk : (s.push (at_ i (l.take k))).waits.length = s.waits.length + k := by simp [DSt.push, at_len, Nat.min_eq_left (Nat.le_of_lt hkl)]
        have hkept : (s.push (at_ i (l.take k))).kept = s.kept := rfl
        have hdown : (s.push (at_ i (l.take k))).down = s.down := rfl
        have harm : (s.push (at_ i (l.take k))).armed = s.armed := rfl
        obtain ⟨sk, hske⟩ : ∃ sk, sk = s.push (at_ i (l.take k)) := ⟨_, rfl⟩
        rw [← hske] at hd hpp hsk hkept hdown harm
        obtain ⟨x, hx⟩ : ∃ x, x = l[k] := ⟨_, rfl⟩
        rw [← hx] at hcell hpp
        have hxb := byte_lt x
        obtain ⟨K, P, pc, h⟩ := hd
        obtain ⟨c0, c1, c2, c3, hf⟩ := h.cells
        rw [hsk] at c1
        have hbD : b ≠ D := fun e => HG.out b hGb (by rw [e]; exact HD.out.fD)
        have hbP : ∀ g, (Value.slice P sk.waits.length pc).ownBlock = some g → b ≠ g := fun g hg e => by
          have h9 := h.fP g hg
          rcases h9 with h9 | h9
          · exact HG.out b hGb (by rw [e]; exact h9)
          · omega
        have H := Lib.hid h
        have HPP := Lib.hid hpp
        have HSK := Lib.hid hsk
        have HKE := Lib.hid hkept
        have HBP := Lib.hid hbP
        have hkd := hlt
        clear h hpp hsk hkept hdown harm hske hx hcell0 c0 c2 c3 hf hkr hbP
        have hin : (i : Int) + (k : Int) = ((i + k : Nat) : Int) := by omega
        have HIN := Lib.hid hin
        clear hin
        have hkep : ∀ W, Keep (fun b => b = D ∨ (Value.slice P sk.waits.length pc).ownBlock = some b) wr W → W.cell? ⟨b, oo + k, none⟩ = some (.int .u8 (x.toNat : Int)) := fun W hW => hW.cell_some hcell (fun hx => by
          rcases hx with hx | hx
          · exact hbD hx
          · exact HBP.out b hx rfl)
        have HKP := Lib.hid hkep
        clear hkep
        have hwi : IntKind.i64.wrap ((i : Int) + (k : Int)) = (i : Int) + (k : Int) := IntWalk.i64_in _ (by omega)
        go_wp2_with fail
        refine wp_region_held_drew (S := fun W => W.cell? ⟨b, oo + k, none⟩ = some (.int .u8 (x.toNat : Int))) (by kernel_rfl) ?_ (fun hHeld => ?_)
        · exact HKP.out _ ((Keep.drew wr).of0 _)
        refine wpAnyH_take (i := 0) (oi := ⟨_, _, _, _, _, _⟩) (v := ?_) rfl (by kernel_rfl) (by kernel_rfl) (by kernel_rfl) (fun _ _ _ h => h) (Or.inl ⟨by rfl, ?_⟩) (by assumption) ?_
        rotate_left
        · intro W hSw; (try dsimp only at hSw); go_simp; try with_reducible rfl
        try simp only [Act.put, List.setIfInBounds_toArray, List.set_cons_zero, List.set_cons_succ]
        refine wpAnyH_take (i := 1) (oi := ⟨_, _, _, _, _, _⟩) (v := ?_) rfl (by kernel_rfl) (by kernel_rfl) (by kernel_rfl) (fun _ _ _ h => h) (Or.inl ⟨by rfl, ?_⟩) (by assumption) ?_
        rotate_left
        · intro W hSw; (try dsimp only at hSw); go_simp; try with_reducible rfl
        try simp only [Act.put, List.setIfInBounds_toArray, List.set_cons_zero, List.set_cons_succ]
        refine wpAnyH_take (i := 2) (oi := ⟨_, _, _, _, _, _⟩) (v := ?_) rfl (by kernel_rfl) (by kernel_rfl) (by kernel_rfl) (fun _ _ _ h => h) (Or.inl ⟨by rfl, ?_⟩) (by assumption) ?_
        rotate_left
        · intro W hSw; (try dsimp only at hSw); go_simp; try with_reducible rfl
        try simp only [Act.put, List.setIfInBounds_toArray, List.set_cons_zero, List.set_cons_succ]
        refine wpAnyH_take (i := 3) (oi := ⟨_, _, _, _, _, _⟩) (v := ?_) rfl (by kernel_rfl) (by kernel_rfl) (by kernel_rfl) (fun _ _ _ h => h) (Or.inl ⟨by rfl, ?_⟩) (by assumption) ?_
        rotate_left
        · intro W hSw; (try dsimp only at hSw); go_simp; try with_reducible rfl
        try simp only [Act.put, List.setIfInBounds_toArray, List.set_cons_zero, List.set_cons_succ]
        refine wpAnyH_take (i := 5) (oi := ⟨_, _, _, _, _, _⟩) (v := ?_) rfl (by kernel_rfl) (by kernel_rfl) (by kernel_rfl) (fun _ _ _ h => h) (Or.inl ⟨by rfl, ?_⟩) (by assumption) ?_
        rotate_left
        · intro W hSw; (try dsimp only at hSw); go_simp; try with_reducible rfl
        try simp only [Act.put, List.setIfInBounds_toArray, List.set_cons_zero, List.set_cons_succ]
        refine wpAnyH_take (i := 6) (oi := ⟨_, _, _, _, _, _⟩) (v := ?_) rfl (by kernel_rfl) (by kernel_rfl) (by kernel_rfl) (fun _ _ _ h => h) (Or.inl ⟨by rfl, ?_⟩) (by assumption) ?_
        rotate_left
        · intro W hSw; (try dsimp only at hSw); go_simp; try with_reducible rfl
        try simp only [Act.put, List.setIfInBounds_toArray, List.set_cons_zero, List.set_cons_succ]
        refine wpAnyH_take (i := 7) (oi := ⟨_, _, _, _, _, _⟩) (v := ?_) rfl (by kernel_rfl) (by kernel_rfl) (by kernel_rfl) (fun _ _ _ h => h) (Or.inl ⟨by rfl, ?_⟩) (by assumption) ?_
        rotate_left
        · intro W hSw; (try dsimp only at hSw); go_simp; try with_reducible rfl
        try simp only [Act.put, List.setIfInBounds_toArray, List.set_cons_zero, List.set_cons_succ]
        refine wpAnyH_take (i := 8) (oi := ⟨_, _, _, _, _, _⟩) (v := ?_) rfl (by kernel_rfl) (by kernel_rfl) (by kernel_rfl) (fun _ _ _ h => h) (Or.inl ⟨by rfl, ?_⟩) (by assumption) ?_
        rotate_left
        · intro W hSw; (try dsimp only at hSw); go_simp; try with_reducible rfl
        try simp only [Act.put, List.setIfInBounds_toArray, List.set_cons_zero, List.set_cons_succ]
        refine wpAnyH_take (i := 9) (oi := ⟨_, _, _, _, _, _⟩) (v := ?_) rfl (by kernel_rfl) (by kernel_rfl) (by kernel_rfl) (fun _ _ _ h => h) (Or.inl ⟨by rfl, ?_⟩) (by assumption) ?_
        rotate_left
        · intro W hSw; (try dsimp only at hSw); go_simp; try with_reducible rfl
        try simp only [Act.put, List.setIfInBounds_toArray, List.set_cons_zero, List.set_cons_succ]
        refine wpAnyH_take (i := 10) (oi := ⟨_, _, _, _, _, _⟩) (v := ?_) rfl (by kernel_rfl) (by kernel_rfl) (by kernel_rfl) (fun _ _ _ h => h) (Or.inl ⟨by rfl, ?_⟩) (by assumption) ?_
        rotate_left
        · intro W hSw; (try dsimp only at hSw); go_simp; try with_reducible rfl
        try simp only [Act.put, List.setIfInBounds_toArray, List.set_cons_zero, List.set_cons_succ]
        refine wpAnyH_take (i := 11) (oi := ⟨_, _, _, _, _, _⟩) (v := ?_) rfl (by kernel_rfl) (by kernel_rfl) (by kernel_rfl) (fun _ _ _ h => h) (Or.inl ⟨by rfl, ?_⟩) (by assumption) ?_
        rotate_left
        · intro W hSw; (try dsimp only at hSw); go_simp; try with_reducible rfl
        try simp only [Act.put, List.setIfInBounds_toArray, List.set_cons_zero, List.set_cons_succ]
        refine wpAnyH_take (i := 12) (oi := ⟨_, _, _, _, _, _⟩) (v := ?_) rfl (by kernel_rfl) (by kernel_rfl) (by kernel_rfl) (fun _ _ _ h => h) (Or.inl ⟨by rfl, ?_⟩) (by assumption) ?_
        rotate_left
        · intro W hSw; (try dsimp only at hSw); go_simp; try with_reducible rfl
        try simp only [Act.put, List.setIfInBounds_toArray, List.set_cons_zero, List.set_cons_succ]
        have hk0 : Keep0 wr wr.drew := Keep.drew wr
        refine wpAnyH_ready (rs := [4, 13]) (by kernel_rfl) (by simp) ?_
        refine AllReadyH.cons (o := ⟨_, _, _, _, _, _⟩) rfl (fun K1 hK1 => ?_) (AllReadyH.cons (o := ⟨_, _, _, _, _, _⟩) rfl (fun K1 hK1 => ?_) AllReadyH.nil)
        · go_simp
          refine hK1.out _ _ (HKP.out _ (hk0.of0 _)) (fun hHeld2 => ?_)
          clear hK1 K1
          try simp only [Act.put, List.setIfInBounds_toArray, List.set_cons_zero, List.set_cons_succ]
          refine wpAnyH_ready (rs := [13]) (by kernel_rfl) (by simp) ?_
          refine AllReadyH.cons (o := ⟨_, _, _, _, _, _⟩) rfl (fun K hK => ?_) AllReadyH.nil
          go_simp
          refine hK.out _ _ ?_ (fun hHeld => ?_)
          · exact HKP.out _ ((hk0.alloc' _).of0 _)
          clear hK K
          try simp only [Act.put, List.setIfInBounds_toArray, List.set_cons_zero, List.set_cons_succ]
          refine wpAnyH_ready (rs := [14]) (by kernel_rfl) (by simp) ?_
          refine AllReadyH.cons (o := ⟨_, _, _, _, _, _⟩) rfl (fun K1 hK1 => ?_) AllReadyH.nil
          refine step_append_rd _ rfl (.tmp 27) (.tmp 36) 49 rfl 0 83 j0 _ 2 16 Try.underlying49 hj0 hz0 hz1 hz2 rfl (by omega) (.slice P (s.waits.length + k) pc) (s.waits.length + k) (sk.waits.flatMap oneCells) rfl (by rw [← HSK.out]; exact ownsRow_keep H.out.pend (hk0.alloc' _) fun _ _ hb => hb) (fun _ => True) (some ⟨wr.heap.size, 0, none⟩) 1 1 [.int .i64 ((i : Int) + (k : Int)), .int .u8 (x.toNat : Int)] rfl rfl (.inr ⟨_, _, rfl, trivial, two_cells _ _ _ _⟩) (by simp [Value.oneCell']) (by simp only [maxLen]; omega) (by omega) (Nat.zero_le _) ?_
          intro P' c' w3 happ hg hat
          rw [← HSK.out] at hg hat happ
          refine hK1.out _ _ (HKP.out _ ((((hk0.alloc' _).of0 _).andThen (Keep.ofGrown hg fun k hk => .inr hk)))) (fun hHeld3 => ?_)
          clear hK1 K1
          try simp only [Act.put, List.setIfInBounds_toArray, List.set_cons_zero, List.set_cons_succ]
          have hk03 : Keep (fun b => (Value.slice P sk.waits.length pc).ownBlock = some b) wr w3 := ((hk0.alloc' (.cells #[.int .i64 ((i : Int) + (k : Int)), .int .u8 (x.toNat : Int)] 83)).of0 _).andThen (Keep.ofGrown hg fun k hk => hk)
          have hb3 := H.out.blk.keep hk03 (fun hx => H.out.nePD D hx rfl)
          have hc3 : w3.cell? ⟨D, 1, none⟩ = some (.slice P sk.waits.length pc) := hb3.cell 1
          have hf3 := hb3.frozen
          have hset := hb3.set_ 1 (.slice P' (sk.waits.length + 1) c')
          have hk35 : Keep (fun b => b = D) w3 (w3.setCell ⟨D, 1, none⟩ (.slice P' (sk.waits.length + 1) c')) := Keep.setCell (S := fun b => b = D) w3 ⟨D, 1, none⟩ _ rfl
          rw [HIN.out] at happ
          have hrep := rpush_rep (w := wr) (w1 := wr) (i := i + k) (x := x) H.out (hk0.alloc' _) happ hg hat (by rw [HKE.out]; have := HIK.out; omega) hk35 hset
          rw [HPP.out] at hrep
          have hkf : Keep F w (w3.setCell ⟨D, 1, none⟩ (.slice P' (sk.waits.length + 1) c')) := HK.out.trans hrep.2 fun b hb hx => by
            rcases hx with hx | hx
            · exact hx
            · omega
          have hrf : RDsk (w3.setCell ⟨D, 1, none⟩ (.slice P' (sk.waits.length + 1) c')) D (s.push (at_ i (l.take (k + 1)))) (Ext F w (w3.setCell ⟨D, 1, none⟩ (.slice P' (sk.waits.length + 1) c'))) := hrep.1.mono fun b hb hx => by
            rcases hx with (hx | hx) | hx
            · exact .inl hx
            · exact .inr ⟨hx.1, hb⟩
            · exact .inr ⟨Nat.le_trans HK.out.size hx.1, hb⟩
          have hkall : Keep (fun b => b = D ∨ (Value.slice P sk.waits.length pc).ownBlock = some b) wr (w3.setCell ⟨D, 1, none⟩ (.slice P' (sk.waits.length + 1) c')) := (hk03.mono fun b _ hb => .inr hb).andThen (hk35.mono fun b _ hb => .inl hb)
          rw [HSK.out] at hrf hkf hkall hc3
          have HRF := Lib.hid hrf
          have HKF := Lib.hid hkf
          have HKA := Lib.hid hkall
          clear hrep hset hk35 hb3 hk03 hg hat happ hrf hkf hkall
          refine wpAnyH_take (i := 15) (oi := ⟨_, _, _, _, _, _⟩) (v := ?_) rfl (by kernel_rfl) (by kernel_rfl) (by kernel_rfl) (fun _ _ _ h => h) (Or.inl ⟨by rfl, ?_⟩) (by assumption) ?_
          rotate_left
          · intro W hSw; (try dsimp only at hSw); go_simp; try with_reducible rfl
          try simp only [Act.put, List.setIfInBounds_toArray, List.set_cons_zero, List.set_cons_succ]
          refine wpAnyH_take (i := 16) (oi := ⟨_, _, _, _, _, _⟩) (v := ?_) rfl (by kernel_rfl) (by kernel_rfl) (by kernel_rfl) (fun _ _ _ h => h) (Or.inl ⟨by rfl, ?_⟩) (by assumption) ?_
          rotate_left
          · intro W hSw; (try dsimp only at hSw); go_simp; try with_reducible rfl
          try simp only [Act.put, List.setIfInBounds_toArray, List.set_cons_zero, List.set_cons_succ]
          refine wpAnyH_ready (rs := [17]) (by kernel_rfl) (by simp) ?_
          refine AllReadyH.cons (o := ⟨_, _, _, _, _, _⟩) rfl (fun K hK => ?_) AllReadyH.nil
          go_simp
          refine hK.out _ _ ?_ (fun hHeld => ?_)
          · exact HKP.out _ (by rw [HSK.out]; exact HKA.out)
          clear hK K
          try simp only [Act.put, List.setIfInBounds_toArray, List.set_cons_zero, List.set_cons_succ]
          refine wpAnyH_done (by kernel_rfl) ?_ _
          go_wp2_with fail
          go_roundw
          case rel => exact ⟨k + 1, by omega, by go_num, HRF.out, HKF.out⟩
          case measure => simp [intOf]; omega
        · go_simp
          refine hK1.out _ _ (HKP.out _ ((hk0.alloc' _).of0 _)) (fun hHeld2 => ?_)
          clear hK1 K1
          try simp only [Act.put, List.setIfInBounds_toArray, List.set_cons_zero, List.set_cons_succ]
          have c1'' : (wr.alloc (.cells #[.int .i64 ((i : Int) + (k : Int)), .int .u8 (x.toNat : Int)] 83)).cell? ⟨D, 1, none⟩ = some (.slice P (s.waits.length + k) pc) := (Keep.alloc wr _).cell_some c1 fun hb => hb
          refine wpAnyH_ready (rs := [4]) (by kernel_rfl) (by simp) ?_
          refine AllReadyH.cons (o := ⟨_, _, _, _, _, _⟩) rfl (fun K hK => ?_) AllReadyH.nil
          go_simp
          refine hK.out _ _ ?_ (fun hHeld => ?_)
          · exact HKP.out _ ((hk0.alloc' _).of0 _)
          clear hK K
          try simp only [Act.put, List.setIfInBounds_toArray, List.set_cons_zero, List.set_cons_succ]
          clear c1''
          refine wpAnyH_ready (rs := [14]) (by kernel_rfl) (by simp) ?_
          refine AllReadyH.cons (o := ⟨_, _, _, _, _, _⟩) rfl (fun K1 hK1 => ?_) AllReadyH.nil
          refine step_append_rd _ rfl (.tmp 27) (.tmp 36) 49 rfl 0 83 j0 _ 2 16 Try.underlying49 hj0 hz0 hz1 hz2 rfl (by omega) (.slice P (s.waits.length + k) pc) (s.waits.length + k) (sk.waits.flatMap oneCells) rfl (by rw [← HSK.out]; exact ownsRow_keep H.out.pend (hk0.alloc' _) fun _ _ hb => hb) (fun _ => True) (some ⟨wr.heap.size, 0, none⟩) 1 1 [.int .i64 ((i : Int) + (k : Int)), .int .u8 (x.toNat : Int)] rfl rfl (.inr ⟨_, _, rfl, trivial, two_cells _ _ _ _⟩) (by simp [Value.oneCell']) (by simp only [maxLen]; omega) (by omega) (Nat.zero_le _) ?_
          intro P' c' w3 happ hg hat
          rw [← HSK.out] at hg hat happ
          refine hK1.out _ _ (HKP.out _ ((((hk0.alloc' _).of0 _).andThen (Keep.ofGrown hg fun k hk => .inr hk)))) (fun hHeld3 => ?_)
          clear hK1 K1
          try simp only [Act.put, List.setIfInBounds_toArray, List.set_cons_zero, List.set_cons_succ]
          have hk03 : Keep (fun b => (Value.slice P sk.waits.length pc).ownBlock = some b) wr w3 := ((hk0.alloc' (.cells #[.int .i64 ((i : Int) + (k : Int)), .int .u8 (x.toNat : Int)] 83)).of0 _).andThen (Keep.ofGrown hg fun k hk => hk)
          have hb3 := H.out.blk.keep hk03 (fun hx => H.out.nePD D hx rfl)
          have hc3 : w3.cell? ⟨D, 1, none⟩ = some (.slice P sk.waits.length pc) := hb3.cell 1
          have hf3 := hb3.frozen
          have hset := hb3.set_ 1 (.slice P' (sk.waits.length + 1) c')
          have hk35 : Keep (fun b => b = D) w3 (w3.setCell ⟨D, 1, none⟩ (.slice P' (sk.waits.length + 1) c')) := Keep.setCell (S := fun b => b = D) w3 ⟨D, 1, none⟩ _ rfl
          rw [HIN.out] at happ
          have hrep := rpush_rep (w := wr) (w1 := wr) (i := i + k) (x := x) H.out (hk0.alloc' _) happ hg hat (by rw [HKE.out]; have := HIK.out; omega) hk35 hset
          rw [HPP.out] at hrep
          have hkf : Keep F w (w3.setCell ⟨D, 1, none⟩ (.slice P' (sk.waits.length + 1) c')) := HK.out.trans hrep.2 fun b hb hx => by
            rcases hx with hx | hx
            · exact hx
            · omega
          have hrf : RDsk (w3.setCell ⟨D, 1, none⟩ (.slice P' (sk.waits.length + 1) c')) D (s.push (at_ i (l.take (k + 1)))) (Ext F w (w3.setCell ⟨D, 1, none⟩ (.slice P' (sk.waits.length + 1) c'))) := hrep.1.mono fun b hb hx => by
            rcases hx with (hx | hx) | hx
            · exact .inl hx
            · exact .inr ⟨hx.1, hb⟩
            · exact .inr ⟨Nat.le_trans HK.out.size hx.1, hb⟩
          have hkall : Keep (fun b => b = D ∨ (Value.slice P sk.waits.length pc).ownBlock = some b) wr (w3.setCell ⟨D, 1, none⟩ (.slice P' (sk.waits.length + 1) c')) := (hk03.mono fun b _ hb => .inr hb).andThen (hk35.mono fun b _ hb => .inl hb)
          rw [HSK.out] at hrf hkf hkall hc3
          have HRF := Lib.hid hrf
          have HKF := Lib.hid hkf
          have HKA := Lib.hid hkall
          clear hrep hset hk35 hb3 hk03 hg hat happ hrf hkf hkall
          refine wpAnyH_take (i := 15) (oi := ⟨_, _, _, _, _, _⟩) (v := ?_) rfl (by kernel_rfl) (by kernel_rfl) (by kernel_rfl) (fun _ _ _ h => h) (Or.inl ⟨by rfl, ?_⟩) (by assumption) ?_
          rotate_left
          · intro W hSw; (try dsimp only at hSw); go_simp; try with_reducible rfl
          try simp only [Act.put, List.setIfInBounds_toArray, List.set_cons_zero, List.set_cons_succ]
          refine wpAnyH_take (i := 16) (oi := ⟨_, _, _, _, _, _⟩) (v := ?_) rfl (by kernel_rfl) (by kernel_rfl) (by kernel_rfl) (fun _ _ _ h => h) (Or.inl ⟨by rfl, ?_⟩) (by assumption) ?_
          rotate_left
          · intro W hSw; (try dsimp only at hSw); go_simp; try with_reducible rfl
          try simp only [Act.put, List.setIfInBounds_toArray, List.set_cons_zero, List.set_cons_succ]
          refine wpAnyH_ready (rs := [17]) (by kernel_rfl) (by simp) ?_
          refine AllReadyH.cons (o := ⟨_, _, _, _, _, _⟩) rfl (fun K hK => ?_) AllReadyH.nil
          go_simp
          refine hK.out _ _ ?_ (fun hHeld => ?_)
          · exact HKP.out _ (by rw [HSK.out]; exact HKA.out)
          clear hK K
          try simp only [Act.put, List.setIfInBounds_toArray, List.set_cons_zero, List.set_cons_succ]
          refine wpAnyH_done (by kernel_rfl) ?_ _
          go_wp2_with fail
          go_roundw
          case rel => exact ⟨k + 1, by omega, by go_num, HRF.out, HKF.out⟩
          case measure => simp [intOf]; omega
      · obtain rfl : k = n := by omega
        rw [List.take_of_length_le (by rw [HLL.out]; exact Nat.le_refl _)] at hd
        have hdn2 : (s.push (at_ i l)).down = false := HDN.out
        have HD2 := Lib.hid hd
        have HDN2 := Lib.hid hdn2
        clear hd hkr hdn2
        go_wp2_with fail
        refine (rstops_any (s := s.push (at_ i l)) HDN2.out HD2.out).mono ?_
        rintro e w6 ⟨rfl, hd6, hk6⟩
        have hfin : RDsk w6 D (s.push (at_ i l)).stop (Ext F w w6) := hd6.mono fun b hb hx => by
          rcases hx with hx | hx
          · exact .inl hx
          · exact .inr ⟨hx.1, hb⟩
        have hkf : Keep F w w6 := HK.out.trans hk6 fun b _ e => by rw [e]; exact HD.out.fD
        have HF := Lib.hid hfin
        have HKF := Lib.hid hkf
        clear hd6 hk6 hfin hkf
        by_cases hsd : (s.push (at_ i l)).stop.down = true
        · have HSD := Lib.hid hsd
          rw [hsd]
          clear hsd
          go_wp2_with fail
          go_ret
          exact ⟨ret_i (by unfold DSt.errno; rw [HSD.out]; rfl), HF.out, HKF.out⟩
        · have hsd' : (s.push (at_ i l)).stop.down = false := by simpa using hsd
          have HSD := Lib.hid hsd'
          rw [hsd']
          clear hsd hsd'
          go_wp2_with fail
          go_ret
          exact ⟨ret_i (by unfold DSt.errno; rw [HSD.out]; rfl), HF.out, HKF.out⟩
  · have hlen := hsl.len
    refine (rwrite_err a l A n c ha hlen hz hd).mono ?_
    rintro e w' ⟨rfl, h2, rfl⟩
    rw [h2]
    exact ⟨rfl, hd.mono fun b _ hb => .inl hb, Keep.refl _ _⟩
end
end Go.Proofs.Ytbdencfgiemliaa
