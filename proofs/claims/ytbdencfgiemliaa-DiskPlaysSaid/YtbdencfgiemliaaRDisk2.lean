/-
  Contracts of the reference disk's keep, Sync and Restart: what the plain disk says. No condition beyond that it lies so in memory, with fewer than 2^40 bytes pending.
-/
import Derived.Test.YtbdencfgiemliaaRDisk1
namespace Go.Proofs.Ytbdencfgiemliaa
open Go.RowKit
set_option linter.unusedVariables false
theorem one_cells (ps : List (Nat × UInt8)) (i : Nat) (h : i < ps.length) : (ps.flatMap oneCells)[i * 2]? = some (.int .i64 (ps[i].1 : Int)) ∧ (ps.flatMap oneCells)[i * 2 + 1]? = some (.int .u8 (ps[i].2.toNat : Int)) := by
  induction ps generalizing i with
  | nil => simp at h
  | cons e t ih =>
    rcases i with _ | i
    · simp [oneCells]
    · have := ih i (by simpa using h)
      simp only [List.flatMap_cons, oneCells, List.getElem_cons_succ]
      rw [show (i + 1) * 2 = i * 2 + 2 by omega, show i * 2 + 2 + 1 = (i * 2 + 1) + 2 by omega]
      simpa [oneCells] using this
theorem RDskRep.pcell {w : World} {D K pc : Nat} {s : DSt} {F : Nat → Prop} {P : Option Addr} (h : RDskRep w D s F K P pc) {i : Nat} (hi : i < s.waits.length) : ∃ g, P = some ⟨g, 0, none⟩ ∧ g ≠ K ∧ g ≠ D ∧
    w.cell? ⟨g, i * 2, none⟩ = some (.int .i64 (s.waits[i].1 : Int)) ∧ w.cell? ⟨g, i * 2 + 1, none⟩ = some (.int .u8 (s.waits[i].2.toNat : Int)) := by
  obtain ⟨q0, q1⟩ := one_cells s.waits i hi
  rcases h.pend.2 with ⟨hv, h0⟩ | ⟨g, cap, cur, hv, _, hb, _, _, _, ht⟩
  · omega
  · simp only [Value.slice.injEq, true_and] at hv
    obtain ⟨rfl, rfl⟩ := hv
    have hc : ∀ j u, (s.waits.flatMap oneCells)[j]? = some u → w.cell? ⟨g, j, none⟩ = some u := by
      intro j u hu
      have h1 := h.pend.cells (g := g) rfl j u hu
      rw [show (⟨g, 0, none⟩ : Addr).add j = ⟨g, j, none⟩ by unfold Addr.add; split <;> simp_all] at h1
      exact h1
    exact ⟨g, rfl, h.nePK g rfl, h.nePD g rfl, hc _ _ q0, hc _ _ q1⟩
section
variable {F : Nat → Prop} {w : World} {D : Nat} {s : DSt}
set_option maxRecDepth 20000
set_option maxHeartbeats 2000000
theorem rkeep_any (n : Nat) (hn : n ≤ s.waits.length) (hw : s.waits.length < 1099511627776) (hd : RDsk w D s F) : Calls Try.prog 58 #[.pointer (some ⟨D, 0, none⟩), .int .i64 (n : Int)] w fun e w' => e = .returned (.tuple #[]) ∧ RDsk w' D (s.flush n) F ∧ Keep F w w' := by
  obtain ⟨K, P, pc, h⟩ := hd
  have H := Lib.hid h
  have hfin0 : ∀ wr, Own wr 0 5 (some ⟨K, 0, none⟩) s.kept.length s.kept.length ((layAll 0 s.kept (s.waits.take n)).map bv) → Keep (fun b => b = K) w wr →
      (wr.cell? ⟨D, 1, none⟩ = some (.slice P s.waits.length pc) ∧ ∀ i, wr.frozen? ⟨D, i, none⟩ = false) ∧ RDsk (wr.setCell ⟨D, 1, none⟩ (.slice none 0 0)) D (s.flush n) F ∧ Keep F w (wr.setCell ⟨D, 1, none⟩ (.slice none 0 0)) := by
    intro wr hown hk
    have hb := h.blk.keep hk (fun e => h.neKD e.symm)
    have hset := hb.set_ 1 (.slice none 0 0)
    have hlen := layAll_len 0 (s.waits.take n) s.kept
    refine ⟨⟨hb.cell 1, hb.frozen⟩, ⟨K, none, 0, ?_, ?_, World.ownsRow_nil _ _ _ _, ⟨?_, by simp [DSt.flush], h.ok.arm⟩, h.fD, h.fK, by simp [Value.ownBlock]⟩, (hk.mono (T := F) fun b _ e => by rw [e]; exact h.fK).set' _ _ (.inl h.fD)⟩
    · unfold DSt.flush
      simp only
      rw [hlen]
      exact hset
    · unfold DSt.flush
      simp only
      rw [hlen]
      exact ownsRow_keep hown (Keep.setCell (S := fun b => b = D) wr ⟨D, 1, none⟩ _ rfl) (fun g hg => by simp [Value.ownBlock] at hg; subst hg; exact h.neKD)
    · unfold DSt.flush
      simp only
      rw [hlen]; exact h.ok.size
  have HF := Lib.hid hfin0
  have HN := Lib.hid hn
  have hnb : n < 1099511627776 := by omega
  clear hfin0 h hn
  go_enter Try.func58, Try.ntmps58
  go_wp2_with fail
  go_loopw [4] (fun i wr => ∃ k : Nat, k ≤ n ∧ i = .int .i64 k ∧ Own wr 0 5 (some ⟨K, 0, none⟩) s.kept.length s.kept.length ((layAll 0 s.kept (s.waits.take k)).map bv) ∧ Keep (fun b => b = K) w wr) (fun i _ => n - (intOf i).toNat)
  case atStart => exact ⟨0, Nat.zero_le _, rfl, H.out.kept, Keep.refl _ _⟩
  case round =>
    obtain ⟨k, hk, rfl, hown, hkr⟩ := hrel
    have HO := Lib.hid hown
    have HK := Lib.hid hkr
    clear hown hkr
    by_cases hlt : k < n
    · have hkw : k < s.waits.length := Nat.lt_of_lt_of_le hlt HN.out
      obtain ⟨g, rfl, hgK, hgD, hp0, hp1⟩ := H.out.pcell hkw
      have hb := H.out.blk.keep HK.out (fun e => H.out.neKD e.symm)
      have hd0 : wr.cell? ⟨D, 0, none⟩ = some (.slice (some ⟨K, 0, none⟩) s.kept.length s.kept.length) := hb.cell 0
      have hd1 : wr.cell? ⟨D, 1, none⟩ = some (.slice (some ⟨g, 0, none⟩) s.waits.length pc) := hb.cell 1
      have hq0 : wr.cell? ⟨g, k * 2, none⟩ = some (.int .i64 (s.waits[k].1 : Int)) := HK.out.cell_some hp0 hgK
      have hq1 : wr.cell? ⟨g, k * 2 + 1, none⟩ = some (.int .u8 (s.waits[k].2.toNat : Int)) := HK.out.cell_some hp1 hgK
      have hpl := H.out.ok.pend s.waits[k] (List.getElem_mem hkw)
      obtain ⟨p, hpe⟩ : ∃ p, p = s.waits[k] := ⟨_, rfl⟩
      have hsn : layAll 0 s.kept (s.waits.take (k + 1)) = (layAll 0 s.kept (s.waits.take k)).set p.1 p.2 := by
        rw [List.take_succ_eq_append_getElem hkw, layAll_snoc, ← hpe]
        unfold layOne
        rw [if_pos ⟨Nat.zero_le _, by rw [layAll_len, hpe]; exact hpl⟩]
        rfl
      rw [← hpe] at hq0 hq1 hpl
      obtain ⟨p1, p2⟩ := p
      simp only at hq0 hq1 hpl hsn
      obtain ⟨g', e, _, _, ⟨u, hcu, _⟩, hfz, hset⟩ := HO.out.set_ (k := p1) hpl
      injection e with e
      injection e with e
      subst e
      have hfin := hset (bv p2)
      rw [← List.map_set, ← hsn] at hfin
      have e2 : bv p2 = .int .u8 (p2.toNat : Int) := rfl
      rw [e2] at hfin
      have hL := H.out.ok.size
      have HFIN := Lib.hid hfin
      have HKF := Lib.hid (HK.out.andThen (Keep.setCell (S := fun b => b = K) wr ⟨K, p1, none⟩ (.int .u8 (p2.toNat : Int)) rfl))
      have HW2 : Hid (s.waits.length < 1099511627776) := hw
      have hKD := H.out.neKD
      have hkp : ∀ W, Keep (fun b => b = K) wr W → W.cell? ⟨D, 0, none⟩ = some (.slice (some ⟨K, 0, none⟩) s.kept.length s.kept.length) ∧ W.cell? ⟨D, 1, none⟩ = some (.slice (some ⟨g, 0, none⟩) s.waits.length pc) ∧ W.cell? ⟨g, k * 2, none⟩ = some (.int .i64 (p1 : Int)) ∧ W.cell? ⟨g, k * 2 + 1, none⟩ = some (.int .u8 (p2.toNat : Int)) :=
        fun W hW => ⟨hW.cell_some hd0 (fun e => hKD e.symm), hW.cell_some hd1 (fun e => hKD e.symm), hW.cell_some hq0 hgK, hW.cell_some hq1 hgK⟩
      have HKP := Lib.hid hkp
      clear hset hfin e2 hkp hb hsn hpe hp0 hp1
      have hsl : (p1 : Int) < (s.kept.length : Int) := by omega
      have hkl : (k : Int) < (s.waits.length : Int) := by omega
      go_wp2_with fail
      refine wp_region_held_drew (S := fun W => W.cell? ⟨D, 0, none⟩ = some (.slice (some ⟨K, 0, none⟩) s.kept.length s.kept.length) ∧ W.cell? ⟨D, 1, none⟩ = some (.slice (some ⟨g, 0, none⟩) s.waits.length pc) ∧ W.cell? ⟨g, k * 2, none⟩ = some (.int .i64 (p1 : Int)) ∧ W.cell? ⟨g, k * 2 + 1, none⟩ = some (.int .u8 (p2.toNat : Int))) (by kernel_rfl) ?_ (fun hHeld => ?_)
      · exact HKP.out _ ((Keep.drew wr).of0 _)
      refine wpAnyH_take (i := 0) (oi := ⟨_, _, _, _, _, _⟩) (v := ?_) rfl (by kernel_rfl) (by kernel_rfl) (by kernel_rfl) (fun _ _ _ h => h) (Or.inl ⟨by rfl, ?_⟩) (by assumption) ?_
      rotate_left
      · intro W hSw; (try dsimp only at hSw); go_simp; try with_reducible rfl
      try simp only [Act.put, List.setIfInBounds_toArray, List.set_cons_zero, List.set_cons_succ]
      refine wpAnyH_take (i := 1) (oi := ⟨_, _, _, _, _, _⟩) (v := ?_) rfl (by kernel_rfl) (by kernel_rfl) (by kernel_rfl) (fun _ _ _ h => h) (Or.inl ⟨by rfl, ?_⟩) (by assumption) ?_
      rotate_left
      · intro W hSw; (try dsimp only at hSw); go_simp; try with_reducible rfl
      try simp only [Act.put, List.setIfInBounds_toArray, List.set_cons_zero, List.set_cons_succ]
      refine wpAnyH_take (i := 2) (oi := ⟨_, _, _, _, _, _⟩) (v := ?_) rfl (by kernel_rfl) (by kernel_rfl) (by kernel_rfl) (fun _ _ _ h => h) (Or.inl ⟨by rfl, ?_⟩) (by assumption) ?_
      rotate_left
      · intro W hSw; (try dsimp only at hSw); go_simp; try with_reducible rfl
      try simp only [Act.put, List.setIfInBounds_toArray, List.set_cons_zero, List.set_cons_succ]
      refine wpAnyH_take (i := 3) (oi := ⟨_, _, _, _, _, _⟩) (v := ?_) rfl (by kernel_rfl) (by kernel_rfl) (by kernel_rfl) (fun _ _ _ h => h) (Or.inl ⟨by rfl, ?_⟩) (by assumption) ?_
      rotate_left
      · intro W hSw; (try dsimp only at hSw); go_simp; try with_reducible rfl
      try simp only [Act.put, List.setIfInBounds_toArray, List.set_cons_zero, List.set_cons_succ]
      refine wpAnyH_take (i := 4) (oi := ⟨_, _, _, _, _, _⟩) (v := ?_) rfl (by kernel_rfl) (by kernel_rfl) (by kernel_rfl) (fun _ _ _ h => h) (Or.inl ⟨by rfl, ?_⟩) (by assumption) ?_
      rotate_left
      · intro W hSw; (try dsimp only at hSw); go_simp; try with_reducible rfl
      try simp only [Act.put, List.setIfInBounds_toArray, List.set_cons_zero, List.set_cons_succ]
      refine wpAnyH_take (i := 5) (oi := ⟨_, _, _, _, _, _⟩) (v := ?_) rfl (by kernel_rfl) (by kernel_rfl) (by kernel_rfl) (fun _ _ _ h => h) (Or.inl ⟨by rfl, ?_⟩) (by assumption) ?_
      rotate_left
      · intro W hSw; (try dsimp only at hSw); go_simp; try with_reducible rfl
      try simp only [Act.put, List.setIfInBounds_toArray, List.set_cons_zero, List.set_cons_succ]
      refine wpAnyH_take (i := 6) (oi := ⟨_, _, _, _, _, _⟩) (v := ?_) rfl (by kernel_rfl) (by kernel_rfl) (by kernel_rfl) (fun _ _ _ h => h) (Or.inl ⟨by rfl, ?_⟩) (by assumption) ?_
      rotate_left
      · intro W hSw; (try dsimp only at hSw); go_simp; try with_reducible rfl
      try simp only [Act.put, List.setIfInBounds_toArray, List.set_cons_zero, List.set_cons_succ]
      refine wpAnyH_take (i := 7) (oi := ⟨_, _, _, _, _, _⟩) (v := ?_) rfl (by kernel_rfl) (by kernel_rfl) (by kernel_rfl) (fun _ _ _ h => h) (Or.inl ⟨by rfl, ?_⟩) (by assumption) ?_
      rotate_left
      · intro W hSw; (try dsimp only at hSw); go_simp; try with_reducible rfl
      try simp only [Act.put, List.setIfInBounds_toArray, List.set_cons_zero, List.set_cons_succ]
      refine wpAnyH_take (i := 8) (oi := ⟨_, _, _, _, _, _⟩) (v := ?_) rfl (by kernel_rfl) (by kernel_rfl) (by kernel_rfl) (fun _ _ _ h => h) (Or.inl ⟨by rfl, ?_⟩) (by assumption) ?_
      rotate_left
      · intro W hSw; (try dsimp only at hSw); go_simp; try with_reducible rfl
      try simp only [Act.put, List.setIfInBounds_toArray, List.set_cons_zero, List.set_cons_succ]
      refine wpAnyH_take (i := 9) (oi := ⟨_, _, _, _, _, _⟩) (v := ?_) rfl (by kernel_rfl) (by kernel_rfl) (by kernel_rfl) (fun _ _ _ h => h) (Or.inl ⟨by rfl, ?_⟩) (by assumption) ?_
      rotate_left
      · intro W hSw; (try dsimp only at hSw); go_simp; try with_reducible rfl
      try simp only [Act.put, List.setIfInBounds_toArray, List.set_cons_zero, List.set_cons_succ]
      refine wpAnyH_take (i := 10) (oi := ⟨_, _, _, _, _, _⟩) (v := ?_) rfl (by kernel_rfl) (by kernel_rfl) (by kernel_rfl) (fun _ _ _ h => h) (Or.inl ⟨by rfl, ?_⟩) (by assumption) ?_
      rotate_left
      · intro W hSw; (try dsimp only at hSw); go_simp; try with_reducible rfl
      try simp only [Act.put, List.setIfInBounds_toArray, List.set_cons_zero, List.set_cons_succ]
      refine wpAnyH_take (i := 11) (oi := ⟨_, _, _, _, _, _⟩) (v := ?_) rfl (by kernel_rfl) (by kernel_rfl) (by kernel_rfl) (fun _ _ _ h => h) (Or.inl ⟨by rfl, ?_⟩) (by assumption) ?_
      rotate_left
      · intro W hSw; (try dsimp only at hSw); go_simp; try with_reducible rfl
      try simp only [Act.put, List.setIfInBounds_toArray, List.set_cons_zero, List.set_cons_succ]
      refine wpAnyH_take (i := 12) (oi := ⟨_, _, _, _, _, _⟩) (v := ?_) rfl (by kernel_rfl) (by kernel_rfl) (by kernel_rfl) (fun _ _ _ h => h) (Or.inl ⟨by rfl, ?_⟩) (by assumption) ?_
      rotate_left
      · intro W hSw; (try dsimp only at hSw); go_simp; try with_reducible rfl
      try simp only [Act.put, List.setIfInBounds_toArray, List.set_cons_zero, List.set_cons_succ]
      refine wpAnyH_take (i := 13) (oi := ⟨_, _, _, _, _, _⟩) (v := ?_) rfl (by kernel_rfl) (by kernel_rfl) (by kernel_rfl) (fun _ _ _ h => h) (Or.inl ⟨by rfl, ?_⟩) (by assumption) ?_
      rotate_left
      · intro W hSw; (try dsimp only at hSw); go_simp; try with_reducible rfl
      try simp only [Act.put, List.setIfInBounds_toArray, List.set_cons_zero, List.set_cons_succ]
      refine wpAnyH_take (i := 14) (oi := ⟨_, _, _, _, _, _⟩) (v := ?_) rfl (by kernel_rfl) (by kernel_rfl) (by kernel_rfl) (fun _ _ _ h => h) (Or.inl ⟨by rfl, ?_⟩) (by assumption) ?_
      rotate_left
      · intro W hSw; (try dsimp only at hSw); go_simp; try with_reducible rfl
      try simp only [Act.put, List.setIfInBounds_toArray, List.set_cons_zero, List.set_cons_succ]
      refine wpAnyH_take (i := 15) (oi := ⟨_, _, _, _, _, _⟩) (v := ?_) rfl (by kernel_rfl) (by kernel_rfl) (by kernel_rfl) (fun _ _ _ h => h) (Or.inl ⟨by rfl, ?_⟩) (by assumption) ?_
      rotate_left
      · intro W hSw; (try dsimp only at hSw); go_simp; try with_reducible rfl
      try simp only [Act.put, List.setIfInBounds_toArray, List.set_cons_zero, List.set_cons_succ]
      refine wpAnyH_take (i := 16) (oi := ⟨_, _, _, _, _, _⟩) (v := ?_) rfl (by kernel_rfl) (by kernel_rfl) (by kernel_rfl) (fun _ _ _ h => h) (Or.inl ⟨by rfl, ?_⟩) (by assumption) ?_
      rotate_left
      · intro W hSw; (try dsimp only at hSw); go_simp; try with_reducible rfl
      try simp only [Act.put, List.setIfInBounds_toArray, List.set_cons_zero, List.set_cons_succ]
      refine wpAnyH_take (i := 17) (oi := ⟨_, _, _, _, _, _⟩) (v := ?_) rfl (by kernel_rfl) (by kernel_rfl) (by kernel_rfl) (fun _ _ _ h => h) (Or.inl ⟨by rfl, ?_⟩) (by assumption) ?_
      rotate_left
      · intro W hSw; (try dsimp only at hSw); go_simp; try with_reducible rfl
      try simp only [Act.put, List.setIfInBounds_toArray, List.set_cons_zero, List.set_cons_succ]
      refine wpAnyH_take (i := 18) (oi := ⟨_, _, _, _, _, _⟩) (v := ?_) rfl (by kernel_rfl) (by kernel_rfl) (by kernel_rfl) (fun _ _ _ h => h) (Or.inl ⟨by rfl, ?_⟩) (by assumption) ?_
      rotate_left
      · intro W hSw; (try dsimp only at hSw); go_simp; try with_reducible rfl
      try simp only [Act.put, List.setIfInBounds_toArray, List.set_cons_zero, List.set_cons_succ]
      refine wpAnyH_take (i := 19) (oi := ⟨_, _, _, _, _, _⟩) (v := ?_) rfl (by kernel_rfl) (by kernel_rfl) (by kernel_rfl) (fun _ _ _ h => h) (Or.inl ⟨by rfl, ?_⟩) (by assumption) ?_
      rotate_left
      · intro W hSw; (try dsimp only at hSw); go_simp; try with_reducible rfl
      try simp only [Act.put, List.setIfInBounds_toArray, List.set_cons_zero, List.set_cons_succ]
      refine wpAnyH_take (i := 20) (oi := ⟨_, _, _, _, _, _⟩) (v := ?_) rfl (by kernel_rfl) (by kernel_rfl) (by kernel_rfl) (fun _ _ _ h => h) (Or.inl ⟨by rfl, ?_⟩) (by assumption) ?_
      rotate_left
      · intro W hSw; (try dsimp only at hSw); go_simp; try with_reducible rfl
      try simp only [Act.put, List.setIfInBounds_toArray, List.set_cons_zero, List.set_cons_succ]
      refine wpAnyH_ready (rs := [21]) (by kernel_rfl) (by simp) ?_
      refine AllReadyH.cons (o := ⟨_, _, _, _, _, _⟩) rfl (fun K hK => ?_) AllReadyH.nil
      go_simp
      refine hK.out _ _ ?_ (fun hHeld => ?_)
      · exact HKP.out _ (((Keep.drew wr).of0 _).andThen (Keep.setCell _ _ _ rfl))
      clear hK K
      try simp only [Act.put, List.setIfInBounds_toArray, List.set_cons_zero, List.set_cons_succ]
      refine wpAnyH_done (by kernel_rfl) ?_ _
      go_wp2_with fail
      go_roundw
      case rel => exact ⟨k + 1, by omega, by go_num, HFIN.out.keep0 (Keep.drew _), HKF.out.drew'⟩
      case measure => simp [intOf]; omega
    · obtain rfl : k = n := by omega
      obtain ⟨⟨hc1, hf1⟩, hd2, hk2⟩ := HF.out wr HO.out HK.out
      have HD2 := Lib.hid hd2
      have HK2 := Lib.hid hk2
      clear hd2 hk2
      go_wp2_with fail
      go_end0
      exact ⟨rfl, HD2.out, HK2.out⟩
theorem RDsk.waitsCell (hd : RDsk w D s F) : ∃ P pc, w.cell? ⟨D, 1, none⟩ = some (.slice P s.waits.length pc) := by
  obtain ⟨K, P, pc, h⟩ := hd
  exact ⟨P, pc, h.cells.2.1⟩
theorem rsync_any (hwl : s.waits.length < 1099511627776) (hd : RDsk w D s F) : Calls Try.prog 32 #[.pointer (some ⟨D, 0, none⟩)] w fun e w' => e = .returned (.int .i64 s.syncE) ∧ RDsk w' D s.sync F ∧ Keep F w w' := by
  have hd0 := hd
  obtain ⟨K, P, pc, h⟩ := hd
  obtain ⟨c0, c1, c2, c3, hf⟩ := h.cells
  have hfD := h.fD
  have HD := Lib.hid hd0
  clear h c1 c3 hd0
  by_cases hw : s.down = true
  · rw [hw] at c2
    have e1 : s.syncE = 15 := by unfold DSt.syncE; rw [if_pos hw]
    have e2 : s.sync = s := by unfold DSt.sync; rw [if_pos hw]
    rw [e1, e2]
    clear e1 e2 hw
    go_enter Try.func32, Try.ntmps32
    go_wp2
    go_ret
    exact ⟨rfl, HD.out, Keep.refl _ _⟩
  · have hw' : s.down = false := by simpa using hw
    rw [hw'] at c2
    have HW := Lib.hid hw'
    by_cases hs : s.stop.down = true
    · have e1 : s.syncE = 15 := by unfold DSt.syncE DSt.errno; rw [if_neg hw, if_pos hs]
      have e2 : s.sync = s.stop := by unfold DSt.sync; rw [if_neg hw, if_pos hs]
      rw [e1, e2]
      have HS := Lib.hid hs
      clear e1 e2 hw hs hw'
      go_enter Try.func32, Try.ntmps32
      go_wp2_with fail
      refine (rstops_any HW.out HD.out).mono ?_
      rintro e w1 ⟨rfl, hd1, hk1⟩
      rw [HS.out]
      have HD1 := Lib.hid hd1
      have HK1 : Hid (Keep F w w1) := hk1.mono fun b _ e => by rw [e]; exact hfD
      clear hd1 hk1
      go_wp2_with fail
      go_ret
      exact ⟨rfl, HD1.out, HK1.out⟩
    · have hs' : s.stop.down = false := by simpa using hs
      have e1 : s.syncE = 0 := by unfold DSt.syncE DSt.errno; rw [if_neg hw, if_neg hs]
      have e2 : s.sync = s.stop.flush s.waits.length := by unfold DSt.sync; rw [if_neg hw, if_neg hs]
      rw [e1, e2]
      have HS := Lib.hid hs'
      clear e1 e2 hw hs hw' hs'
      go_enter Try.func32, Try.ntmps32
      go_wp2_with fail
      refine (rstops_any HW.out HD.out).mono ?_
      rintro e w1 ⟨rfl, hd1, hk1⟩
      rw [HS.out]
      have HD1 := Lib.hid hd1
      have HK1 : Hid (Keep F w w1) := hk1.mono fun b _ e => by rw [e]; exact hfD
      obtain ⟨P1, pc1, hc1⟩ := hd1.waitsCell
      have hc1' : w1.cell? ⟨D, 1, none⟩ = some (.slice P1 s.waits.length pc1) := hc1
      clear hd1 hk1 hc1
      go_wp2_with fail
      refine (rkeep_any (s := s.stop) s.waits.length (Nat.le_refl _) hwl HD1.out).mono ?_
      rintro e w2 ⟨rfl, hd2, hk2⟩
      have HD2 := Lib.hid hd2
      have HK2 := Lib.hid (HK1.out.andThen hk2)
      clear hd2 hk2 hc1'
      go_wp2_with fail
      go_ret
      exact ⟨rfl, HD2.out, HK2.out⟩
theorem rrestart_any (keep : Int) (hwl : s.waits.length < 1099511627776) (hd : RDsk w D s F) : Calls Try.prog 34 #[.pointer (some ⟨D, 0, none⟩), .int .i64 keep] w fun e w' => e = .returned (.int .i64 (s.cut keep : Int)) ∧ RDsk w' D (s.restart keep) F ∧ Keep F w w' := by
  have hd0 := hd
  obtain ⟨K, P, pc, h⟩ := hd
  obtain ⟨c0, c1, c2, c3, hf⟩ := h.cells
  have hfD := h.fD
  have HD := Lib.hid hd0
  clear h c2 c3 hd0
  have hres : s.restart keep = { s.flush (s.cut keep) with down := false, armed := 0 } := rfl
  rw [hres]
  have hcut : s.cut keep ≤ s.waits.length := by unfold DSt.cut; omega
  have key : ∀ (q : Nat), q = s.cut keep → ∀ w1, RDsk w1 D (s.flush q) F → Keep F w w1 → (w1.cell? ⟨D, 2, none⟩ = some (.bool s.down) ∧ w1.cell? ⟨D, 3, none⟩ = some (.int .i64 (s.armed : Int)) ∧ (∀ i, w1.frozen? ⟨D, i, none⟩ = false)) ∧ RDsk ((w1.setCell ⟨D, 2, none⟩ (.bool false)).setCell ⟨D, 3, none⟩ (.int .i64 0)) D { s.flush (s.cut keep) with down := false, armed := 0 } F ∧ Keep F w ((w1.setCell ⟨D, 2, none⟩ (.bool false)).setCell ⟨D, 3, none⟩ (.int .i64 0)) := by
    rintro q rfl w1 hd1 hk1
    obtain ⟨K, P, pc, h⟩ := hd1
    have hset := (h.blk.set_ 2 (.bool false)).set_ 3 (.int .i64 0)
    have hkD : Keep (fun b => b = D) w1 ((w1.setCell ⟨D, 2, none⟩ (.bool false)).setCell ⟨D, 3, none⟩ (.int .i64 0)) :=
        (Keep.setCell (S := fun b => b = D) w1 ⟨D, 2, none⟩ _ rfl).andThen (Keep.setCell (S := fun b => b = D) _ ⟨D, 3, none⟩ _ rfl)
    have hc := h.cells
    exact ⟨⟨hc.2.2.1, hc.2.2.2.1, hc.2.2.2.2⟩, ⟨K, P, pc, h.setD hkD false 0 (by omega) hset⟩, hk1.andThen (hkD.mono fun b _ e => by rw [e]; exact hfD)⟩
  have HKEY := Lib.hid key
  have hcdef : (s.cut keep : Int) = max 0 (min keep (s.waits.length : Int)) := by unfold DSt.cut; omega
  have HC := Lib.hid hcdef
  have HCUT := Lib.hid hcut
  clear key hres hcdef hcut
  obtain ⟨L, hL⟩ : ∃ L, L = s.waits.length := ⟨_, rfl⟩
  rw [← hL] at c1 hwl HC HCUT
  have HLL := Lib.hid hL
  clear hL
  by_cases h1 : keep ≤ 0
  · have e : s.cut keep = 0 := by have := HC.out; omega
    rw [e]
    rw [e] at HKEY
    clear e
    go_enter Try.func34, Try.ntmps34
    go_wp2_with fail
    refine (rkeep_any 0 (Nat.zero_le _) (by rw [← HLL.out]; exact hwl) HD.out).mono ?_
    rintro e w1 ⟨rfl, hd1, hk1⟩
    obtain ⟨⟨hc3, hc4, hf1⟩, hd2, hk2⟩ := HKEY.out 0 rfl w1 hd1 hk1
    have HD2 := Lib.hid hd2
    have HK2 := Lib.hid hk2
    clear hd1 hk1 hd2 hk2
    go_wp2_with fail
    go_ret
    exact ⟨rfl, HD2.out, HK2.out⟩
  · obtain ⟨k, rfl⟩ := Int.eq_ofNat_of_zero_le (show 0 ≤ keep by omega)
    by_cases h2 : (L : Int) < (k : Int)
    · have e : s.cut (k : Int) = L := by have := HC.out; omega
      rw [e]
      rw [e] at HKEY
      clear e
      have hL0 : (0 : Int) ≤ (L : Int) := by omega
      rcases Nat.eq_zero_or_pos L with hl | hl
      · subst hl
        go_enter Try.func34, Try.ntmps34
        go_wp2_with fail
        refine (rkeep_any 0 (Nat.zero_le _) (by rw [← HLL.out]; exact hwl) HD.out).mono ?_
        rintro e w1 ⟨rfl, hd1, hk1⟩
        obtain ⟨⟨hc3, hc4, hf1⟩, hd2, hk2⟩ := HKEY.out 0 rfl w1 hd1 hk1
        have HD2 := Lib.hid hd2
        have HK2 := Lib.hid hk2
        clear hd1 hk1 hd2 hk2
        go_wp2_with fail
        go_ret
        exact ⟨rfl, HD2.out, HK2.out⟩
      · go_enter Try.func34, Try.ntmps34
        go_wp2_with fail
        refine (rkeep_any L (by rw [HLL.out]; exact Nat.le_refl _) (by rw [← HLL.out]; exact hwl) HD.out).mono ?_
        rintro e w1 ⟨rfl, hd1, hk1⟩
        obtain ⟨⟨hc3, hc4, hf1⟩, hd2, hk2⟩ := HKEY.out L rfl w1 hd1 hk1
        have HD2 := Lib.hid hd2
        have HK2 := Lib.hid hk2
        clear hd1 hk1 hd2 hk2
        go_wp2_with fail
        go_ret
        exact ⟨rfl, HD2.out, HK2.out⟩
    · have e : s.cut (k : Int) = k := by have := HC.out; omega
      rw [e]
      rw [e] at HKEY HCUT
      clear e
      go_enter Try.func34, Try.ntmps34
      go_wp2_with fail
      refine (rkeep_any k (by rw [← HLL.out]; exact HCUT.out) (by rw [← HLL.out]; exact hwl) HD.out).mono ?_
      rintro e w1 ⟨rfl, hd1, hk1⟩
      obtain ⟨⟨hc3, hc4, hf1⟩, hd2, hk2⟩ := HKEY.out k rfl w1 hd1 hk1
      have HD2 := Lib.hid hd2
      have HK2 := Lib.hid hk2
      clear hd1 hk1 hd2 hk2
      go_wp2_with fail
      go_ret
      exact ⟨rfl, HD2.out, HK2.out⟩
end
end Go.Proofs.Ytbdencfgiemliaa
