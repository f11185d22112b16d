/-
  Contracts of a disk's keep, Sync, Restart, Read: what the plain disk says. Conditions: the disk lies so in memory, and its count of pending writes is below 2^30.
-/
import Derived.Test.YtbdencfgiemliaaDisk4
namespace Go.Proofs.Ytbdencfgiemliaa
open Go.RowKit
theorem blkOf_some (K o : Nat) (b : Nat) : BlkOf (some ⟨K, o, none⟩) b ↔ b = K := by
  constructor
  · rintro ⟨a, ha, rfl⟩; injection ha with ha; rw [← ha]
  · rintro rfl; exact ⟨_, rfl, rfl⟩
section
variable {F : Nat → Prop} {w : World} {D m : Nat} {s : DSt}
set_option maxRecDepth 20000
set_option maxHeartbeats 400000
theorem keep_any (n : Nat) (hn : n < 4611686018427387904) (hm : m ≤ 1073741824) (hd : Dsk w D s m F) : Calls Try.prog 54 #[.pointer (some ⟨D, 0, none⟩), .int .i64 (n : Int)] w fun e w' => e = .returned (.tuple #[]) ∧ Dsk w' D (s.flush n) 0 F ∧ Keep F w w' := by
  obtain ⟨K, P, pn, pc, ents, h⟩ := hd
  obtain ⟨c0, c1, c2, c3, c4, hf⟩ := h.cells
  have hlay := fun (W : World) (e : W = w) => lay_any (w := w) (D := D) (G := fun b => F b ∧ Off D K P b) 0 n (by omega) hn c1 h.pend h.each h.kept (fun b hb hx => hb.2.2.1 ((blkOf_some K 0 b).1 hx))
    (fun g hg hx => h.nePK g hg ((blkOf_some K 0 g).1 hx)) (fun e he => by have := h.bd e he; omega) (by have := h.cnt; omega)
  have HL := Lib.hid hlay
  have H := Lib.hid h
  clear hlay h c1 c2 c3 c4 hf
  go_enter Try.func54, Try.ntmps54
  go_wp2_with fail
  refine (HL.out _ rfl).mono ?_
  rintro e w1 ⟨rfl, hown1, hk1⟩
  rw [← H.out.waits] at hown1
  have hk1' : Keep (fun b => b = K) w w1 := hk1.mono fun b _ hb => (blkOf_some K 0 b).1 hb
  have hb1 := H.out.blk.keep hk1' (fun e => H.out.neKD e.symm)
  have hc1 : w1.cell? ⟨D, 1, none⟩ = some (.slice P pn pc) := hb1.cell 1
  have hc2 : w1.cell? ⟨D, 2, none⟩ = some (.int .i64 (s.waits.length : Int)) := hb1.cell 2
  have hf1 := hb1.frozen
  have hset := (hb1.set_ 1 (.slice none 0 0)).set_ 2 (.int .i64 0)
  have hk2 : Keep F w ((w1.setCell ⟨D, 1, none⟩ (.slice none 0 0)).setCell ⟨D, 2, none⟩ (.int .i64 0)) :=
    ((hk1'.mono (T := F) fun b _ e => by rw [e]; exact H.out.fK).set' _ _ (.inl H.out.fD)).set' _ _ (.inl H.out.fD)
  have hlen := layAll_len 0 (s.waits.take n) s.kept
  have hfin : Dsk ((w1.setCell ⟨D, 1, none⟩ (.slice none 0 0)).setCell ⟨D, 2, none⟩ (.int .i64 0)) D (s.flush n) 0 F := by
    refine ⟨K, none, 0, 0, [], ?_, ?_, World.ownsRow_nil _ _ _ _, by simp, rfl, ⟨?_, by simp [DSt.flush], H.out.ok.arm⟩, by simp, Nat.le_refl _, by simp [DSt.flush], H.out.fD, H.out.fK, by simp [Value.ownBlock]⟩
    · unfold DSt.flush
      simp only
      rw [hlen]
      exact hset
    · unfold DSt.flush
      simp only
      rw [hlen]
      have hkD : Keep (fun b => b = D) w1 ((w1.setCell ⟨D, 1, none⟩ (.slice none 0 0)).setCell ⟨D, 2, none⟩ (.int .i64 0)) :=
        (Keep.setCell (S := fun b => b = D) w1 ⟨D, 1, none⟩ _ rfl).andThen (Keep.setCell (S := fun b => b = D) _ ⟨D, 2, none⟩ _ rfl)
      exact ownsRow_keep hown1 hkD (fun g hg => by simp [Value.ownBlock] at hg; subst hg; exact H.out.neKD)
    · unfold DSt.flush
      simp only
      rw [hlen]; exact H.out.ok.size
  have HF := Lib.hid hfin
  have HK := Lib.hid hk2
  clear hown1 hk1 hk1' hb1 hset hk2 hlen hfin
  go_wp2_with fail
  go_end0
  exact ⟨rfl, HF.out, HK.out⟩
theorem DSt.flush_stop (s : DSt) (n : Nat) : s.stop.flush n = { s.flush n with down := decide (s.armed = 1), armed := s.armed - 1 } := rfl
theorem sync_any (hm : m ≤ 1073741824) (hd : Dsk w D s m F) : Calls Try.prog 26 #[.pointer (some ⟨D, 0, none⟩)] w fun e w' => e = .returned (.int .i64 s.syncE) ∧ Dsk w' D s.sync m F ∧ Keep F w w' := by
  have hd0 := hd
  obtain ⟨K, P, pn, pc, ents, h⟩ := hd
  obtain ⟨c0, c1, c2, c3, c4, hf⟩ := h.cells
  have hfD := h.fD
  have HD := Lib.hid hd0
  clear h c1 c2 c4 hd0
  by_cases hw : s.down = true
  · rw [hw] at c3
    have e1 : s.syncE = 15 := by unfold DSt.syncE; rw [if_pos hw]
    have e2 : s.sync = s := by unfold DSt.sync; rw [if_pos hw]
    rw [e1, e2]
    clear e1 e2 hw
    go_enter Try.func26, Try.ntmps26
    go_wp2
    go_ret
    exact ⟨rfl, HD.out, Keep.refl _ _⟩
  · have hw' : s.down = false := by simpa using hw
    rw [hw'] at c3
    have HW := Lib.hid hw'
    by_cases hs : s.stop.down = true
    · have e1 : s.syncE = 15 := by unfold DSt.syncE DSt.errno; rw [if_neg hw, if_pos hs]
      have e2 : s.sync = s.stop := by unfold DSt.sync; rw [if_neg hw, if_pos hs]
      rw [e1, e2]
      have HS := Lib.hid hs
      clear e1 e2 hw hs hw'
      go_enter Try.func26, Try.ntmps26
      go_wp2_with fail
      refine (stops_any HW.out HD.out).mono ?_
      rintro e w1 ⟨rfl, hd1, hk1⟩
      rw [HS.out]
      have HD1 := Lib.hid hd1
      have HK1 : Hid (Keep F w w1) := hk1.mono fun b _ e => by rw [e]; exact hfD
      clear hd1 hk1
      go_wp2_with fail
      go_ret
      exact ⟨rfl, HD1.out, HK1.out⟩
    · have hs' : s.stop.down = false := by simpa using hs
      have e1 : s.syncE = 0 := by unfold DSt.syncE DSt.errno; rw [if_neg hw, if_neg hs]
      have e2 : s.sync = s.stop.flush s.waits.length := by unfold DSt.sync; rw [if_neg hw, if_neg hs]
      rw [e1, e2]
      have HS := Lib.hid hs'
      clear e1 e2 hw hs hw' hs'
      go_enter Try.func26, Try.ntmps26
      go_wp2_with fail
      refine (stops_any HW.out HD.out).mono ?_
      rintro e w1 ⟨rfl, hd1, hk1⟩
      rw [HS.out]
      have HD1 := Lib.hid hd1
      have HK1 : Hid (Keep F w w1) := hk1.mono fun b _ e => by rw [e]; exact hfD
      have hc2 : w1.cell? ⟨D, 2, none⟩ = some (.int .i64 (s.waits.length : Int)) := by
        obtain ⟨K, P, pn, pc, ents, h⟩ := hd1
        exact h.cells.2.2.1
      have hfew := HD.out.few
      clear hd1 hk1
      go_wp2_with fail
      refine (keep_any s.waits.length (by omega) hm HD1.out).mono ?_
      rintro e w2 ⟨rfl, hd2, hk2⟩
      have HD2 := Lib.hid hd2
      have HK2 := Lib.hid (HK1.out.andThen hk2)
      clear hd2 hk2 hc2
      go_wp2_with fail
      go_ret
      exact ⟨rfl, HD2.out.more (Nat.zero_le _), HK2.out⟩
theorem restart_any (keep : Int) (hm : m ≤ 1073741824) (hd : Dsk w D s m F) : Calls Try.prog 29 #[.pointer (some ⟨D, 0, none⟩), .int .i64 keep] w fun e w' => e = .returned (.int .i64 (s.cut keep : Int)) ∧ Dsk w' D (s.restart keep) m F ∧ Keep F w w' := by
  have hd0 := hd
  obtain ⟨K, P, pn, pc, ents, h⟩ := hd
  obtain ⟨c0, c1, c2, c3, c4, hf⟩ := h.cells
  have hfD := h.fD
  have hfew := h.few
  have HD := Lib.hid hd0
  clear h c1 c3 c4 hd0
  have hres : s.restart keep = { s.flush (s.cut keep) with down := false, armed := 0 } := rfl
  rw [hres]
  have hcut : s.cut keep ≤ s.waits.length := by unfold DSt.cut; omega
  have key : ∀ (q : Nat), q = s.cut keep → ∀ w1, Dsk w1 D (s.flush q) 0 F → Keep F w w1 → (w1.cell? ⟨D, 3, none⟩ = some (.bool s.down) ∧ w1.cell? ⟨D, 4, none⟩ = some (.int .i64 (s.armed : Int)) ∧ (∀ i, w1.frozen? ⟨D, i, none⟩ = false)) ∧ Dsk ((w1.setCell ⟨D, 3, none⟩ (.bool false)).setCell ⟨D, 4, none⟩ (.int .i64 0)) D { s.flush (s.cut keep) with down := false, armed := 0 } m F ∧ Keep F w ((w1.setCell ⟨D, 3, none⟩ (.bool false)).setCell ⟨D, 4, none⟩ (.int .i64 0)) := by
    rintro q rfl w1 hd1 hk1
    obtain ⟨K, P, pn, pc, ents, h⟩ := hd1
    have hset := (h.blk.set_ 3 (.bool false)).set_ 4 (.int .i64 0)
    have hkD : Keep (fun b => b = D) w1 ((w1.setCell ⟨D, 3, none⟩ (.bool false)).setCell ⟨D, 4, none⟩ (.int .i64 0)) :=
        (Keep.setCell (S := fun b => b = D) w1 ⟨D, 3, none⟩ _ rfl).andThen (Keep.setCell (S := fun b => b = D) _ ⟨D, 4, none⟩ _ rfl)
    have hc := h.cells
    exact ⟨⟨hc.2.2.2.1, hc.2.2.2.2.1, hc.2.2.2.2.2⟩, Dsk.more ⟨K, P, pn, pc, ents, h.setD hkD false 0 (by omega) hset⟩ (Nat.zero_le _), hk1.andThen (hkD.mono fun b _ e => by rw [e]; exact hfD)⟩
  have HKEY := Lib.hid key
  have hcdef : (s.cut keep : Int) = max 0 (min keep (s.waits.length : Int)) := by unfold DSt.cut; omega
  have HC := Lib.hid hcdef
  clear key hres hcdef
  generalize s.waits.length = L at *
  by_cases h1 : keep ≤ 0
  · have e : s.cut keep = 0 := by have := HC.out; omega
    rw [e]
    rw [e] at HKEY
    clear e hcut
    go_enter Try.func29, Try.ntmps29
    go_wp2_with fail
    refine (keep_any 0 (by omega) hm HD.out).mono ?_
    rintro e w1 ⟨rfl, hd1, hk1⟩
    obtain ⟨⟨hc3, hc4, hf1⟩, hd2, hk2⟩ := HKEY.out 0 rfl w1 hd1 hk1
    have HD2 := Lib.hid hd2
    have HK2 := Lib.hid hk2
    clear hd1 hk1 hd2 hk2
    go_wp2_with fail
    go_ret
    exact ⟨rfl, HD2.out, HK2.out⟩
  · obtain ⟨k, rfl⟩ := Int.eq_ofNat_of_zero_le (show 0 ≤ keep by omega)
    by_cases h2 : (L : Int) < (k : Int)
    · have e : s.cut (k : Int) = L := by have := HC.out; omega
      rw [e]
      rw [e] at HKEY
      clear e hcut
      have hL0 : (0 : Int) ≤ (L : Int) := by omega
      rcases Nat.eq_zero_or_pos L with hl | hl
      · subst hl
        go_enter Try.func29, Try.ntmps29
        go_wp2_with fail
        refine (keep_any 0 (by omega) hm HD.out).mono ?_
        rintro e w1 ⟨rfl, hd1, hk1⟩
        obtain ⟨⟨hc3, hc4, hf1⟩, hd2, hk2⟩ := HKEY.out 0 rfl w1 hd1 hk1
        have HD2 := Lib.hid hd2
        have HK2 := Lib.hid hk2
        clear hd1 hk1 hd2 hk2
        go_wp2_with fail
        go_ret
        exact ⟨rfl, HD2.out, HK2.out⟩
      · go_enter Try.func29, Try.ntmps29
        go_wp2_with fail
        refine (keep_any L (by omega) hm HD.out).mono ?_
        rintro e w1 ⟨rfl, hd1, hk1⟩
        obtain ⟨⟨hc3, hc4, hf1⟩, hd2, hk2⟩ := HKEY.out L rfl w1 hd1 hk1
        have HD2 := Lib.hid hd2
        have HK2 := Lib.hid hk2
        clear hd1 hk1 hd2 hk2
        go_wp2_with fail
        go_ret
        exact ⟨rfl, HD2.out, HK2.out⟩
    · have e : s.cut (k : Int) = k := by have := HC.out; omega
      rw [e]
      rw [e] at HKEY
      clear e hcut
      go_enter Try.func29, Try.ntmps29
      go_wp2_with fail
      refine (keep_any k (by omega) hm HD.out).mono ?_
      rintro e w1 ⟨rfl, hd1, hk1⟩
      obtain ⟨⟨hc3, hc4, hf1⟩, hd2, hk2⟩ := HKEY.out k rfl w1 hd1 hk1
      have HD2 := Lib.hid hd2
      have HK2 := Lib.hid hk2
      clear hd1 hk1 hd2 hk2
      go_wp2_with fail
      go_ret
      exact ⟨rfl, HD2.out, HK2.out⟩
end
end Go.Proofs.Ytbdencfgiemliaa
