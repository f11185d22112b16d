/-
  Contracts of a disk's Arm and stops: the two cells that they write. No condition beyond that the disk lies so in memory.
-/
import Derived.Test.YtbdencfgiemliaaDisk1
namespace Go.Proofs.Ytbdencfgiemliaa
open Go.RowKit
theorem blk_ne {w : World} {g g' : Nat} {t t' : TypeId} {cs cs' : Array Value} (h : Blk w g t cs) (h' : Blk w g' t' cs') (hne : t ≠ t') : g ≠ g' := by
  rintro rfl
  unfold Blk at h h'
  rw [h] at h'
  injection h' with h'
  injection h' with _ ht
  exact hne ht
section
variable {S F G : Nat → Prop} {w w' : World} {D m K pn pc : Nat} {s : DSt} {P : Option Addr} {ents : List Ent}
theorem DskRep.neKD (h : DskRep w D s m F K P pn pc ents) : K ≠ D := by
  rcases Own.form h.kept with ⟨h1, _⟩ | ⟨g, cur, hA, _, hg, _⟩
  · cases h1
  · injection hA with hA; injection hA with hA; subst hA
    exact blk_ne hg h.blk (by decide)
theorem DskRep.nePD (h : DskRep w D s m F K P pn pc ents) : ∀ g, (Value.slice P pn pc).ownBlock = some g → g ≠ D := by
  intro g hg
  rcases h.pend.2 with ⟨hv, _⟩ | ⟨g', cap, cur, hv, _, hb, _⟩
  · rw [hv] at hg; simp [Value.ownBlock] at hg
  · rw [hv] at hg; simp [Value.ownBlock] at hg; subst hg
    exact blk_ne (t := 81) hb h.blk (by decide)
theorem DskRep.nePK (h : DskRep w D s m F K P pn pc ents) : ∀ g, (Value.slice P pn pc).ownBlock = some g → g ≠ K := by
  intro g hg
  rcases h.pend.2 with ⟨hv, _⟩ | ⟨g', cap, cur, hv, _, hb, _⟩
  · rw [hv] at hg; simp [Value.ownBlock] at hg
  · rw [hv] at hg; simp [Value.ownBlock] at hg; subst hg
    rcases Own.form h.kept with ⟨h1, _⟩ | ⟨g, cur', hA, _, hg, _⟩
    · cases h1
    · injection hA with hA; injection hA with hA; subst hA
      exact blk_ne (t := 81) hb hg (by decide)
/-- The disk's own block alone has turned: its two last cells. -/
theorem DskRep.setD (h : DskRep w D s m F K P pn pc ents) (hk : Keep (fun b => b = D) w w') (d : Bool) (n : Nat) (hn : n < 9223372036854775808)
    (hb : Blk w' D 78 #[.slice (some ⟨K, 0, none⟩) s.kept.length s.kept.length, .slice P pn pc, .int .i64 (s.waits.length : Int), .bool d, .int .i64 (n : Int)]) :
    DskRep w' D { s with down := d, armed := n } m F K P pn pc ents :=
  { blk := hb
    kept := ownsRow_keep h.kept hk (fun g hg => by simp [Value.ownBlock] at hg; subst hg; exact h.neKD)
    pend := ownsRow_keep h.pend hk (fun g hg => h.nePD g hg)
    each := fun e he => (h.each e he).keep hk (fun b hb => hb.2.1)
    waits := h.waits
    ok := ⟨h.ok.size, h.ok.pend, hn⟩
    bd := h.bd
    cnt := h.cnt
    few := h.few
    fD := h.fD
    fK := h.fK
    fP := h.fP }
end
section
variable {F : Nat → Prop} {w : World} {D m : Nat} {s : DSt}
set_option maxRecDepth 20000
set_option maxHeartbeats 400000
theorem arm_any (n : Int) (hn : n ≤ 9223372036854775807) (hd : Dsk w D s m F) : Calls Try.prog 25 #[.pointer (some ⟨D, 0, none⟩), .int .i64 n] w fun e w' => e = .returned (.tuple #[]) ∧ Dsk w' D (s.arm n) m F ∧ Keep (fun b => b = D) w w' := by
  obtain ⟨K, P, pn, pc, ents, h⟩ := hd
  obtain ⟨c0, c1, c2, c3, c4, hf⟩ := h.cells
  have hset := fun v => h.blk.set_ 4 v
  have hfin : Dsk (w.setCell ⟨D, 4, none⟩ (.int .i64 (n.toNat : Int))) D (s.arm n) m F :=
    ⟨K, P, pn, pc, ents, h.setD (Keep.setCell (S := fun b => b = D) w ⟨D, 4, none⟩ _ rfl) s.down n.toNat (by omega) (hset _)⟩
  have hk := fun v => Keep.setCell (S := fun b => b = D) w ⟨D, 4, none⟩ v rfl
  have HF := Lib.hid hfin
  have HK := Lib.hid hk
  clear h hset hfin hk
  by_cases h0 : n ≤ 0
  · have e : (n.toNat : Int) = 0 := by omega
    rw [e] at HF
    clear e
    go_enter Try.func25, Try.ntmps25
    go_wp2
    go_end0
    exact ⟨rfl, HF.out, HK.out _⟩
  · have e : (n.toNat : Int) = n := by omega
    rw [e] at HF
    clear e
    go_enter Try.func25, Try.ntmps25
    go_wp2
    go_end0
    exact ⟨rfl, HF.out, HK.out _⟩
theorem stops_any (hw : s.down = false) (hd : Dsk w D s m F) : Calls Try.prog 53 #[.pointer (some ⟨D, 0, none⟩)] w fun e w' => e = .returned (.bool s.stop.down) ∧ Dsk w' D s.stop m F ∧ Keep (fun b => b = D) w w' := by
  have ha := hd.ok.arm
  obtain ⟨K, P, pn, pc, ents, h⟩ := hd
  obtain ⟨c0, c1, c2, c3, c4, hf⟩ := h.cells
  have hset := fun u v => (h.blk.set_ 3 u).set_ 4 v
  have hk := fun u v => (Keep.setCell (S := fun b => b = D) w ⟨D, 3, none⟩ u rfl).andThen (Keep.setCell (S := fun b => b = D) _ ⟨D, 4, none⟩ v rfl)
  have hfin := fun (d : Bool) (n : Nat) (hn : n < 9223372036854775808) => (h.setD (hk (.bool d) (.int .i64 (n : Int))) d n hn (hset _ _))
  have hfin2 : Dsk ((w.setCell ⟨D, 3, none⟩ (.bool (decide (s.armed = 1)))).setCell ⟨D, 4, none⟩ (.int .i64 ((s.armed - 1 : Nat) : Int))) D s.stop m F :=
    ⟨K, P, pn, pc, ents, hfin _ _ (by omega)⟩
  have hst : s.stop.down = decide (s.armed = 1) := rfl
  rw [hst]
  have HF := Lib.hid hfin2
  have HK := Lib.hid hk
  clear h hset hfin hfin2 hk hst
  generalize s.stop = s2 at *
  generalize s.armed = n at *
  rcases Nat.lt_trichotomy n 1 with h0 | h0 | h0
  · obtain rfl : n = 0 := by omega
    go_enter Try.func53, Try.ntmps53
    go_wp2
    go_ret
    exact ⟨rfl, HF.out, HK.out _ _⟩
  · subst h0
    go_enter Try.func53, Try.ntmps53
    go_wp2
    go_ret
    exact ⟨rfl, HF.out, HK.out _ _⟩
  · have e : decide (n = 1) = false := by simp; omega
    have e1 : ((n : Int) == 1) = false := by simp; omega
    have e2 : ((n - 1 : Nat) : Int) = (n : Int) - 1 := by omega
    rw [e] at HF ⊢
    rw [e2] at HF
    clear e e2
    go_enter Try.func53, Try.ntmps53
    go_wp2
    go_ret
    exact ⟨rfl, HF.out, HK.out _ _⟩
end
end Go.Proofs.Ytbdencfgiemliaa
