/-
  How the reference's disk lies in memory (RDsk), and contracts of its calls but Write and Read: the same plain disk. No condition beyond that it lies so; its count of pending bytes is below 2^40.
-/
import Derived.Test.YtbdencfgiemliaaTwo
import Derived.Deep.RegionHeld3
namespace Go.Proofs.Ytbdencfgiemliaa
open Go.RowKit
set_option linter.unusedVariables false
theorem stop_idle (s : DSt) (h1 : s.down = false) (h2 : s.armed = 0) : s.stop = s := by
  obtain ⟨a, b, c, d⟩ := s
  simp only at h1 h2
  subst h1
  subst h2
  rfl
def oneCells (p : Nat × UInt8) : List Value := [.int .i64 (p.1 : Int), .int .u8 (p.2.toNat : Int)]
structure RDskRep (w : World) (D : Nat) (s : DSt) (F : Nat → Prop) (K : Nat) (P : Option Addr) (pc : Nat) : Prop where
  blk : Blk w D 51 #[.slice (some ⟨K, 0, none⟩) s.kept.length s.kept.length, .slice P s.waits.length pc, .bool s.down, .int .i64 (s.armed : Int)]
  kept : Own w 0 5 (some ⟨K, 0, none⟩) s.kept.length s.kept.length (s.kept.map bv)
  pend : w.ownsRow 0 83 2 (.slice P s.waits.length pc) s.waits.length (s.waits.flatMap oneCells)
  ok : s.Ok
  fD : F D
  fK : F K
  fP : ∀ k, (Value.slice P s.waits.length pc).ownBlock = some k → F k
/-- The block D holds the reference's disk in the state s; all of it lies in F. -/
def RDsk (w : World) (D : Nat) (s : DSt) (F : Nat → Prop) : Prop := ∃ K P pc, RDskRep w D s F K P pc
section
variable {S F G : Nat → Prop} {w w' : World} {D K pc : Nat} {s : DSt} {P : Option Addr}
theorem RDskRep.keep (h : RDskRep w D s F K P pc) (hk : Keep S w w') (hd : ∀ b, F b → ¬ S b) : RDskRep w' D s F K P pc :=
  { h with
    blk := h.blk.keep hk (hd D h.fD)
    kept := ownsRow_keep h.kept hk (fun g hg => hd g (by simp [Value.ownBlock] at hg; subst hg; exact h.fK))
    pend := ownsRow_keep h.pend hk (fun g hg => hd g (h.fP g hg)) }
theorem RDsk.keep (h : RDsk w D s F) (hk : Keep S w w') (hd : ∀ b, F b → ¬ S b) : RDsk w' D s F := by
  obtain ⟨K, P, pc, h⟩ := h
  exact ⟨K, P, pc, h.keep hk hd⟩
theorem RDskRep.ltK (h : RDskRep w D s F K P pc) : K < w.heap.size := (Own.row h.kept K rfl).2
theorem RDsk.mono (h : RDsk w D s F) (hF : ∀ b, b < w.heap.size → F b → G b) : RDsk w D s G := by
  obtain ⟨K, P, pc, h⟩ := h
  exact ⟨K, P, pc, { h with
    fD := hF D h.blk.lt h.fD
    fK := hF K h.ltK h.fK
    fP := fun k hk => hF k (h.pend.lt k hk).2 (h.fP k hk) }⟩
theorem RDsk.ok (h : RDsk w D s F) : s.Ok := by obtain ⟨K, P, pc, h⟩ := h; exact h.ok
theorem RDsk.fD (h : RDsk w D s F) : F D := by obtain ⟨K, P, pc, h⟩ := h; exact h.fD
theorem RDskRep.cells (h : RDskRep w D s F K P pc) :
    w.cell? ⟨D, 0, none⟩ = some (.slice (some ⟨K, 0, none⟩) s.kept.length s.kept.length) ∧ w.cell? ⟨D, 1, none⟩ = some (.slice P s.waits.length pc) ∧ w.cell? ⟨D, 2, none⟩ = some (.bool s.down) ∧ w.cell? ⟨D, 3, none⟩ = some (.int .i64 (s.armed : Int)) ∧ ∀ i, w.frozen? ⟨D, i, none⟩ = false :=
  ⟨h.blk.cell 0, h.blk.cell 1, h.blk.cell 2, h.blk.cell 3, h.blk.frozen⟩
theorem RDskRep.neKD (h : RDskRep w D s F K P pc) : K ≠ D := by
  rcases Own.form h.kept with ⟨h1, _⟩ | ⟨g, cur, hA, _, hg, _⟩
  · cases h1
  · injection hA with hA; injection hA with hA; subst hA
    exact blk_ne hg h.blk (by decide)
theorem RDskRep.nePD (h : RDskRep w D s F K P pc) : ∀ g, (Value.slice P s.waits.length pc).ownBlock = some g → g ≠ D := by
  intro g hg
  rcases h.pend.2 with ⟨hv, _⟩ | ⟨g', cap, cur, hv, _, hb, _⟩
  · rw [hv] at hg; simp [Value.ownBlock] at hg
  · rw [hv] at hg; simp [Value.ownBlock] at hg; subst hg
    exact blk_ne (t := 83) hb h.blk (by decide)
theorem RDskRep.nePK (h : RDskRep w D s F K P pc) : ∀ g, (Value.slice P s.waits.length pc).ownBlock = some g → g ≠ K := by
  intro g hg
  rcases h.pend.2 with ⟨hv, _⟩ | ⟨g', cap, cur, hv, _, hb, _⟩
  · rw [hv] at hg; simp [Value.ownBlock] at hg
  · rw [hv] at hg; simp [Value.ownBlock] at hg; subst hg
    rcases Own.form h.kept with ⟨h1, _⟩ | ⟨g, cur', hA, _, hg, _⟩
    · cases h1
    · injection hA with hA; injection hA with hA; subst hA
      exact blk_ne (t := 83) hb hg (by decide)
theorem RDskRep.setD (h : RDskRep w D s F K P pc) (hk : Keep (fun b => b = D) w w') (d : Bool) (n : Nat) (hn : n < 9223372036854775808)
    (hb : Blk w' D 51 #[.slice (some ⟨K, 0, none⟩) s.kept.length s.kept.length, .slice P s.waits.length pc, .bool d, .int .i64 (n : Int)]) :
    RDskRep w' D { s with down := d, armed := n } F K P pc :=
  { blk := hb
    kept := ownsRow_keep h.kept hk (fun g hg => by simp [Value.ownBlock] at hg; subst hg; exact h.neKD)
    pend := ownsRow_keep h.pend hk (fun g hg => h.nePD g hg)
    ok := ⟨h.ok.size, h.ok.pend, hn⟩
    fD := h.fD
    fK := h.fK
    fP := h.fP }
end
def rdskT (D : Nat) (s : DSt) : Thing := ⟨fun w F => RDsk w D s F, fun h hk hd => h.keep hk hd, fun h hF => h.mono hF⟩
theorem rdsk_new {w w1 : World} {k : Nat} (hk : k ≤ 65536) (hown : Own w1 w.heap.size 5 (some ⟨w.heap.size, 0, none⟩) k k ((List.replicate k (0 : UInt8)).map bv)) (hs : w1.heap.size = w.heap.size + 1) :
    RDsk (w1.alloc (.cells #[.slice (some ⟨w.heap.size, 0, none⟩) k k, .slice none 0 0, .bool false, .int .i64 0] 51)) w1.heap.size (DSt.new k) (fun b => w.heap.size ≤ b) := by
  have hl : (List.replicate k (0 : UInt8)).length = k := List.length_replicate
  refine ⟨w.heap.size, none, 0, ?_, ?_, World.ownsRow_nil _ _ _ _, ⟨?_, by simp [DSt.new], by simp [DSt.new]⟩, by omega, Nat.le_refl _, by simp [Value.ownBlock]⟩
  · have := Blk.new w1 51 #[.slice (some ⟨w.heap.size, 0, none⟩) k k, .slice none 0 0, .bool false, .int .i64 0]
    unfold DSt.new
    rw [hl]
    exact this
  · unfold DSt.new
    rw [hl]
    exact ((hown.mono (Nat.zero_le _)).keep0 (Keep.alloc w1 _))
  · unfold DSt.new
    rw [hl]; exact hk
section
variable {F : Nat → Prop} {w : World} {D : Nat} {s : DSt}
set_option maxRecDepth 20000
set_option maxHeartbeats 1000000
theorem rnew_any (n : Int) (w : World) :
    Calls Try.prog 30 #[.int .i64 n] w fun e w' => ∃ D, e = .returned (.pointer (some ⟨D, 0, none⟩)) ∧ RDsk w' D (DSt.new (newSize n)) (fun b => w.heap.size ≤ b) ∧ Keep0 w w' := by
  by_cases h0 : n ≤ 0
  · obtain ⟨w1, hmk, hown, hk1, hs1⟩ := make_zeros (w := w) 0 0 rfl (by omega)
    have e0 : newSize n = 0 := by unfold newSize; omega
    rw [e0]
    have hd := rdsk_new (by omega) hown hs1
    have HS := Lib.hid hs1
    clear hs1
    go_enter Try.func30, Try.ntmps30
    go_wp2
    go_ret
    refine ⟨_, rfl, hd, hk1.alloc' _⟩
  · by_cases h1 : 65536 < n
    · obtain ⟨w1, hmk, hown, hk1, hs1⟩ := make_zeros (w := w) 65536 65536 rfl (Nat.le_refl _)
      have e0 : newSize n = 65536 := by unfold newSize; omega
      rw [e0]
      have hd := rdsk_new (Nat.le_refl _) hown hs1
      have HS := Lib.hid hs1
      clear hs1
      go_enter Try.func30, Try.ntmps30
      go_wp2
      go_ret
      refine ⟨_, rfl, hd, hk1.alloc' _⟩
    · obtain ⟨k, rfl⟩ := Int.eq_ofNat_of_zero_le (show 0 ≤ n by omega)
      obtain ⟨w1, hmk, hown, hk1, hs1⟩ := make_zeros (w := w) (k : Int) k rfl (by omega)
      have e0 : newSize (k : Int) = k := by unfold newSize; omega
      rw [e0]
      have hd := rdsk_new (by omega) hown hs1
      have HS := Lib.hid hs1
      clear hs1
      have hk65 : k ≤ 65536 := by omega
      go_enter Try.func30, Try.ntmps30
      go_wp2
      go_ret
      refine ⟨_, rfl, hd, hk1.alloc' _⟩
theorem rmay_any (a n : Int) (ha : -9223372036854775808 ≤ a ∧ a ≤ 9223372036854775807) (hd : RDsk w D s F) : Calls Try.prog 56 #[.pointer (some ⟨D, 0, none⟩), .int .i64 a, .int .i64 n] w fun e w' => e = .returned (.int .i64 (s.ask a n)) ∧ w = w' := by
  have hs := hd.ok.size
  obtain ⟨K, P, pc, h⟩ := hd
  obtain ⟨c0, c1, c2, c3, hf⟩ := h.cells
  clear h
  obtain ⟨kept, waits, down, armed⟩ := s
  simp only at c0 c1 c2 c3 hs
  unfold DSt.ask
  simp only
  cases down with
  | true =>
    go_enter Try.func56, Try.ntmps56
    go_wp2
    go_ret
    exact ⟨rfl, rfl⟩
  | false =>
    generalize kept.length = L at *
    by_cases h1 : a < 0
    · rw [if_neg (by simp), if_pos (.inl h1)]
      go_enter Try.func56, Try.ntmps56
      go_wp2
      go_ret
      exact ⟨rfl, rfl⟩
    · by_cases h2 : n < 0
      · rw [if_neg (by simp), if_pos (.inr h2)]
        go_enter Try.func56, Try.ntmps56
        go_wp2
        go_ret
        exact ⟨rfl, rfl⟩
      · rw [if_neg (by simp), if_neg (by omega)]
        by_cases h3 : (L : Int) < a
        · rw [if_pos (.inl h3)]
          go_enter Try.func56, Try.ntmps56
          go_wp2
          go_ret
          exact ⟨rfl, rfl⟩
        · by_cases h4 : (L : Int) - a < n
          · rw [if_pos (.inr h4)]
            go_enter Try.func56, Try.ntmps56
            go_wp2
            go_ret
            exact ⟨rfl, rfl⟩
          · rw [if_neg (by omega)]
            go_enter Try.func56, Try.ntmps56
            go_wp2
            go_ret
            exact ⟨rfl, rfl⟩
theorem rarm_any (n : Int) (hn : n ≤ 9223372036854775807) (hd : RDsk w D s F) : Calls Try.prog 33 #[.pointer (some ⟨D, 0, none⟩), .int .i64 n] w fun e w' => e = .returned (.tuple #[]) ∧ RDsk w' D (s.arm n) F ∧ Keep (fun b => b = D) w w' := by
  obtain ⟨K, P, pc, h⟩ := hd
  obtain ⟨c0, c1, c2, c3, hf⟩ := h.cells
  have hset := fun v => h.blk.set_ 3 v
  have hfin : RDsk (w.setCell ⟨D, 3, none⟩ (.int .i64 (n.toNat : Int))) D (s.arm n) F :=
    ⟨K, P, pc, h.setD (Keep.setCell (S := fun b => b = D) w ⟨D, 3, none⟩ _ rfl) s.down n.toNat (by omega) (hset _)⟩
  have hk := fun v => Keep.setCell (S := fun b => b = D) w ⟨D, 3, none⟩ v rfl
  have HF := Lib.hid hfin
  have HK := Lib.hid hk
  clear h hset hfin hk
  by_cases h0 : n ≤ 0
  · have e : (n.toNat : Int) = 0 := by omega
    rw [e] at HF
    clear e
    go_enter Try.func33, Try.ntmps33
    go_wp2
    all_goals
      first
        | (go_end0
           exact ⟨rfl, HF.out, HK.out _⟩)
        | (have hn0 : n = 0 := by omega
           go_end0
           exact ⟨rfl, (by have h9 := HF.out; rw [hn0] at h9 ⊢; exact h9), HK.out _⟩)
  · have e : (n.toNat : Int) = n := by omega
    rw [e] at HF
    clear e
    go_enter Try.func33, Try.ntmps33
    go_wp2
    go_end0
    exact ⟨rfl, HF.out, HK.out _⟩
theorem rstops_any (hw : s.down = false) (hd : RDsk w D s F) : Calls Try.prog 57 #[.pointer (some ⟨D, 0, none⟩)] w fun e w' => e = .returned (.bool s.stop.down) ∧ RDsk w' D s.stop F ∧ Keep (fun b => b = D) w w' := by
  have ha := hd.ok.arm
  obtain ⟨K, P, pc, h⟩ := hd
  obtain ⟨c0, c1, c2, c3, hf⟩ := h.cells
  have hst : s.stop.down = decide (s.armed = 1) := rfl
  rw [hst]
  have H := Lib.hid h
  have HW := Lib.hid hw
  clear hst h
  obtain ⟨n, hn⟩ : ∃ n, n = s.armed := ⟨_, rfl⟩
  rw [← hn] at c3 ha ⊢
  have HN := Lib.hid hn
  clear hn
  rcases Nat.lt_trichotomy n 1 with h0 | h0 | h0
  · obtain rfl : n = 0 := by omega
    have hs : s.stop = s := stop_idle s HW.out HN.out.symm
    have HS := Lib.hid hs
    clear hs
    go_enter Try.func57, Try.ntmps57
    go_wp2
    go_ret
    exact ⟨rfl, by rw [HS.out]; exact ⟨K, P, pc, H.out⟩, Keep.refl _ _⟩
  · subst h0
    have hset := (H.out.blk.set_ 3 (.int .i64 0)).set_ 2 (.bool true)
    have hk := (Keep.setCell (S := fun b => b = D) w ⟨D, 3, none⟩ (.int .i64 0) rfl).andThen (Keep.setCell (S := fun b => b = D) _ ⟨D, 2, none⟩ (.bool true) rfl)
    have hs : s.stop = { s with down := true, armed := 0 } := by unfold DSt.stop; rw [← HN.out]; rfl
    have hfin : RDsk ((w.setCell ⟨D, 3, none⟩ (.int .i64 0)).setCell ⟨D, 2, none⟩ (.bool true)) D s.stop F := by
      rw [hs]
      exact ⟨K, P, pc, H.out.setD hk true 0 (by omega) hset⟩
    have HF := Lib.hid hfin
    have HK := Lib.hid hk
    clear hset hk hs hfin
    go_enter Try.func57, Try.ntmps57
    go_wp2
    go_ret
    exact ⟨rfl, HF.out, HK.out⟩
  · have hset := H.out.blk.set_ 3 (.int .i64 ((n - 1 : Nat) : Int))
    have hk := Keep.setCell (S := fun b => b = D) w ⟨D, 3, none⟩ (.int .i64 ((n - 1 : Nat) : Int)) rfl
    have hs : s.stop = { s with down := s.down, armed := n - 1 } := by
      unfold DSt.stop
      rw [← HN.out, HW.out, decide_eq_false (by omega)]
    have hfin : RDsk (w.setCell ⟨D, 3, none⟩ (.int .i64 ((n - 1 : Nat) : Int))) D s.stop F := by
      rw [hs]
      exact ⟨K, P, pc, H.out.setD hk s.down (n - 1) (by omega) hset⟩
    have e2 : ((n - 1 : Nat) : Int) = (n : Int) - 1 := by omega
    rw [e2] at hfin hk
    have HF := Lib.hid hfin
    have HK := Lib.hid hk
    have e : decide (n = 1) = false := by simp; omega
    have e1 : ((n : Int) - 1 == 0) = false := by simp; omega
    rw [e]
    clear hset hk hs hfin e e2
    have hn0 : (0 : Int) < (n : Int) := by omega
    go_enter Try.func57, Try.ntmps57
    go_wp2
    go_ret
    exact ⟨rfl, HF.out, HK.out⟩
end
end Go.Proofs.Ytbdencfgiemliaa
