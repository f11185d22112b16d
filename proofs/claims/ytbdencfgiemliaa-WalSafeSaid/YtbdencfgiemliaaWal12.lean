/-
  The log's steps upon a disk: what a row of writes and syncs does to it, up to the first error. Conditions: the steps lie in memory apart from the disk.
-/
import Derived.Test.YtbdencfgiemliaaWal4
import Derived.Test.YtbdencfgiemliaaWal2
import Derived.Test.YtbdencfgiemliaaWal9
import Derived.Test.YtbdencfgiemliaaDiskLaw
namespace Go.Proofs.Ytbdencfgiemliaa
open Go.RowKit
set_option linter.unusedVariables false
/-- A write (place, bytes), or a sync. -/
abbrev DOp := Option (Int × List UInt8)
def DSt.op (s : DSt) : DOp → DSt
  | none => s.sync
  | some (a, b) => s.write a b
def DSt.opE (s : DSt) : DOp → Int
  | none => s.syncE
  | some (a, b) => s.writeE a b
def DSt.steps (s : DSt) : List DOp → DSt
  | [] => s
  | o :: r => if s.opE o = 0 then (s.op o).steps r else s.op o
def DSt.stepsE (s : DSt) : List DOp → Int
  | [] => 0
  | o :: r => if s.opE o = 0 then (s.op o).stepsE r else s.opE o
theorem DSt.op_len (s : DSt) (o : DOp) : (s.op o).kept.length = s.kept.length := by
  cases o with
  | none => exact DSt.sync_len s
  | some p => exact DSt.write_len s _ _
theorem DSt.steps_len (os : List DOp) : ∀ s : DSt, (s.steps os).kept.length = s.kept.length := by
  induction os with
  | nil => intro s; rfl
  | cons o r ih =>
    intro s
    rw [DSt.steps]
    split
    · rw [ih, DSt.op_len]
    · exact DSt.op_len s o
/-- A step in memory that does an operation of the disk: a sync, or a write whose four variables and bytes lie apart from S. -/
def StpIs (w : World) (S : Nat → Prop) (G D z : Nat) (p : Stp) : DOp → Prop
  | none => p = sstp D
  | some (a, b) => ∃ (k : Nat) (half at' : Nat) (A : Option Addr) (n c : Nat), p = wstp k ∧ Boxes w k G half at' A n c ∧ half ≤ 1 ∧ at' ≤ 65536 ∧ a = (half : Int) * (z : Int) + (at' : Int) ∧ Sl w (fun x => ¬ S x) A n c b ∧ ¬ S k ∧ ¬ S (k + 1) ∧ ¬ S (k + 2) ∧ ¬ S (k + 3)
theorem StpIs.fn {w : World} {S : Nat → Prop} {G D z : Nat} {p : Stp} {o : DOp} (h : StpIs w S G D z p o) : p.fn = 74 ∨ p.fn = 26 := by
  cases o with
  | none => right; rw [show p = sstp D from h]; rfl
  | some q => left; obtain ⟨k, _, _, _, _, _, rfl, _⟩ := h; rfl
theorem StpIs.keep {w w' : World} {S : Nat → Prop} {G D z : Nat} {p : Stp} {o : DOp} (h : StpIs w S G D z p o) (hk : Keep S w w') : StpIs w' S G D z p o := by
  cases o with
  | none => exact h
  | some q =>
    obtain ⟨k, half, at', A, n, c, h1, h2, h3, h4, h5, h6, n0, n1, n2, n3⟩ := h
    exact ⟨k, half, at', A, n, c, h1, h2.keep hk n0 n1 n2 n3, h3, h4, h5, h6.keep hk fun b hb => hb, n0, n1, n2, n3⟩
/-- The steps and the operations, one by one. -/
def Zip (R : Stp → DOp → Prop) : List Stp → List DOp → Prop
  | [], [] => True
  | p :: ps, o :: os => R p o ∧ Zip R ps os
  | _, _ => False
theorem Zip.mono {R R' : Stp → DOp → Prop} (hR : ∀ p o, R p o → R' p o) : ∀ {ps : List Stp} {os : List DOp}, Zip R ps os → Zip R' ps os
  | [], [], h => h
  | p :: ps, o :: os, h => ⟨hR _ _ h.1, Zip.mono hR h.2⟩
  | [], o :: os, h => h
  | p :: ps, [], h => h
theorem Zip.len {R : Stp → DOp → Prop} : ∀ {ps : List Stp} {os : List DOp}, Zip R ps os → ps.length = os.length
  | [], [], h => rfl
  | p :: ps, o :: os, h => by simp [Zip.len h.2]
  | [], o :: os, h => h.elim
  | p :: ps, [], h => h.elim
theorem Zip.all {R : Stp → DOp → Prop} : ∀ {ps : List Stp} {os : List DOp}, Zip R ps os → ∀ p ∈ ps, ∃ o, R p o
  | [], [], h => fun p hp => by cases hp
  | p :: ps, o :: os, h => fun q hq => by
    rcases List.mem_cons.1 hq with rfl | hq
    · exact ⟨_, h.1⟩
    · exact Zip.all h.2 q hq
  | [], o :: os, h => h.elim
  | p :: ps, [], h => h.elim
section
variable {S : Nat → Prop} {D G z : Nat}
theorem runs_dsk {h' turn stop : Int} {B R : Value} {broken : Bool} (ps : List Stp) (os : List DOp) : ∀ {w : World} {s : DSt} {m : Nat}, m + os.length ≤ 1073741824 → s.kept.length / 2 = z → Dsk w D s m S → Blk w G 86 (logCells D h' turn stop B R broken) → ¬ S G → (∀ b, w.heap.size ≤ b → S b) → Zip (StpIs w S G D z) ps os →
    Runs S ps w fun x w' => x = s.stepsE os ∧ Dsk w' D (s.steps os) (m + os.length) S := by
  induction ps generalizing os with
  | nil =>
    intro w s m hm hz hd hG hSG hnew hzip
    cases os with
    | nil => exact ⟨rfl, hd⟩
    | cons o os => exact hzip.elim
  | cons p ps ih =>
    intro w s m hm hz hd hG hSG hnew hzip
    cases os with
    | nil => exact hzip.elim
    | cons o os =>
      obtain ⟨h, t⟩ := hzip
      have hstep : Calls Try.prog p.fn (p.first ++ p.cap) w fun e w' => e = .returned (.int .i64 (s.opE o)) ∧ Dsk w' D (s.op o) (m + 1) S ∧ Keep S w w' := by
        cases o with
        | none =>
          rw [show p = sstp D from h]
          exact (sync_any (by omega) hd).mono fun e w' ⟨h1, h2, h3⟩ => ⟨h1, h2.more (by omega), h3⟩
        | some q =>
          obtain ⟨a, b⟩ := q
          obtain ⟨k, half, at', A, n, c, rfl, hb, hh, ha, rfl, hsl, n0, n1, n2, n3⟩ := h
          have hc := wstep_any k (k + 1) (k + 2) (k + 3) (half : Int) (at' : Int) (by omega) (by omega) b A n c hsl (by omega) hd hb hG ⟨hSG, n0, n1, n2, n3⟩
          rw [hz] at hc
          exact hc.mono fun e w' ⟨h1, h2, h3⟩ => ⟨h1, h2.mono fun b hb hx => by
            rcases hx with hx | hx
            · exact hx
            · exact hnew b hx.1, h3⟩
      refine hstep.mono ?_
      rintro e w' ⟨rfl, h2, h3⟩
      refine ⟨h3, s.opE o, rfl, fun hne => ?_, fun he => ?_⟩
      · rw [DSt.stepsE, DSt.steps, if_neg hne, if_neg hne]
        exact ⟨rfl, h2.more (by simp)⟩
      · rw [DSt.stepsE, DSt.steps, if_pos he, if_pos he]
        have e1 : m + (o :: os).length = m + 1 + os.length := by simp; omega
        rw [e1]
        have hsize := h3.size
        exact ih os (by rw [← e1]; exact hm) (by rw [DSt.op_len]; exact hz) h2 (hG.keep h3 hSG) hSG (fun b hb => hnew b (by omega)) (Zip.mono (fun p o hp => hp.keep h3) t)
theorem steps_dsk {F : Nat → Prop} {h' turn stop : Int} {B R : Value} {broken : Bool} {w : World} {s : DSt} {m : Nat} (ps : List Stp) (os : List DOp) (g o c n : Nat) (hn : n = ps.length) (hlen : ps.length ≤ 1000) (hm : m + os.length ≤ 1073741824) (hz : s.kept.length / 2 = z)
    (hrow : ∀ j p, ps[j]? = some p → w.cell? ⟨g, o + j, none⟩ = some p.val) (hgF : ¬ F g) (hgl : g < w.heap.size) (hd : Dsk w D s m F) (hG : Blk w G 86 (logCells D h' turn stop B R broken)) (hFG : ¬ F G) (hzip : Zip (StpIs w (fun b => F b ∨ w.heap.size ≤ b) G D z) ps os) :
    Calls Try.prog 65 #[.pointer (some ⟨G, 0, none⟩), .slice (some ⟨g, o, none⟩) n c] w fun e w' => e = .returned (.int .i64 (s.stepsE os)) ∧ Dsk w' D (s.steps os) (m + os.length) (Ext F w w') ∧ Keep (fun b => F b ∨ b = G) w w' ∧
      Blk w' G 86 (logCells D h' turn stop B R (if s.stepsE os = 0 then broken else true)) := by
  subst hn
  have hGl := hG.lt
  have hSG : ¬ (F G ∨ w.heap.size ≤ G) := fun hx => by rcases hx with hx | hx; exact hFG hx; omega
  have hr := runs_dsk (S := fun b => F b ∨ w.heap.size ≤ b) ps os hm hz (hd.mono fun b _ hb => .inl hb) hG hSG (fun b hb => .inr hb) hzip
  refine (steps_any ps g o c _ hlen (fun p hp => by obtain ⟨q, hq⟩ := Zip.all hzip p hp; exact hq.fn) hrow (fun hx => by rcases hx with hx | hx; exact hgF hx; omega) hSG hG hr).mono ?_
  rintro e w' ⟨x, w1, rfl, ⟨rfl, hd1⟩, hk1, rfl⟩
  have hb1 := hG.keep hk1 hSG
  have hk1' : Keep (fun b => F b ∨ b = G) w w1 := hk1.mono fun b hb hx => by
    rcases hx with hx | hx
    · exact .inl hx
    · omega
  have hd1' : Dsk w1 D (s.steps os) (m + os.length) (Ext F w w1) := hd1.mono fun b hb hx => by
    rcases hx with hx | hx
    · exact .inl hx
    · exact .inr ⟨hx, hb⟩
  by_cases h0 : s.stepsE os = 0
  · rw [if_pos h0, if_pos h0]
    exact ⟨rfl, hd1', hk1', hb1⟩
  · rw [if_neg h0, if_neg h0]
    have hks : Keep (fun b => b = G) w1 (w1.setCell ⟨G, 6, none⟩ (.bool true)) := Keep.setCell (S := fun b => b = G) w1 ⟨G, 6, none⟩ _ rfl
    have hsz : w1.heap.size ≤ (w1.setCell ⟨G, 6, none⟩ (.bool true)).heap.size := hks.size
    refine ⟨rfl, (hd1'.keep hks fun b hb e => ?_).mono fun b hb hx => ?_, hk1'.trans hks fun b _ e => .inr e, hb1.set_ 6 (.bool true)⟩
    · subst e
      rcases hb with hb | hb
      · exact hFG hb
      · omega
    · rcases hx with hx | hx
      · exact .inl hx
      · exact .inr ⟨hx.1, by omega⟩
end
end Go.Proofs.Ytbdencfgiemliaa
