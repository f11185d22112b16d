/-
  DiskAll returns true for every input, and leaves its arguments as they were. No condition.
-/
import Derived.Test.YtbdencfgiemliaaRows
import Derived.WalkKit
import Derived.ProofKit
import Derived.OpenShut
import Derived.ShutString
import Derived.ChangeOld
import Derived.Below
import Derived.Test.YtbdencfgiemliaaDiskAll
import Derived.Test.YtbdencfgiemliaaFrame2
namespace Go.Proofs.Ytbdencfgiemliaa.diskAll
open Go.ChangeShapes Go.WideShapes Go.ChangeAt Go.RowKit
open Go.ChangeMaps (open_string shut_string)
set_option linter.unusedVariables false

theorem own : ownKnob Try.prog.godebug = none := by kernel_rfl
theorem laidOut : laidOutB Try.prog = true := by kernel_rfl

theorem walk (a0 : Option Addr) (len0 cap0 : Nat) (w : World) (w0 : ∃ Z : Nat → Nat → Int, len0 ≤ maxLen ∧ (∀ i j, i < len0 → j < 2 → -9223372036854775808 ≤ Z i j ∧ Z i j ≤ 9223372036854775807) ∧ (0 < len0 → 0 < 2 → ∃ b o, a0 = some ⟨b, o, none⟩ ∧ b < w.heap.size ∧ ∀ i j, i < len0 → j < 2 → w.cell? ⟨b, o + (i * 2 + j), none⟩ = some (.int .i64 (Z i j)))) :
    Calls Try.prog 8 #[.slice a0 len0 cap0] w fun e w' => e = .returned (.bool true) ∧ Below w.heap.size w w' := by
  obtain ⟨Z, hm, hz, hc⟩ := w0
  exact (diskAll_walk Z a0 len0 cap0 w hm hz hc).mono fun e w' h => ⟨h.1, h.2.below0⟩

set_option maxRecDepth 100000 in
theorem lifted (os : Os) (started : os.Started) (H : Type) (enc : TypeId × Value → H) :
    ReturnsInHanded {} Try.checked os 8 .any (Rows.diskAllSpec.pre6 enc Try.prog Try.f8 Rows.diskAllRow.domain false) (Rows.diskAllSpec.post enc Try.prog Try.f8 false true false false) := by
  refine returnsInHanded_of_change (C := Try.checked) own started (by kernel_rfl) Try.func8
    (ChangeSpec.witness6 (enc := enc) (C := Try.checked) false ⟨#[], #[.slice none 0 0], []⟩ 8 (by kernel_rfl) (by kernel_rfl) (by kernel_rfl) (by kernel_rfl)) ?_
  intro W base args ds gs before hval0 hW hcnd _
  have hval : ∀ (j : Nat) t v, Try.f8.params[j]? = some t → args[j]? = some v → Value.okWide Try.prog W .any base t v := hval0
  have hW' := hW
  obtain ⟨p, q, hA0, hV, rfl, hfz, hnd⟩ := hW
  have hA : DataW.TrodAll enc Try.prog W 0 (fun _ => true) true Try.f8.params.toList args.toList ds p := hA0
  rw [Try.params8] at hA hval
  obtain ⟨v0, vs0, d0, ds0, p0, q0, hargs, rfl, rfl, h0, r0⟩ := trodAll_cons hA
  obtain ⟨rfl, rfl, rfl⟩ := trodAll_nil r0
  obtain rfl : args = #[v0] := by cases args; simp_all
  obtain ⟨rfl, rfl⟩ := trodVars_none hV
  obtain ⟨a0, len0, cap0, rfl⟩ := okWide_slice Try.underlying54 (hval 0 54 v0 rfl rfl)
  have k0 := h0
  have lt0 : ∀ x ∈ p0, x.block < W.heap.size := by obtain ⟨m, hm⟩ := k0; exact DataW.trod_lt m _ _ _ hm
  have w0 : ∃ Z : Nat → Nat → Int, len0 ≤ maxLen ∧ (∀ i j, i < len0 → j < 2 → -9223372036854775808 ≤ Z i j ∧ Z i j ≤ 9223372036854775807) ∧ (0 < len0 → 0 < 2 → ∃ b o, a0 = some ⟨b, o, none⟩ ∧ b < W.heap.size ∧ ∀ i j, i < len0 → j < 2 → W.cell? ⟨b, o + (i * 2 + j), none⟩ = some (.int .i64 (Z i j))) := by
    obtain ⟨fuel, hf⟩ := h0
    exact open_arrs Try.underlying54 Try.underlying55 Try.underlying3 (by kernel_rfl) (by kernel_rfl) hf
  clear hA0 hval0
  refine (walk a0 len0 cap0 W w0).mono fun e W' ⟨he, bel⟩ => ?_
  subst he
  exact ⟨_, rfl, _, _, _, [], _, [], hW', trodAll_mk1 (shut_bool Try.underlying4 _), (trodAll_cons_mk (Below.trod laidOut (by kernel_rfl) (of_decide_eq_true (by kernel_rfl)) k0 bel lt0) trodAll_mk0), rfl, bel.frame _, fun h => by cases h⟩

theorem over : Rows.diskAllRow.holds Try.pinned (OpenSpec.ofChange Rows.diskAllSpec) :=
  OpenClaim.holds_of_wide 8 Try.f8 rfl rfl rfl rfl rfl rfl rfl ⟨rfl, rfl, rfl, rfl, rfl⟩ rfl rfl rfl rfl rfl (by kernel_rfl) Try.func8 (by kernel_rfl)
    (of_decide_eq_true (by kernel_rfl)) (by unfold Func.isWrapper; first | (rw [if_pos (by decide +kernel)]; kernel_rfl) | (rw [if_neg (by decide +kernel)]; exact ⟨rfl, rfl⟩))
    (fun os started H enc _ => lifted os started H enc)

theorem proved : Rows.DiskAllSaid := over
#print axioms proved
end Go.Proofs.Ytbdencfgiemliaa.diskAll
