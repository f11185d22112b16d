/-
  The walk of the law package's small (layer 18): it returns true and changes nothing that was there. No condition.
-/
import Derived.Test.YtbdencfgiemliaaWal23
namespace Go.Proofs.Ytbdencfgiemliaa
open Go.RowKit
set_option linter.unusedVariables false
set_option linter.unusedSimpArgs false
theorem sl_new1 (w : World) (X : Nat → Prop) (cs : Array Value) (l : List UInt8) (t : TypeId) (fr : Nat × Nat) (n : Nat) (h : cs.toList = l.map bv) (hn : l.length = n) (hm : n ≤ maxLen) : Sl (w.alloc (.cells cs t fr)) (New X w (w.alloc (.cells cs t fr))) (some ⟨w.heap.size, 0, none⟩) n n l :=
  (sl_lit w cs l t fr n h hn hm).mono fun b hb hx => .inr ⟨hx, hb⟩
theorem brows_lit (w : World) : BRows ((w.alloc (.cells #[.int .u8 100] 5 (1, 2))).alloc (.cells #[.slice (some ⟨w.heap.size, 0, none⟩) 1 1] 22)) (fun _ => True) (some ⟨w.heap.size + 1, 0, none⟩) 1 1 [[100]] := by
  have h1 : Sl (w.alloc (.cells #[.int .u8 100] 5 (1, 2))) (fun _ => True) (some ⟨w.heap.size, 0, none⟩) 1 1 [100] := (sl_lit w #[.int .u8 100] [100] 5 (1, 2) 1 rfl rfl (by simp [maxLen])).mono fun _ _ _ => trivial
  refine ⟨[⟨some ⟨w.heap.size, 0, none⟩, 1, 1, [100]⟩], rfl, rfl, Nat.le_refl _, by simp [maxLen], (fun h => by cases h), .inr ⟨_, _, rfl, trivial, fun j u hj => ?_⟩, fun r hr => ?_⟩
  · have h2 := one_cell (w.alloc (.cells #[.int .u8 100] 5 (1, 2))) (.slice (some ⟨w.heap.size, 0, none⟩) 1 1) 22 j u hj
    simpa using h2
  · rw [List.mem_singleton] at hr
    subst hr
    exact h1.keep0 (Keep.alloc _ _)
set_option maxRecDepth 20000
set_option maxHeartbeats 2000000
theorem small18 (w : World) : Calls Try.prog 39 #[] w fun e w' => e = .returned (.bool true) ∧ Keep0 w w' := by
  have kc := fun (w : World) (C : Array Value) (n c : Nat) => Lib.run_convert_bytes_const (P := Try.prog) w 22 5 C n c Try.underlying22 Try.underlying5
  go_enter Try.func39, Try.ntmps39
  go_wp2_with fail
  refine (one_new 200 w).mono ?_
  rintro e w1 ⟨D, rfl, h1⟩
  have h1 : One w w1 D d18a 0 Nil := h1
  go_wp2_with fail
  refine (one_open (by omega) (by rw [d18_0.2]; omega) h1).mono ?_
  rintro e w2 ⟨⟨h0, _⟩ | ⟨_, G, rfl, h2⟩, hk2⟩
  · exact absurd d18_0.1 h0
  have h2 : OneL w w2 D G d18b ⟨0, 1, 10, [], [], false⟩ 8 Nil := by have := h2; rw [show d18a.openL = _ from d18_1] at this; exact this
  clear h1 hk2
  go_wp2_with fail
  refine (one_append [97] _ 1 1 (sl_new1 _ _ _ _ _ _ 1 rfl rfl (by simp [maxLen])) (by omega) (by omega) (by rw [d18_2.2]; omega) (Nat.zero_le _) (by rw [d18_2.2]; decide) rfl (h2.add (Keep.alloc _ _))).mono ?_
  rintro e w3 ⟨he, h3, _⟩
  have e100 : d18b.kept.length / 2 = 100 := by rw [d18_2.2]
  rw [e100] at he h3
  have he' : e = .returned (.int .i64 0) := by rw [he]; exact ret_i d18_2.1
  subst he'
  have h3 : OneL w w3 D G d18c ⟨0, 1, 16, [], [[97]], false⟩ 10 Nil := by
    have h4 := h3.less (Y := Nil) fun b hb => hb.elim
    rw [show d18b.stepsE (appendOps 100 _ _ [97]) = 0 from d18_2.1, pickL_0] at h4
    exact h4
  clear h2 he e100
  go_wp2_with fail
  refine (one_compact [99] _ 1 1 (sl_new1 _ _ _ _ _ _ 1 rfl rfl (by simp [maxLen])) (by omega) (by omega) (by rw [d18_3.2]; omega) ⟨by decide, by decide⟩ (by rw [d18_3.2]; decide) rfl (h3.add (Keep.alloc _ _))).mono ?_
  rintro e w4 ⟨he, h4, _⟩
  have e100 : d18c.kept.length / 2 = 100 := by rw [d18_3.2]
  rw [e100] at he h4
  have he' : e = .returned (.int .i64 0) := by rw [he]; exact ret_i d18_3.1
  subst he'
  have h4 : OneL w w4 D G d18d ⟨1, 2, 11, [99], [], false⟩ 18 Nil := by
    have h5 : OneL w w4 D G (d18c.steps (compactOps 100 1 2 [99])) (pickL (d18c.stepsE (compactOps 100 1 2 [99])) ⟨1, 2, 11, [99], [], false⟩ _) 18 Nil := h4.less (Y := Nil) fun b hb => hb.elim
    rw [d18_3.1, pickL_0] at h5
    exact h5
  clear h3 he e100
  go_wp2_with fail
  refine (one_append [100] _ 1 1 (sl_new1 _ _ _ _ _ _ 1 rfl rfl (by simp [maxLen])) (by omega) (by omega) (by rw [d18_4.2]; omega) (Nat.zero_le _) (by rw [d18_4.2]; decide) rfl (h4.add (Keep.alloc _ _))).mono ?_
  rintro e w5 ⟨he, h5, _⟩
  have e100 : d18d.kept.length / 2 = 100 := by rw [d18_4.2]
  rw [e100] at he h5
  have he' : e = .returned (.int .i64 0) := by rw [he]; exact ret_i d18_4.1
  subst he'
  have h5 : OneL w w5 D G d18e ⟨1, 2, 17, [99], [[100]], false⟩ 20 Nil := by
    have h6 := h5.less (Y := Nil) fun b hb => hb.elim
    rw [show d18d.stepsE (appendOps 100 _ _ [100]) = 0 from d18_4.1, pickL_0] at h6
    exact h6
  clear h4 he e100
  obtain ⟨Z, h5z, hl5, _⟩ := h5.split
  clear h5
  go_wp2_with fail
  refine (one_open (by omega) (by rw [d18_5.2]; omega) h5z).mono ?_
  rintro e w6 ⟨⟨h0, _⟩ | ⟨_, M, rfl, h6⟩, hk6⟩
  · exact absurd d18_5.1 h0
  have hl6 := hl5.keep hk6 fun b hb hx => hx hb
  clear h5z hl5 hk6
  go_wp2_with fail
  refine (one_new 47 w6).mono ?_
  rintro e w7 ⟨D2, rfl, h7⟩
  go_wp2_with fail
  obtain ⟨F7, hd7, _⟩ := h7.dsk
  have h67 := h6.keep0 h7.keep
  have hl7 := hl6.keep0 h7.keep
  clear h6 hl6 h7
  refine (open_small (by decide +kernel) hd7).mono ?_
  rintro e w7' ⟨rfl, rfl⟩
  clear hd7
  obtain ⟨FM, hlM⟩ := h67.log
  obtain ⟨FD, hdM⟩ := h67.dsk
  have hk7 := h67.keep
  have hM6 := d18_6
  obtain ⟨hb, hr, ht, hs, hbr⟩ := hM6
  have HLM := Lib.hid hlM
  have HDM := Lib.hid hdM
  have HL7 := Lib.hid hl7
  have HK7 := Lib.hid hk7
  clear h67 hlM hdM hl7 hk7
  go_wp2_with fail
  refine HLM.out.base_.mono ?_
  rintro e w8 ⟨A8, n8, c8, rfl, ho8, hk8⟩
  rw [hb] at ho8
  obtain rfl : n8 = 1 := ho8.sl.len.symm
  have hs8 := ho8.sl.str (P := Try.prog) 22 5 9 Try.underlying22 Try.underlying5 Try.underlying9
  have e99 : strB [99] = { data := #[99] } := rfl
  rw [e99] at hs8
  have HK8 := Lib.hid hk8
  clear ho8 hk8 e99
  go_wp2_with fail
  refine (records_any (by rw [hr]; simp) (HLM.out.keep0 HK8.out)).mono ?_
  rintro e w9 ⟨A9, n9, c9, rfl, hr9, hk9⟩
  rw [hr] at hr9
  have HR9 := Lib.hid hr9
  have HK9 := Lib.hid (HK8.out.and0 hk9)
  clear hr9 hk9 hs8
  go_wp2_with fail
  refine (rows_any [[100]] [[100]] A9 _ n9 c9 1 1 (HR9.out.keep0 ((Keep.alloc _ _).alloc' _)) (brows_lit w9)).mono ?_
  rintro e w10 ⟨rfl, hk10⟩
  have HK10 := Lib.hid (((HK9.out.alloc' (.cells #[.int .u8 100] 5 (1, 2))).alloc' (.cells #[.slice (some ⟨w9.heap.size, 0, none⟩) 1 1] 22)).and0 hk10)
  rw [show decide (([[100]] : List (List UInt8)) = [[100]]) = true from rfl]
  clear hk10
  go_wp2_with fail
  refine (HLM.out.keep0 HK10.out).turn_.mono ?_
  rintro e w' ⟨rfl, rfl⟩
  rw [ht]
  go_wp2_with fail
  refine (LRep.room (HDM.out.keep0 HK10.out) (HLM.out.keep0 HK10.out)).mono ?_
  rintro e w11 ⟨rfl, hk11⟩
  rw [hs, d18_7]
  have HK11 := Lib.hid (HK10.out.and0 hk11)
  obtain ⟨w12, hmk, ho12, hk12, _⟩ := make_zeros (w := w11) 90 90 rfl (by omega)
  have HK12 := Lib.hid (HK11.out.and0 hk12)
  clear hk11 ho12 hk12
  go_wp2_with fail
  have hmay : (⟨1, 2, 17, [99], [[100]], false⟩ : LSt).may 90 (((d18e.openD.kept.length / 2 : Nat) : Int) - ((17 : Nat) : Int)) = 2 := by rw [d18_7]; rfl
  refine (append_no (some ⟨w11.heap.size, 0, none⟩) 90 90 (by omega) (by rw [show ((⟨1, 2, 17, [99], [[100]], false⟩ : LSt).stop) = 17 from rfl, hmay]; decide) (HDM.out.keep0 HK12.out) (HL7.out.keep0 HK12.out)).mono ?_
  rintro e w13 ⟨he, hk13⟩
  have he' : e = .returned (.int .i64 2) := by rw [he]; exact ret_i hmay
  subst he'
  have HK13 := Lib.hid (HK12.out.and0 hk13)
  clear hk13 hmk he hmay
  go_wp2_with fail
  refine (HLM.out.keep0 HK13.out).broken_.mono ?_
  rintro e w' ⟨rfl, rfl⟩
  rw [hbr]
  go_wp2_with fail
  go_ret
  exact ⟨rfl, HK7.out.and0 HK13.out⟩
end Go.Proofs.Ytbdencfgiemliaa
