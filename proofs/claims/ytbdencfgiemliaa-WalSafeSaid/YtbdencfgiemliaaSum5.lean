/-
  Contract of the law package's small (layer 16): it returns true and changes nothing that was there. No condition.
-/
import Derived.Test.YtbdencfgiemliaaSum4
namespace Go.Proofs.Ytbdencfgiemliaa
open Go.RowKit
theorem small_stamp : stampL [97, 98] = [97, 98, 105, 240] := by decide +kernel
theorem whole_ab1 : isWhole (stampL [97, 98]) = true := by decide +kernel
theorem whole_ab2 : wholeL (stampL [97, 98]) = [97, 98] := by decide +kernel
theorem whole_xb : isWhole [120, 98, 105, 240] = false := by decide +kernel
theorem crc_nil : (((crc []).toNat : Nat) : Int) = 65535 := by decide +kernel
theorem crc_check : (((crc [49, 50, 51, 52, 53, 54, 55, 56, 57]).toNat : Nat) : Int) = 10673 := by decide +kernel
set_option maxRecDepth 20000 in
set_option maxHeartbeats 400000 in
theorem small16 (w : World) : Calls Try.prog 14 #[] w fun e w' => e = .returned (.bool true) ∧ Keep0 w w' := by
  have kc := fun (w : World) (C : Array Value) (n c : Nat) => Lib.run_convert_bytes_const (P := Try.prog) w 22 5 C n c Try.underlying22 Try.underlying5
  go_enter Try.func14, Try.ntmps14
  go_wp2_with fail
  refine (stamp_any [97, 98] (fun b => w.heap.size ≤ b) _ 2 2 _ ?hs1 (by omega)).mono ?_
  case hs1 => exact sl_lit _ _ _ _ _ 2 rfl rfl (by simp [maxLen])
  rintro e w1 ⟨A1, c1, rfl, hown1', hk1'⟩
  have hown1 := hown1'.mono (base' := w.heap.size) (by simp)
  have hk1 := (Keep.alloc w _).andThen hk1'
  clear hown1' hk1'
  go_wp2_with fail
  refine (whole_any (stampL [97, 98]) _ _ _ _ _ hown1.sl (by omega)).mono ?_
  rintro e w2 ⟨A2, n2, c2, rfl, hown2, hk2⟩
  rw [whole_ab1]
  rw [whole_ab2] at hown2
  rw [small_stamp] at hown1
  obtain rfl : n2 = 2 := hown2.len.symm
  obtain ⟨g, rfl, hbg, hgl, ⟨u, hcu, _⟩, hfz, hset⟩ := (hown1.keep0 hk2).set_ (k := 0) (by omega)
  have hb2 : ¬ w1.heap.size ≤ g := by have := (hown1.row g rfl).2; omega
  have hown3 : Own (w2.setCell ⟨g, 0, none⟩ (bv 120)) w.heap.size 5 (some ⟨g, 0, none⟩) 4 c1 (([120, 98, 105, 240] : List UInt8).map bv) := hset (bv 120)
  have hk3 : Keep0 w (w2.setCell ⟨g, 0, none⟩ (bv 120)) := ((hk1.and0 hk2).set' _ _ (.inr hbg))
  have hown4 : Own (w2.setCell ⟨g, 0, none⟩ (bv 120)) w1.heap.size 5 A2 2 c2 (([97, 98] : List UInt8).map bv) := hown2.keep (Keep.setCell (S := fun b => b = g) w2 ⟨g, 0, none⟩ (bv 120) rfl) (fun b hb _ e => hb2 (by omega))
  have h120 : bv 120 = .int .u8 120 := rfl
  rw [h120] at hown3 hk3 hown4
  clear hset h120
  go_wp2_with fail
  refine (whole_any [120, 98, 105, 240] _ _ _ _ _ hown3.sl (by omega)).mono ?_
  rintro e w5 ⟨A5, n5, c5, rfl, hown5, hk5⟩
  rw [whole_xb]
  go_wp2_with fail
  refine (sum_any [49, 50, 51, 52, 53, 54, 55, 56, 57] (fun b => w5.heap.size ≤ b) _ 9 9 _ ?hs2).mono ?_
  case hs2 => exact sl_lit _ _ _ _ _ 9 rfl rfl (by simp [maxLen])
  rintro e w6 ⟨rfl, rfl⟩
  rw [crc_check]
  have hstr := (hown4.keep0 (hk5.alloc' (.cells #[.int .u8 49, .int .u8 50, .int .u8 51, .int .u8 52, .int .u8 53, .int .u8 54, .int .u8 55, .int .u8 56, .int .u8 57] 5 (9, 10)))).sl.str (P := Try.prog) 22 5 9 Try.underlying22 Try.underlying5 Try.underlying9
  have hlit : strB [97, 98] = { data := #[97, 98] } := rfl
  rw [hlit] at hstr
  clear hlit
  go_wp2_with fail
  refine (sum_any [] (fun _ => True) none 0 0 _ (sl_nil _ _)).mono ?_
  rintro e w6 ⟨rfl, rfl⟩
  rw [crc_nil]
  go_wp2
  go_ret
  exact ⟨rfl, (hk3.and0 hk5).alloc' _⟩
end Go.Proofs.Ytbdencfgiemliaa
