/-
  The law package's told: base and records as one text. Condition: the log lies so in memory, fewer than 65536 records.
-/
import Derived.Test.YtbdencfgiemliaaWal19
namespace Go.Proofs.Ytbdencfgiemliaa
open Go.RowKit
set_option linter.unusedVariables false
set_option linter.unusedSimpArgs false
/-- Base and records, as one text. -/
def recsText (L : List (List UInt8)) : List UInt8 := L.flatMap fun r => UInt8.ofNat r.length :: r
def LSt.told (x : LSt) : List UInt8 := x.base ++ [124] ++ recsText x.recs
theorem strB_app (a b : List UInt8) : strB a ++ strB b = strB (a ++ b) := by
  unfold strB
  apply ByteArray.ext
  simp
theorem LogRep.keep0 {w w' : World} {G D : Nat} {x : LSt} {F : Nat → Prop} {BA RA : Option Addr} {bn bc rn rc : Nat} {rows : List Row} (h : LogRep w G D x F BA bn bc RA rn rc rows) (hk : Keep0 w w') : LogRep w' G D x F BA bn bc RA rn rc rows := h.keep hk fun _ _ hb => hb
theorem strB_size (l : List UInt8) : (strB l).size = l.length := by
  unfold strB
  rfl
theorem recsText_len (L : List (List UInt8)) (h : ∀ r ∈ L, r.length ≤ 65536) : (recsText L).length ≤ L.length * 65537 := by
  induction L with
  | nil => simp [recsText]
  | cons r t ih =>
    have h1 := h r (by simp)
    have h2 := ih fun q hq => h q (by simp [hq])
    unfold recsText at h2 ⊢
    rw [List.flatMap_cons, List.length_append, List.length_cons, List.length_cons]
    omega
section
variable {X F : Nat → Prop} {w : World} {D G m : Nat} {x : LSt}
set_option maxRecDepth 20000
set_option maxHeartbeats 2000000
theorem told_any (hrc : x.recs.length ≤ 65536) (h : LRep w G D x F) : Calls Try.prog 48 #[.pointer (some ⟨G, 0, none⟩)] w fun e w' => e = .returned (.string (strB x.told)) ∧ Keep0 w w' := by
  obtain ⟨i5, hi0, hz0, hz1, hz2⟩ := info_parts info5
  obtain ⟨BA, bn, bc, RA, rn, rc, rows, hL⟩ := h
  have hbl := hL.bd.1
  have hrb := hL.bd.2.1
  have HL := Lib.hid hL
  have HRB := Lib.hid hrb
  have HRC := Lib.hid hrc
  clear hL hrb
  go_enter Try.func48, Try.ntmps48
  go_wp2_with fail
  refine (base_any x.base _ BA bn bc HL.out.base (by have := HL.out.base.len; omega) HL.out.blk).mono ?_
  rintro e w1 ⟨A1, c1, rfl, ho1, hk1⟩
  have hs1 := ho1.sl.str (P := Try.prog) 22 5 9 Try.underlying22 Try.underlying5 Try.underlying9
  have HK1 := Lib.hid hk1
  have e124 : strB [124] = { data := #[124] } := rfl
  have hz124 : (strB x.base).size + 1 ≤ 9223372036854775807 := by rw [strB_size]; omega
  clear ho1 hk1
  go_wp2_with fail
  refine (records_any (x := x) hrc ⟨BA, bn, bc, RA, rn, rc, rows, HL.out.keep0 HK1.out⟩).mono ?_
  rintro e w2 ⟨A2, n2, c2, rfl, hb2, hk2⟩
  have hn2 := hb2.len
  have hn2' : n2 ≤ 65536 := by omega
  have HB2 := Lib.hid hb2
  have HK2 := Lib.hid (HK1.out.and0 hk2)
  have HN2 := Lib.hid hn2
  rw [← e124, strB_app]
  clear hb2 hk2 hn2 hrc hs1 e124
  go_wp2_with fail
  go_loopw [3, 5] (fun t i wr => ∃ k : Nat, k ≤ n2 ∧ i = .int .i64 k ∧ t = .string (strB (x.base ++ [124] ++ recsText (x.recs.take k))) ∧ Hid (Keep0 w2 wr)) (fun _ i _ => n2 - (intOf i).toNat)
  case atStart => exact ⟨0, Nat.zero_le _, rfl, by simp [recsText], Keep.refl _ _⟩
  case round =>
    obtain ⟨k, hk, rfl, rfl, HI⟩ := hrel
    by_cases hlt : k < n2
    · obtain ⟨b, o, Ak, nk, ck, rfl, _, hcell, hsk⟩ := (HB2.out.keep0 HI.out).at_ hlt
      have hkx : k < x.recs.length := by rw [HN2.out]; exact hlt
      obtain ⟨lk, hlk⟩ : ∃ lk, lk = x.recs.getD k [] := ⟨_, rfl⟩
      have hget : x.recs[k]? = some lk := by rw [hlk, List.getD_eq_getElem?_getD, List.getElem?_eq_getElem hkx]; rfl
      rw [← hlk] at hsk
      have hlen : lk.length ≤ 65536 := HRB.out lk (List.mem_of_getElem? hget)
      have hnk : nk ≤ 65536 := by have := hsk.len; omega
      have htx : recsText (x.recs.take (k + 1)) = recsText (x.recs.take k) ++ (UInt8.ofNat nk :: lk) := by
        unfold recsText
        rw [List.take_add_one, hget, List.flatMap_append, ← hsk.len]
        simp
      have hcd : wr.drew.cell? ⟨b, o + k, none⟩ = some (.slice Ak nk ck) := hcell
      have HSK := Lib.hid (hsk.keep0 (Keep.drew wr))
      have HKK := Lib.hid (HK2.out.and0 HI.out)
      have HTX := Lib.hid htx
      obtain ⟨T, hT⟩ : ∃ T, T = x.base ++ [124] ++ recsText (x.recs.take k) := ⟨_, rfl⟩
      rw [← hT]
      have HT := Lib.hid hT
      have hrl : (recsText (x.recs.take k)).length ≤ k * 65537 := by
        have h1 := recsText_len (x.recs.take k) fun r hr => HRB.out r (List.mem_of_mem_take hr)
        have h2 : (x.recs.take k).length = k := by rw [List.length_take, HN2.out]; omega
        rw [h2] at h1
        exact h1
      have hrk : k * 65537 ≤ 65536 * 65537 := Nat.mul_le_mul_right _ (by omega)
      have hszz : (strB T).size + (strB (UInt8.ofNat nk :: lk)).size ≤ 9223372036854775807 := by
        rw [strB_size, strB_size, hT, List.length_append, List.length_append, List.length_cons, List.length_cons, List.length_nil]
        have := hsk.len
        omega
      obtain ⟨U, hU⟩ : ∃ U, U = UInt8.ofNat nk :: lk := ⟨_, rfl⟩
      have HU := Lib.hid hU
      rw [← hU] at hszz
      clear hlk hget hsk hlen htx hkx hrl hrk hT hU
      go_wp2_with fail
      have hlit : (wr.drew.alloc (.cells #[.int .u8 ((nk : Int) % 256)] 5)).ownsRow w.heap.size 5 1 (.slice (some ⟨wr.drew.heap.size, 0, none⟩) 1 1) 1 [.int .u8 ((nk : Int) % 256)] := by
        exact World.ownsRow_lit (base := w.heap.size) (e := 5) (size := 1) wr.drew #[.int .u8 ((nk : Int) % 256)] 1 HKK.out.size (by simp [maxLen]) rfl
      refine wp_region_held_drew (S := fun W => W.cell? ⟨b, o + k, none⟩ = some (.slice Ak nk ck)) (by kernel_rfl) hcd (fun hHeld => ?_)
      refine wpAnyH_take (i := 0) (oi := ⟨_, _, _, _, _, _⟩) (v := ?_) rfl (by kernel_rfl) (by kernel_rfl) (by kernel_rfl) (fun _ _ _ h => h) (Or.inl ⟨by rfl, ?_⟩) (by assumption) ?_
      rotate_left
      · intro W hSw; (try dsimp only at hSw); go_simp; try with_reducible rfl
      try simp only [Act.put, List.setIfInBounds_toArray, List.set_cons_zero, List.set_cons_succ]
      refine wpAnyH_take (i := 1) (oi := ⟨_, _, _, _, _, _⟩) (v := ?_) rfl (by kernel_rfl) (by kernel_rfl) (by kernel_rfl) (fun _ _ _ h => h) (Or.inl ⟨by rfl, ?_⟩) (by assumption) ?_
      rotate_left
      · intro W hSw; (try dsimp only at hSw); go_simp; try with_reducible rfl
      try simp only [Act.put, List.setIfInBounds_toArray, List.set_cons_zero, List.set_cons_succ]
      refine wpAnyH_take (i := 2) (oi := ⟨_, _, _, _, _, _⟩) (v := ?_) rfl (by kernel_rfl) (by kernel_rfl) (by kernel_rfl) (fun _ _ _ h => h) (Or.inl ⟨by rfl, ?_⟩) (by assumption) ?_
      rotate_left
      · intro W hSw; (try dsimp only at hSw); go_simp; try with_reducible rfl
      try simp only [Act.put, List.setIfInBounds_toArray, List.set_cons_zero, List.set_cons_succ]
      refine wpAnyH_take (i := 3) (oi := ⟨_, _, _, _, _, _⟩) (v := ?_) rfl (by kernel_rfl) (by kernel_rfl) (by kernel_rfl) (fun _ _ _ h => h) (Or.inl ⟨by rfl, ?_⟩) (by assumption) ?_
      rotate_left
      · intro W hSw; (try dsimp only at hSw); go_simp; try with_reducible rfl
      try simp only [Act.put, List.setIfInBounds_toArray, List.set_cons_zero, List.set_cons_succ]
      refine wpAnyH_take (i := 4) (oi := ⟨_, _, _, _, _, _⟩) (v := ?_) rfl (by kernel_rfl) (by kernel_rfl) (by kernel_rfl) (fun _ _ _ h => h) (Or.inl ⟨by rfl, ?_⟩) (by assumption) ?_
      rotate_left
      · intro W hSw; (try dsimp only at hSw); go_simp; try with_reducible rfl
      try simp only [Act.put, List.setIfInBounds_toArray, List.set_cons_zero, List.set_cons_succ]
      refine wpAnyH_take (i := 5) (oi := ⟨_, _, _, _, _, _⟩) (v := ?_) rfl (by kernel_rfl) (by kernel_rfl) (by kernel_rfl) (fun _ _ _ h => h) (Or.inl ⟨by rfl, ?_⟩) (by assumption) ?_
      rotate_left
      · intro W hSw; (try dsimp only at hSw); go_simp; try with_reducible rfl
      try simp only [Act.put, List.setIfInBounds_toArray, List.set_cons_zero, List.set_cons_succ]
      refine wpAnyH_take (i := 6) (oi := ⟨_, _, _, _, _, _⟩) (v := ?_) rfl (by kernel_rfl) (by kernel_rfl) (by kernel_rfl) (fun _ _ _ h => h) (Or.inl ⟨by rfl, ?_⟩) (by assumption) ?_
      rotate_left
      · intro W hSw; (try dsimp only at hSw); go_simp; try with_reducible rfl
      try simp only [Act.put, List.setIfInBounds_toArray, List.set_cons_zero, List.set_cons_succ]
      refine wpAnyH_take (i := 8) (oi := ⟨_, _, _, _, _, _⟩) (v := ?_) rfl (by kernel_rfl) (by kernel_rfl) (by kernel_rfl) (fun _ _ _ h => h) (Or.inl ⟨by rfl, ?_⟩) (by assumption) ?_
      rotate_left
      · intro W hSw; (try dsimp only at hSw); go_simp; try with_reducible rfl
      try simp only [Act.put, List.setIfInBounds_toArray, List.set_cons_zero, List.set_cons_succ]
      refine wpAnyH_take (i := 9) (oi := ⟨_, _, _, _, _, _⟩) (v := ?_) rfl (by kernel_rfl) (by kernel_rfl) (by kernel_rfl) (fun _ _ _ h => h) (Or.inl ⟨by rfl, ?_⟩) (by assumption) ?_
      rotate_left
      · intro W hSw; (try dsimp only at hSw); go_simp; try with_reducible rfl
      try simp only [Act.put, List.setIfInBounds_toArray, List.set_cons_zero, List.set_cons_succ]
      refine wpAnyH_take (i := 10) (oi := ⟨_, _, _, _, _, _⟩) (v := ?_) rfl (by kernel_rfl) (by kernel_rfl) (by kernel_rfl) (fun _ _ _ h => h) (Or.inl ⟨by rfl, ?_⟩) (by assumption) ?_
      rotate_left
      · intro W hSw; (try dsimp only at hSw); go_simp; try with_reducible rfl
      try simp only [Act.put, List.setIfInBounds_toArray, List.set_cons_zero, List.set_cons_succ]
      refine wpAnyH_take (i := 11) (oi := ⟨_, _, _, _, _, _⟩) (v := ?_) rfl (by kernel_rfl) (by kernel_rfl) (by kernel_rfl) (fun _ _ _ h => h) (Or.inl ⟨by rfl, ?_⟩) (by assumption) ?_
      rotate_left
      · intro W hSw; (try dsimp only at hSw); go_simp; try with_reducible rfl
      try simp only [Act.put, List.setIfInBounds_toArray, List.set_cons_zero, List.set_cons_succ]
      refine wpAnyH_ready (rs := [7]) (by kernel_rfl) (by simp) ?_
      refine AllReadyH.cons (o := ⟨_, _, _, _, _, _⟩) rfl (fun K hK => ?_) AllReadyH.nil
      go_simp
      refine hK.out _ _ ?_ (fun hHeld => ?_)
      · exact (Keep.alloc wr.drew _).cell_some hcd (fun hb => hb)
      clear hK K
      try simp only [Act.put, List.setIfInBounds_toArray, List.set_cons_zero, List.set_cons_succ]
      refine wpAnyH_ready (rs := [12]) (by kernel_rfl) (by simp) ?_
      refine AllReadyH.cons (o := ⟨_, _, _, _, _, _⟩) rfl (fun K1 hK1 => ?_) AllReadyH.nil
      refine step_append_rd _ rfl (.tmp 25) (.tmp 29) 22 rfl w.heap.size 5 i5 _ 1 1 Try.underlying22 hi0 hz0 hz1 hz2 rfl (by omega) (.slice (some ⟨wr.drew.heap.size, 0, none⟩) 1 1) 1 [.int .u8 ((nk : Int) % 256)] rfl (hlit) _ Ak nk ck (lk.map bv) rfl (by rw [List.length_map, Nat.mul_one]; exact HSK.out.len) ((HSK.out.keep0 (Keep.alloc wr.drew _)).rd) (one_bv lk) (by unfold maxLen; omega) (by omega) (by have := HKK.out.size; simp; exact Nat.le_succ_of_le this) ?_
      intro A' c' w4 hown4 hg4 _
      have hO4 : Own w4 w.heap.size 5 A' (1 + nk) c' ((UInt8.ofNat nk :: lk).map bv) := by
        unfold Own
        rw [List.map_cons, bv_of]
        exact hown4
      have hO4' := hO4
      rw [← HU.out] at hO4'
      have hk4 : Keep0 w w4 := ((HKK.out.drew').alloc' _).grown hg4 fun b hb => .inr (by simp [Value.ownBlock] at hb; subst hb; exact HKK.out.size)
      have hk24 : Keep0 wr.drew w4 := (Keep.alloc wr.drew _).grown hg4 fun b hb => .inr (by simp [Value.ownBlock] at hb; subst hb; exact Nat.le_refl _)
      refine hK1.out _ _ (hk24.cell_some hcd (fun hb => hb)) (fun hHeld3 => ?_)
      clear hK1 K1
      try simp only [Act.put, List.setIfInBounds_toArray, List.set_cons_zero, List.set_cons_succ]
      have hstr := hO4'.sl.str (P := Try.prog) 22 5 9 Try.underlying22 Try.underlying5 Try.underlying9
      have HK4 := Lib.hid ((Keep.drew wr).and0 hk24)
      clear hown4 hg4 hO4 hO4' hk4 hk24
      refine wpAnyH_ready (rs := [13]) (by kernel_rfl) (by simp) ?_
      refine AllReadyH.cons (o := ⟨_, _, _, _, _, _⟩) rfl (fun K hK => ?_) AllReadyH.nil
      go_simp
      refine hK.out _ _ ?_ (fun hHeld => ?_)
      · exact hHeld3
      clear hK K
      try simp only [Act.put, List.setIfInBounds_toArray, List.set_cons_zero, List.set_cons_succ]
      refine wpAnyH_take (i := 14) (oi := ⟨_, _, _, _, _, _⟩) (v := ?_) rfl (by kernel_rfl) (by kernel_rfl) (by kernel_rfl) (fun _ _ _ h => h) (Or.inl ⟨by rfl, ?_⟩) (by assumption) ?_
      rotate_left
      · intro W hSw; (try dsimp only at hSw); go_simp; rw [if_neg (Nat.not_lt.2 hszz)]
      try simp only [Act.put, List.setIfInBounds_toArray, List.set_cons_zero, List.set_cons_succ]
      refine wpAnyH_take (i := 15) (oi := ⟨_, _, _, _, _, _⟩) (v := ?_) rfl (by kernel_rfl) (by kernel_rfl) (by kernel_rfl) (fun _ _ _ h => h) (Or.inl ⟨by rfl, ?_⟩) (by assumption) ?_
      rotate_left
      · intro W hSw; (try dsimp only at hSw); go_simp; try with_reducible rfl
      try simp only [Act.put, List.setIfInBounds_toArray, List.set_cons_zero, List.set_cons_succ]
      refine wpAnyH_done (by kernel_rfl) ?_ _
      clear hstr
      go_wp2_with fail
      go_roundw
      case rel =>
        refine ⟨k + 1, by omega, by go_num, ?_, HI.out.and0 (HK4.out)⟩
        rw [strB_app, HT.out, HTX.out, HU.out, List.append_assoc]
      case measure => simp [intOf]; omega
    · obtain rfl : k = n2 := by omega
      have ht : x.recs.take k = x.recs := List.take_of_length_le (by rw [HN2.out]; exact Nat.le_refl _)
      rw [ht]
      obtain ⟨T, hT⟩ : ∃ T, T = x.base ++ [124] ++ recsText x.recs := ⟨_, rfl⟩
      rw [← hT]
      have HT := Lib.hid hT
      clear hT ht
      go_wp2_with fail
      go_ret
      exact ⟨by rw [HT.out]; rfl, HK2.out.and0 HI.out⟩
end
end Go.Proofs.Ytbdencfgiemliaa
