/-
  Records: new rows that read as the log's records. Condition: the log lies so in memory, fewer than 65536 records.
-/
import Derived.Test.YtbdencfgiemliaaWal11
namespace Go.Proofs.Ytbdencfgiemliaa
open Go.RowKit
set_option linter.unusedVariables false
set_option linter.unusedSimpArgs false
theorem one_rows (rows : List Row) : ∀ u ∈ rows.map Row.val, u.oneCell' = true := by
  intro u hu
  obtain ⟨r, _, rfl⟩ := List.mem_map.1 hu
  rfl
set_option maxHeartbeats 400000 in
theorem clone2_any (rows : List Row) (F : Nat → Prop) (A : Option Addr) (n c : Nat) (w : World) (hl : rows.length = n) (hnil : A = none → n = 0) (hrd : Rd w F A (rows.map Row.val)) (hm : n ≤ 65536) :
    Calls Try.prog 68 #[.slice A n c] w fun e w' => ∃ A' c', e = .returned (.slice A' n c') ∧ Own w' w.heap.size 22 A' n c' (rows.map Row.val) ∧ Keep0 w w' := by
  rcases A with _ | ad
  · obtain rfl := hnil rfl
    have hl' : rows = [] := List.eq_nil_of_length_eq_zero hl
    subst hl'
    have hs := fun w => Lib.run_eql_slice_nil (P := Try.prog) w 62 22 none 0 c 0 0 Try.underlying62
    go_enter Try.func68, Try.ntmps68
    go_wp2
    go_ret
    exact ⟨none, 0, rfl, own_nil _ _ _, Keep.refl _ _⟩
  · have hs := fun w => Lib.run_eql_slice_nil (P := Try.prog) w 62 22 (some ad) n c 0 0 Try.underlying62
    obtain ⟨i0, hi0, hz0, hz1, hz2⟩ := info_parts info22
    have HH := Lib.hid hrd
    have HL := Lib.hid hl
    clear hrd hl hnil
    go_enter Try.func68, Try.ntmps68
    go_wp2_with (at_builtin; refine wpList_append_rd _ rfl (.tmp 5) (.tmp 6) _ rfl w.heap.size 22 i0 _ 1 24 Try.underlying62 hi0 hz0 hz1 hz2 rfl (by omega) (.slice (some ⟨w.heap.size, 0, none⟩) 0 0) 0 [] rfl (World.ownsRow_made w _ 0 (Nat.le_refl _) (Nat.zero_le _) rfl) F (some ad) n c (rows.map Row.val) rfl ?qa ?qb (one_rows rows) (by simp only [maxLen]; omega) (by omega) (by simp) ?qc)
    case qa => simpa using HL.out
    case qb => exact HH.out.keep0 (Keep.alloc _ _)
    case qc =>
      intro A' c' w' hown hg _
      have hO : Own w' w.heap.size 22 A' n c' (rows.map Row.val) := by unfold Own; simpa using hown
      go_wp2
      go_ret
      exact ⟨A', c', rfl, hO, ((Keep.alloc w _).trans (Keep.ofGrown hg (S := fun b => w.heap.size ≤ b) (by simp [Value.ownBlock])) (fun b hb h => by omega))⟩
section
variable {X F : Nat → Prop} {w : World} {D G m : Nat} {x : LSt}
set_option maxRecDepth 20000
set_option maxHeartbeats 2000000
theorem records_any (hrc : x.recs.length ≤ 65536) (h : LRep w G D x F) : Calls Try.prog 43 #[.pointer (some ⟨G, 0, none⟩)] w fun e w' => ∃ A n c, e = .returned (.slice A n c) ∧ BRows w' (fun b => w.heap.size ≤ b) A n c x.recs ∧ Keep0 w w' := by
  obtain ⟨BA, bn, bc, RA, rn, rc, rows, hL⟩ := h
  obtain ⟨c0, c1, c2, c3, c4, c5, c6, _⟩ := log_cells hL.blk
  have hrn : rows.length = rn := by have := hL.recs.1; simpa using this
  have hrn6 : rn ≤ 65536 := by rw [← hrn]; have := hL.eq; rw [this, List.length_map] at hrc; exact hrc
  have hnil : RA = none → rn = 0 := fun e => by
    rcases hL.recs.2.2.2 with ⟨_, h2⟩ | ⟨g, o, cur, hA, _⟩
    · have := hL.recs.2.1; omega
    · rw [e] at hA; cases hA
  have HL := Lib.hid hL
  have HRN := Lib.hid hrn
  have HNIL := Lib.hid hnil
  clear hL hrn hnil hrc c0 c1 c2 c3 c4 c6
  go_enter Try.func43, Try.ntmps43
  go_wp2_with fail
  refine (clone2_any rows (BlkOf RA) RA rn rc w HRN.out HNIL.out HL.out.recs.rd hrn6).mono ?_
  rintro e w1 ⟨A1, c1, rfl, ho1, hk1⟩
  have HO1 := Lib.hid ho1
  have HK1 := Lib.hid hk1
  clear ho1 hk1 c5
  go_wp2_with fail
  go_loopw [13] (fun i wr => ∃ (k : Nat) (new : List Row), k ≤ rn ∧ i = .int .i64 k ∧ Hid (new.length = k ∧ new.map Row.bytes = x.recs.take k ∧ Own wr w.heap.size 22 A1 rn c1 ((new ++ rows.drop k).map Row.val) ∧ Keep0 w wr ∧
      (∀ r ∈ new, Sl wr (fun b => w.heap.size ≤ b ∧ ¬ BlkOf A1 b) r.A r.n r.c r.bytes))) (fun i _ => rn - (intOf i).toNat)
  case atStart => exact ⟨0, [], Nat.zero_le _, rfl, rfl, by simp, by simpa using HO1.out, HK1.out, by simp⟩
  case round =>
    obtain ⟨k, new, hk, rfl, HI⟩ := hrel
    by_cases hlt : k < rn
    · obtain ⟨hnl, hnb, hown, hkk, hnew⟩ := HI.out
      have hkr : k < rows.length := by rw [HRN.out]; exact hlt
      obtain ⟨r0, hr0⟩ : ∃ r0, r0 = rows[k] := ⟨_, rfl⟩
      have hr0m : r0 ∈ rows := by rw [hr0]; exact List.getElem_mem hkr
      have hdr : rows.drop k = r0 :: rows.drop (k + 1) := by rw [List.drop_eq_getElem_cons hkr, ← hr0]
      obtain ⟨g, rfl, hgb, hgl, ⟨u, hcu, hcu'⟩, hfz, hset⟩ := hown.set_ (k := k) hlt
      have hu : u = .slice r0.A r0.n r0.c := by
        rw [hdr, List.map_append, List.getElem?_append_right (by rw [List.length_map]; omega)] at hcu'
        simp [hnl] at hcu'
        exact hcu'.symm
      subst hu
      have hsl0 : Sl wr (fun b => F b ∧ OffL G RA b) r0.A r0.n r0.c r0.bytes := (HL.out.each r0 hr0m).keep0 hkk
      have hb0 : r0.bytes.length ≤ 65536 := HL.out.bd.2.1 _ (by rw [HL.out.eq]; exact List.mem_map.2 ⟨r0, hr0m, rfl⟩)
      have hrec : x.recs[k]? = some r0.bytes := by rw [HL.out.eq, List.getElem?_map, List.getElem?_eq_getElem hkr, ← hr0]; rfl
      have HSL0 := Lib.hid hsl0
      have HB0 := Lib.hid hb0
      have HREC := Lib.hid hrec
      have HDR := Lib.hid hdr
      have HNL := Lib.hid hnl
      have HNB := Lib.hid hnb
      have HNEW := Lib.hid hnew
      have HKK := Lib.hid hkk
      have HOWN := Lib.hid hown
      clear HI hnl hnb hown hnew hkr hdr hsl0 hb0 hrec hset hr0 hr0m hcu'
      go_wp2_with fail
      refine (clone_any r0.bytes _ r0.A r0.n r0.c wr HSL0.out (by have := HSL0.out.len; have := HB0.out; omega)).mono ?_
      rintro e w2 ⟨A2, c2, rfl, ho2, hk2⟩
      obtain ⟨g', hg', hgb2, hgl2, ⟨u2, hcu2, _⟩, hfz2, hset2⟩ := (HOWN.out.keep0 hk2).set_ (k := k) hlt
      injection hg' with hg'
      injection hg' with hg' _ _
      subst hg'
      have hfin := hset2 (.slice A2 r0.n c2)
      have hkf : Keep (fun b => b = g) w2 (w2.setCell ⟨g, k, none⟩ (.slice A2 r0.n c2)) := Keep.setCell (S := fun b => b = g) w2 ⟨g, k, none⟩ _ rfl
      have HO2 := Lib.hid ho2
      have HK2 := Lib.hid hk2
      have HFIN := Lib.hid hfin
      have HKF := Lib.hid hkf
      clear ho2 hk2 hfin hkf hset2
      go_wp2_with fail
      go_roundw
      case rel =>
        have hblk : ∀ b, BlkOf (some ⟨g, 0, none⟩) b → b = g := fun b hb => (blkOf_some g 0 b).1 hb
        have hsz := HK2.out.size
        have hsz0 := HKK.out.size
        refine ⟨k + 1, new ++ [⟨A2, r0.n, c2, r0.bytes⟩], by omega, by go_num, ⟨by simp [HNL.out], ?_, ?_, ?_, ?_⟩⟩
        · rw [List.map_append, HNB.out, List.take_add_one, HREC.out]
          rfl
        · have h1 := HFIN.out
          have h2 : ((new ++ rows.drop k).map Row.val).set k (.slice A2 r0.n c2) = ((new ++ [(⟨A2, r0.n, c2, r0.bytes⟩ : Row)]) ++ rows.drop (k + 1)).map Row.val := by
            rw [HDR.out, List.map_append, List.set_append_right _ _ (by rw [List.length_map, HNL.out]; exact Nat.le_refl _), List.length_map, HNL.out, Nat.sub_self]
            simp [Row.val]
          rw [h2] at h1
          exact h1
        · exact (HKK.out.and0 HK2.out).setNew ⟨g, k, none⟩ _ hgb
        · intro r hr
          rcases List.mem_append.1 hr with hr | hr
          · exact ((HNEW.out r hr).keep0 HK2.out).keep HKF.out fun b hb e => hb.2 (by rw [e]; exact ⟨_, rfl, rfl⟩)
          · rw [List.mem_singleton] at hr
            subst hr
            exact (HO2.out.sl.keep HKF.out fun b hb e => by have h9 : wr.heap.size ≤ b := hb; omega).mono fun b _ hb => ⟨by have h9 : wr.heap.size ≤ b := hb; omega, fun hx => by have := hblk b hx; have h9 : wr.heap.size ≤ b := hb; omega⟩
      case measure => simp [intOf]; omega
    · obtain rfl : k = rn := by omega
      obtain ⟨hnl, hnb, hown, hkk, hnew⟩ := HI.out
      have hd : rows.drop k = [] := List.drop_of_length_le (by rw [HRN.out]; exact Nat.le_refl _)
      rw [hd, List.append_nil] at hown
      have ht : x.recs.take k = x.recs := List.take_of_length_le (by rw [HL.out.eq, List.length_map, HRN.out]; exact Nat.le_refl _)
      rw [ht] at hnb
      have HFIN : Hid (BRows wr (fun b => w.heap.size ≤ b) A1 k c1 x.recs) := by
        obtain ⟨g1, g2, g3, g4⟩ := hown.rw_.1
        refine ⟨new, hnb, hnl, g2, g3, fun e => ?_, hown.rd, fun r hr => (hnew r hr).mono fun b _ hb => hb.1⟩
        rcases g4 with ⟨_, h2⟩ | ⟨g, o, cur, hA, _⟩
        · exact h2
        · rw [e] at hA; cases hA
      have HKK := Lib.hid hkk
      clear HI hnl hnb hown hkk hnew hd ht
      go_wp2_with fail
      go_ret
      exact ⟨A1, k, c1, rfl, HFIN.out, HKK.out⟩
end
end Go.Proofs.Ytbdencfgiemliaa
