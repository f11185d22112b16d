/-
  Contracts of the reference's Stamp and Whole: the same plain functions; for slices of at most 2^47 bytes.
-/
import Derived.Test.YtbdencfgiemliaaSum3
import Derived.Test.YtbdencfgiemliaaSumLaw
namespace Go.Proofs.Ytbdencfgiemliaa
open Go.RowKit
set_option maxRecDepth 20000 in
set_option maxHeartbeats 400000 in
theorem rstamp_any (l : List UInt8) (F : Nat → Prop) (A : Option Addr) (n c : Nat) (w : World) (h : Sl w F A n c l) (hm : n ≤ 140737488355320) :
    Calls Try.prog 18 #[.slice A n c] w fun e w' => ∃ A' c', e = .returned (.slice A' (n + 2) c') ∧ Own w' w.heap.size 5 A' (n + 2) c' ((stampL l).map bv) ∧ Keep0 w w' := by
  obtain ⟨i0, hi0, hz0, hz1, hz2⟩ := info_parts info5
  have HH := Lib.hid h
  clear h
  go_enter Try.func18, Try.ntmps18
  go_wp2_with fail
  refine (rsum_any l F A n c w HH.out).mono ?_
  rintro e w' ⟨rfl, rfl⟩
  obtain ⟨q, hq⟩ : ∃ q, q = crc l := ⟨_, rfl⟩
  rw [← hq]
  have HQ := Lib.hid hq
  clear hq
  have hl : (q.toNat : Int) ≤ 65535 := by have := q.isLt; omega
  go_wp2_with (at_builtin; refine wpList_append_rd _ rfl (.tmp 6) (.tmp 7) _ rfl w.heap.size 5 i0 _ 1 1 Try.underlying22 hi0 hz0 hz1 hz2 rfl (by omega) (.slice (some ⟨w.heap.size, 0, none⟩) 0 0) 0 [] rfl (World.ownsRow_made w _ 0 (Nat.le_refl _) (Nat.zero_le _) rfl) F A n c (l.map bv) rfl ?qa ?qb (one_bv l) (by simp only [maxLen]; omega) (by omega) (by simp) ?qc)
  case qa => simpa using HH.out.len
  case qb => exact HH.out.rd.keep0 (Keep.alloc _ _)
  case qc =>
    intro A1 c1 w1 hown1 hg1 _
    have hO1 : Own w1 w.heap.size 5 A1 n c1 (l.map bv) := by unfold Own; simpa using hown1
    have hk1 : Keep0 w w1 := ((Keep.refl _ _).alloc' _).grown hg1 (by simp [Value.ownBlock])
    have hs1 := hk1.size
    clear hown1 hg1
    go_wp2_with (at_builtin; refine wpList_append_rd _ rfl (.tmp 8) (.tmp 14) _ rfl w.heap.size 5 i0 _ 1 1 Try.underlying22 hi0 hz0 hz1 hz2 rfl (by omega) (.slice A1 n c1) n (l.map bv) rfl (hO1.keep0 (Keep.alloc _ _)) (fun _ => True) (some ⟨w1.heap.size, 0, none⟩) 2 2 [.int .u8 ((q.toNat : Int) / 256), .int .u8 ((q.toNat : Int) % 256)] rfl rfl (.inr ⟨_, _, rfl, trivial, two_cells _ _ _ _⟩) (by simp [Value.oneCell']) (by simp only [maxLen]; omega) (by omega) (by simp; omega) ?qd)
    case qd =>
      intro A' c' w' hown hg _
      have hO : Own w' w.heap.size 5 A' (n + 2) c' ((stampL l).map bv) := by
        unfold Own stampL
        rw [← HQ.out, List.map_append, List.map_cons, List.map_cons, List.map_nil, hi8_v, lo8_v]
        exact hown
      have hK : Keep0 w w' := (hk1.alloc' _).grown hg fun k hk => .inr (hO1.row k hk).1
      clear hown hg
      go_wp2
      go_ret
      exact ⟨A', c', rfl, hO, hK⟩
theorem split2 (l : List UInt8) (h : 2 ≤ l.length) : ∃ p x y, l = p ++ [x, y] ∧ p.length = l.length - 2 := by
  refine ⟨l.take (l.length - 2), l[l.length - 2], l[l.length - 1], ?_, by rw [List.length_take]; omega⟩
  have h1 := List.take_append_drop (l.length - 2) l
  rw [List.drop_eq_getElem_cons (by omega), List.drop_eq_getElem_cons (by omega), List.drop_of_length_le (by omega)] at h1
  have e : l.length - 2 + 1 = l.length - 1 := by omega
  simp only [e] at h1
  exact h1.symm
theorem eqb_u8 (a b : Int) (h : a = b) : (a == b) = true ∧ (a != b) = false := by subst h; simp
theorem neb_u8 (a b : Int) (h : a ≠ b) : (a == b) = false ∧ (a != b) = true := by simp [h]
theorem whole_pair (p : List UInt8) (x y : UInt8) : isWhole (p ++ [x, y]) = (decide (x.toNat = (crc p).toNat / 256) && decide (y.toNat = (crc p).toNat % 256)) := by
  have h2 : decide (2 ≤ (p ++ [x, y]).length) = true := by simp
  unfold isWhole
  rw [h2, Bool.true_and, ← Bool.decide_and]
  apply decide_eq_decide.2
  rw [← crc_two p x y]
  constructor
  · intro h; exact BitVec.eq_of_toNat_eq h
  · intro h; rw [h]; rfl
theorem whole_take (p : List UInt8) (x y : UInt8) : (p ++ [x, y]).take ((p ++ [x, y]).length - 2) = p := by simp
set_option maxRecDepth 20000 in
set_option maxHeartbeats 400000 in
theorem rwhole_any (l : List UInt8) (F : Nat → Prop) (A : Option Addr) (n c : Nat) (w : World) (h : Sl w F A n c l) (hm : n ≤ 140737488355320) :
    Calls Try.prog 16 #[.slice A n c] w fun e w' => ∃ A' n' c', e = .returned (.tuple #[.slice A' n' c', .bool (isWhole l)]) ∧ Own w' w.heap.size 5 A' n' c' ((wholeL l).map bv) ∧ Keep0 w w' := by
  obtain ⟨i0, hi0, hz0, hz1, hz2⟩ := info_parts info5
  have hn := h.len
  by_cases h2 : n < 2
  · obtain ⟨e1, e2⟩ := isWhole_no (l := l) (.inl (by omega))
    rw [e1, e2]
    clear e1 e2 h hn
    go_enter Try.func16, Try.ntmps16
    go_wp2
    go_ret2
    exact ⟨none, 0, 0, rfl, own_nil _ _ _, Keep.refl _ _⟩
  · have hc := h.cap
    obtain ⟨p, x, y, rfl, _⟩ := split2 l (by omega)
    obtain ⟨k, hk⟩ : ∃ k, k = p.length := ⟨_, rfl⟩
    obtain rfl : n = k + 2 := by rw [← hn, hk]; simp
    have hs := h.take k (by omega)
    rw [hk, List.take_left] at hs
    rw [← hk] at hs
    obtain ⟨b, o, rfl, hxy⟩ : ∃ b o, A = some ⟨b, o, none⟩ ∧ ∀ j u, ((p ++ [x, y]).map bv)[j]? = some u → w.cell? ⟨b, o + j, none⟩ = some u := by
      rcases h.rd with h0 | ⟨b, o, hA, _, hc⟩
      · simp at h0
      · exact ⟨b, o, hA, hc⟩
    have hx := hxy k (bv x) (by rw [hk]; simp)
    have hy := hxy (k + 1) (bv y) (by rw [hk]; simp)
    unfold bv at hx hy
    rw [whole_pair, wholeL, whole_pair, whole_take]
    have HP : Hid (p.length = k) := hk.symm
    have HS := Lib.hid hs
    clear h hxy hs hn hk h2
    have hkk : ((k : Int) + 2 - 2) = (k : Int) := by omega
    obtain ⟨q, hq⟩ : ∃ q, q = crc p := ⟨_, rfl⟩
    rw [← hq]
    have HQ := Lib.hid hq
    clear hq
    have hl : (q.toNat : Int) ≤ 65535 := by have := q.isLt; omega
    by_cases h1 : (x.toNat : Int) = (q.toNat : Int) / 256
    · have h1' : x.toNat = q.toNat / 256 := by omega
      by_cases h3 : (y.toNat : Int) = (q.toNat : Int) % 256
      · have h3' : y.toNat = q.toNat % 256 := by omega
        rw [decide_eq_true h1', decide_eq_true h3', Bool.true_and, if_pos rfl]
        obtain ⟨ea, eb⟩ := eqb_u8 _ _ h1
        obtain ⟨ec, ed⟩ := eqb_u8 _ _ h3
        clear h1 h1' h3 h3'
        go_enter Try.func16, Try.ntmps16
        go_wp2_with fail
        refine (rsum_any p F _ k c w HS.out).mono ?_
        rintro e w' ⟨rfl, rfl⟩
        rw [← HQ.out]
        go_wp2_with (at_builtin; refine wpList_append_rd _ rfl (.tmp 33) (.tmp 36) _ rfl w.heap.size 5 i0 _ 1 1 Try.underlying22 hi0 hz0 hz1 hz2 rfl (by omega) (.slice (some ⟨w.heap.size, 0, none⟩) 0 0) 0 [] rfl (World.ownsRow_made w _ 0 (Nat.le_refl _) (Nat.zero_le _) rfl) F (some ⟨b, o, none⟩) k c (p.map bv) rfl ?qa ?qb (one_bv p) (by simp only [maxLen]; omega) (by omega) (by simp) ?qc)
        case qa => simpa using HP.out
        case qb => exact HS.out.rd.keep0 (Keep.alloc _ _)
        case qc =>
          intro A1 c1 w1 hown1 hg1 _
          have hO1 : Own w1 w.heap.size 5 A1 k c1 (p.map bv) := by unfold Own; simpa using hown1
          have hk1 : Keep0 w w1 := ((Keep.refl _ _).alloc' _).grown hg1 (by simp [Value.ownBlock])
          clear hown1 hg1
          go_wp2
          go_ret2
          exact ⟨A1, k, c1, rfl, hO1, hk1⟩
      · have h3' : y.toNat ≠ q.toNat % 256 := by omega
        rw [decide_eq_true h1', decide_eq_false h3', Bool.true_and, if_neg (by simp)]
        obtain ⟨ea, eb⟩ := eqb_u8 _ _ h1
        obtain ⟨ec, ed⟩ := neb_u8 _ _ h3
        clear h1 h1' h3 h3'
        go_enter Try.func16, Try.ntmps16
        go_wp2_with fail
        refine (rsum_any p F _ k c w HS.out).mono ?_
        rintro e w' ⟨rfl, rfl⟩
        rw [← HQ.out]
        go_wp2
        go_ret2
        exact ⟨none, 0, 0, rfl, own_nil _ _ _, Keep.refl _ _⟩
    · have h1' : x.toNat ≠ q.toNat / 256 := by omega
      rw [decide_eq_false h1', Bool.false_and, if_neg (by simp)]
      obtain ⟨ea, eb⟩ := neb_u8 _ _ h1
      clear h1 h1'
      go_enter Try.func16, Try.ntmps16
      go_wp2_with fail
      refine (rsum_any p F _ k c w HS.out).mono ?_
      rintro e w' ⟨rfl, rfl⟩
      rw [← HQ.out]
      go_wp2
      go_ret2
      exact ⟨none, 0, 0, rfl, own_nil _ _ _, Keep.refl _ _⟩
end Go.Proofs.Ytbdencfgiemliaa
