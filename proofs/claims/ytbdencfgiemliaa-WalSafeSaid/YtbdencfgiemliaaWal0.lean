/-
  The log's frames: contracts of framed and head: a new slice; nothing else turns.
-/
import Derived.Test.YtbdencfgiemliaaDisk8
namespace Go.Proofs.Ytbdencfgiemliaa
open Go.RowKit
/-- The frame of bytes. -/
def frameL (l : List UInt8) : List UInt8 := [UInt8.ofNat (l.length / 256), UInt8.ofNat l.length] ++ (stampL l ++ [1])
theorem frameL_len (l : List UInt8) : (frameL l).length = l.length + 5 := by
  unfold frameL stampL
  simp
set_option maxRecDepth 20000 in
set_option maxHeartbeats 400000 in
theorem framed_any (l : List UInt8) (F : Nat → Prop) (A : Option Addr) (n c : Nat) (w : World) (h : Sl w F A n c l) (hm : n ≤ 8192) :
    Calls Try.prog 64 #[.slice A n c] w fun e w' => ∃ A' c', e = .returned (.slice A' (n + 5) c') ∧ Own w' w.heap.size 5 A' (n + 5) c' ((frameL l).map bv) ∧ Keep0 w w' := by
  obtain ⟨i0, hi0, hz0, hz1, hz2⟩ := info_parts info5
  have hn := h.len
  have HH := Lib.hid h
  have HN := Lib.hid hn
  clear h hn
  have hl1 : (n : Int) / 256 % 256 = (n : Int) / 256 := by omega
  go_enter Try.func64, Try.ntmps64
  go_wp2_with fail
  refine (stamp_any l F A n c _ (HH.out.keep0 (Keep.alloc _ _)) (by omega)).mono ?_
  rintro e w1 ⟨A1, c1, rfl, hown1, hk1⟩
  have hlit : Own (w.alloc (.cells #[.int .u8 ((n : Int) / 256), .int .u8 ((n : Int) % 256)] 5)) w.heap.size 5 (some ⟨w.heap.size, 0, none⟩) 2 2 (([UInt8.ofNat (n / 256), UInt8.ofNat n] : List UInt8).map bv) := by
    have h1 := World.ownsRow_lit (base := w.heap.size) (e := 5) (size := 1) w #[.int .u8 ((n : Int) / 256), .int .u8 ((n : Int) % 256)] 2 (Nat.le_refl _) (by simp [maxLen]) rfl
    have e1 : ([UInt8.ofNat (n / 256), UInt8.ofNat n] : List UInt8).map bv = (#[.int .u8 ((n : Int) / 256), .int .u8 ((n : Int) % 256)] : Array Value).toList := by
      simp only [List.map_cons, List.map_nil, bv, UInt8.toNat_ofNat', Nat.reducePow]
      rw [Nat.mod_eq_of_lt (by omega)]
      rfl
    rw [e1]
    exact h1
  have hl1' : Own w1 w.heap.size 5 (some ⟨w.heap.size, 0, none⟩) 2 2 (([UInt8.ofNat (n / 256), UInt8.ofNat n] : List UInt8).map bv) := hlit.keep0 hk1
  have hk01 : Keep0 w w1 := (Keep.alloc w _).andThen hk1
  have hs1 := hk01.size
  clear hlit
  go_wp2_with (at_builtin; refine wpList_append_rd _ rfl (.tmp 11) (.tmp 13) _ rfl w.heap.size 5 i0 _ 1 1 Try.underlying22 hi0 hz0 hz1 hz2 rfl (by omega) (.slice (some ⟨w.heap.size, 0, none⟩) 2 2) 2 _ rfl hl1' (fun _ => True) A1 (n + 2) c1 ((stampL l).map bv) rfl ?qa ?qb (one_bv _) (by simp only [maxLen]; omega) (by omega) hs1 ?qc)
  case qa => simpa using hown1.len
  case qb => exact hown1.rd.mono fun _ _ _ => trivial
  case qc =>
    intro A2 c2 w2 hown2 hg2 _
    have hO2 : Own w2 w.heap.size 5 A2 (2 + (n + 2)) c2 (([UInt8.ofNat (n / 256), UInt8.ofNat n] ++ stampL l).map bv) := by
      unfold Own
      rw [List.map_append]
      exact hown2
    have hk2 : Keep0 w w2 := hk01.grown hg2 fun k hk => .inr (hl1'.row k hk).1
    have hs2 := hk2.size
    clear hown2 hg2
    go_wp2_with (at_builtin; refine wpList_append_rd _ rfl (.tmp 15) (.tmp 16) _ rfl w.heap.size 5 i0 _ 1 1 Try.underlying22 hi0 hz0 hz1 hz2 rfl (by omega) (.slice A2 (2 + (n + 2)) c2) (2 + (n + 2)) _ rfl (hO2.keep0 (Keep.alloc _ _)) (fun _ => True) (some ⟨w2.heap.size, 0, none⟩) 1 1 [.int .u8 1] rfl rfl (.inr ⟨_, _, rfl, trivial, fun j u hj => ?qz⟩) (by simp [Value.oneCell']) (by simp only [maxLen]; omega) (by omega) (by simp; omega) ?qd)
    case qz =>
      rw [(Blk.new w2 5 #[.int .u8 1]).cell]
      match j, hj with
      | 0, hj => simpa using hj
    case qd =>
      intro A3 c3 w3 hown3 hg3 _
      have e5 : 2 + (n + 2) + 1 = n + 5 := by omega
      rw [e5] at hown3 ⊢
      have hO3 : Own w3 w.heap.size 5 A3 (n + 5) c3 ((frameL l).map bv) := by
        unfold Own frameL
        rw [HN.out, ← List.append_assoc, List.map_append]
        exact hown3
      have hk3 : Keep0 w w3 := (hk2.alloc' _).grown hg3 fun k hk => .inr (hO2.row k hk).1
      clear hown3 hg3
      go_wp2
      go_ret
      exact ⟨A3, c3, rfl, hO3, hk3⟩
/-- The four bytes of a turn. -/
def turnL (t : Nat) : List UInt8 := [UInt8.ofNat (t / 16777216), UInt8.ofNat (t / 65536), UInt8.ofNat (t / 256), UInt8.ofNat t]
/-- A half's head. -/
def headL (t : Nat) : List UInt8 := turnL t ++ [165]
theorem bv_of (n : Nat) : bv (UInt8.ofNat n) = .int .u8 ((n : Int) % 256) := by
  simp only [bv, UInt8.toNat_ofNat', Nat.reducePow]
  rfl
theorem one_cell (w : World) (x : Value) (t : TypeId) : ∀ j u, [x][j]? = some u → (w.alloc (.cells #[x] t)).cell? ⟨w.heap.size, 0 + j, none⟩ = some u := by
  intro j u hj
  rw [(Blk.new w t #[x]).cell]
  match j, hj with
  | 0, hj => simpa using hj
theorem make_room (w : World) (m : Int) (k : Nat) (h : m = (k : Int)) (hk : k ≤ 65536) : ∃ w', (Instr.makeSlice 22 (.int .i64 0) (.int .i64 m)).run Try.prog w = .ok (.slice (some ⟨w.heap.size, 0, none⟩) 0 k) w' ∧
    Own w' w.heap.size 5 (some ⟨w.heap.size, 0, none⟩) 0 k [] ∧ Keep0 w w' := by
  subst h
  obtain ⟨i0, hi0, hz0, hz1, hz2⟩ := info_parts info5
  have hr := run_make (P := Try.prog) w 22 5 i0 (.int .u8 0) Try.underlying22 hi0 hz0 .i64 .i64 0 k (by omega) (by omega) (by rw [hz2]; omega) (by omega)
  simp only [Int.toNat_natCast, Int.toNat_zero] at hr
  refine ⟨_, hr, ?_, Keep.alloc w _⟩
  exact ⟨rfl, .inr ⟨w.heap.size, k, _, rfl, Nat.le_refl _, heap_alloc_new w _, Nat.zero_le _, by simp only [maxLen]; omega, by rw [hz1]; exact size_madeCells _ _, rfl⟩⟩
set_option maxRecDepth 20000 in
set_option maxHeartbeats 800000 in
theorem head_any (t : Nat) (w : World) :
    Calls Try.prog 73 #[.int .i64 (t : Int)] w fun e w' => ∃ A c, e = .returned (.slice A 5 c) ∧ Own w' w.heap.size 5 A 5 c ((headL t).map bv) ∧ Keep0 w w' := by
  obtain ⟨i0, hi0, hz0, hz1, hz2⟩ := info_parts info5
  obtain ⟨w0, hmk, hown0, hk0⟩ := make_room w 5 5 rfl (by omega)
  have HO := Lib.hid hown0
  have HK := Lib.hid hk0
  clear hown0 hk0
  go_enter Try.func73, Try.ntmps73
  go_wp2_with fail
  go_loopw [3, 4] (fun o i wr => ∃ (j c : Nat) (A : Option Addr), j ≤ 4 ∧ i = .int .i64 (3 - (j : Int)) ∧ o = .slice A j c ∧ Own wr w.heap.size 5 A j c (((turnL t).take j).map bv) ∧ Keep0 w wr) (fun _ i _ => (intOf i + 1).toNat)
  case atStart => exact ⟨0, _, _, Nat.zero_le _, rfl, rfl, HO.out, HK.out⟩
  case round =>
    obtain ⟨j, c, A, hj, rfl, rfl, hown, hk⟩ := hrel
    have hs := hk.size
    have HOW := Lib.hid hown
    have HKW := Lib.hid hk
    clear hown hk
    by_cases h4 : j < 4
    · obtain rfl | rfl | rfl | rfl : j = 0 ∨ j = 1 ∨ j = 2 ∨ j = 3 := by omega
      · go_wp2_with (at_builtin; refine wpList_append_rd _ rfl (.tmp 10) (.tmp 16) _ rfl w.heap.size 5 i0 _ 1 1 Try.underlying22 hi0 hz0 hz1 hz2 rfl (by omega) (.slice A 0 c) 0 _ rfl (HOW.out.keep0 (Keep.alloc _ _)) (fun _ => True) (some ⟨wr.heap.size, 0, none⟩) 1 1 [.int .u8 ((t : Int) / 16777216 % 256)] rfl rfl (.inr ⟨_, _, rfl, trivial, one_cell _ _ _⟩) (by simp [Value.oneCell']) (by simp [maxLen]) (by omega) (by simp; omega) ?qd)
        case qd =>
          intro A3 c3 w3 hown3 hg3 _
          have hO3 : Own w3 w.heap.size 5 A3 1 c3 (((turnL t).take 1).map bv) := by
            have e : (turnL t).take 1 = (turnL t).take 0 ++ [UInt8.ofNat (t / 16777216)] := rfl
            unfold Own
            rw [e, List.map_append, List.map_cons, List.map_nil, bv_of]
            exact hown3
          have hk3 : Keep0 w w3 := (HKW.out.alloc' _).grown hg3 fun k hk => .inr (HOW.out.row k hk).1
          have HO3 := Lib.hid hO3
          have HK3 := Lib.hid hk3
          clear hown3 hg3 hO3 hk3
          go_wp2_with fail
          go_roundw
          case rel => exact ⟨1, c3, A3, by omega, by simp, rfl, HO3.out, HK3.out⟩
          case measure => simp [intOf]
      · go_wp2_with (at_builtin; refine wpList_append_rd _ rfl (.tmp 10) (.tmp 16) _ rfl w.heap.size 5 i0 _ 1 1 Try.underlying22 hi0 hz0 hz1 hz2 rfl (by omega) (.slice A 1 c) 1 _ rfl (HOW.out.keep0 (Keep.alloc _ _)) (fun _ => True) (some ⟨wr.heap.size, 0, none⟩) 1 1 [.int .u8 ((t : Int) / 65536 % 256)] rfl rfl (.inr ⟨_, _, rfl, trivial, one_cell _ _ _⟩) (by simp [Value.oneCell']) (by simp [maxLen]) (by omega) (by simp; omega) ?qd)
        case qd =>
          intro A3 c3 w3 hown3 hg3 _
          have hO3 : Own w3 w.heap.size 5 A3 2 c3 (((turnL t).take 2).map bv) := by
            have e : (turnL t).take 2 = (turnL t).take 1 ++ [UInt8.ofNat (t / 65536)] := rfl
            unfold Own
            rw [e, List.map_append, List.map_cons, List.map_nil, bv_of]
            exact hown3
          have hk3 : Keep0 w w3 := (HKW.out.alloc' _).grown hg3 fun k hk => .inr (HOW.out.row k hk).1
          have HO3 := Lib.hid hO3
          have HK3 := Lib.hid hk3
          clear hown3 hg3 hO3 hk3
          go_wp2_with fail
          go_roundw
          case rel => exact ⟨2, c3, A3, by omega, by simp, rfl, HO3.out, HK3.out⟩
          case measure => simp [intOf]
      · go_wp2_with (at_builtin; refine wpList_append_rd _ rfl (.tmp 10) (.tmp 16) _ rfl w.heap.size 5 i0 _ 1 1 Try.underlying22 hi0 hz0 hz1 hz2 rfl (by omega) (.slice A 2 c) 2 _ rfl (HOW.out.keep0 (Keep.alloc _ _)) (fun _ => True) (some ⟨wr.heap.size, 0, none⟩) 1 1 [.int .u8 ((t : Int) / 256 % 256)] rfl rfl (.inr ⟨_, _, rfl, trivial, one_cell _ _ _⟩) (by simp [Value.oneCell']) (by simp [maxLen]) (by omega) (by simp; omega) ?qd)
        case qd =>
          intro A3 c3 w3 hown3 hg3 _
          have hO3 : Own w3 w.heap.size 5 A3 3 c3 (((turnL t).take 3).map bv) := by
            have e : (turnL t).take 3 = (turnL t).take 2 ++ [UInt8.ofNat (t / 256)] := rfl
            unfold Own
            rw [e, List.map_append, List.map_cons, List.map_nil, bv_of]
            exact hown3
          have hk3 : Keep0 w w3 := (HKW.out.alloc' _).grown hg3 fun k hk => .inr (HOW.out.row k hk).1
          have HO3 := Lib.hid hO3
          have HK3 := Lib.hid hk3
          clear hown3 hg3 hO3 hk3
          go_wp2_with fail
          go_roundw
          case rel => exact ⟨3, c3, A3, by omega, by simp, rfl, HO3.out, HK3.out⟩
          case measure => simp [intOf]
      · go_wp2_with (at_builtin; refine wpList_append_rd _ rfl (.tmp 10) (.tmp 16) _ rfl w.heap.size 5 i0 _ 1 1 Try.underlying22 hi0 hz0 hz1 hz2 rfl (by omega) (.slice A 3 c) 3 _ rfl (HOW.out.keep0 (Keep.alloc _ _)) (fun _ => True) (some ⟨wr.heap.size, 0, none⟩) 1 1 [.int .u8 ((t : Int) % 256)] rfl rfl (.inr ⟨_, _, rfl, trivial, one_cell _ _ _⟩) (by simp [Value.oneCell']) (by simp [maxLen]) (by omega) (by simp; omega) ?qd)
        case qd =>
          intro A3 c3 w3 hown3 hg3 _
          have hO3 : Own w3 w.heap.size 5 A3 4 c3 (((turnL t).take 4).map bv) := by
            have e : (turnL t).take 4 = (turnL t).take 3 ++ [UInt8.ofNat (t)] := rfl
            unfold Own
            rw [e, List.map_append, List.map_cons, List.map_nil, bv_of]
            exact hown3
          have hk3 : Keep0 w w3 := (HKW.out.alloc' _).grown hg3 fun k hk => .inr (HOW.out.row k hk).1
          have HO3 := Lib.hid hO3
          have HK3 := Lib.hid hk3
          clear hown3 hg3 hO3 hk3
          go_wp2_with fail
          go_roundw
          case rel => exact ⟨4, c3, A3, by omega, by simp, rfl, HO3.out, HK3.out⟩
          case measure => simp [intOf]
    · obtain rfl : j = 4 := by omega
      have e4 : (turnL t).take 4 = turnL t := rfl
      rw [e4] at HOW
      clear h4
      go_wp2_with (at_builtin; refine wpList_append_rd _ rfl (.tmp 18) (.tmp 19) _ rfl w.heap.size 5 i0 _ 1 1 Try.underlying22 hi0 hz0 hz1 hz2 rfl (by omega) (.slice A 4 c) 4 _ rfl (HOW.out.keep0 (Keep.alloc _ _)) (fun _ => True) (some ⟨wr.heap.size, 0, none⟩) 1 1 [.int .u8 165] rfl rfl (.inr ⟨_, _, rfl, trivial, one_cell _ _ _⟩) (by simp [Value.oneCell']) (by simp [maxLen]) (by omega) (by simp; omega) ?qd)
      case qd =>
        intro A3 c3 w3 hown3 hg3 _
        have hO3 : Own w3 w.heap.size 5 A3 5 c3 ((headL t).map bv) := by
          unfold Own headL
          rw [List.map_append]
          exact hown3
        have hk3 : Keep0 w w3 := (HKW.out.alloc' _).grown hg3 fun k hk => .inr (HOW.out.row k hk).1
        clear hown3 hg3
        go_wp2
        go_ret
        exact ⟨A3, c3, rfl, hO3, hk3⟩
end Go.Proofs.Ytbdencfgiemliaa
