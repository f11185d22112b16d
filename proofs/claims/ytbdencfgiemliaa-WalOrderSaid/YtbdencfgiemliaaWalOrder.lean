/-
  The walk of WalOrder: it returns true and changes nothing that was there; for a slice of slices that reads as bytes.
-/
import Derived.Test.YtbdencfgiemliaaWal24
import Derived.Test.YtbdencfgiemliaaLogP4
namespace Go.Proofs.Ytbdencfgiemliaa
open Go.RowKit
set_option linter.unusedVariables false
set_option linter.unusedSimpArgs false
section
variable {w0 w w' : World} {D G m : Nat} {s : DSt} {x : LSt} {X S : Nat → Prop}
/-- What stood there before lies beside them. -/
theorem OneL.old (h : OneL w0 w D G s x m X) : OneL w0 w D G s x m (fun b => X b ∨ b < w0.heap.size) := ⟨by
  obtain ⟨F, hd, hF⟩ := h.dl
  exact ⟨F, hd, fun b hb => ⟨(hF b hb).1, fun hx => by
    rcases hx with hx | hx
    · exact (hF b hb).2 hx
    · have := (hF b hb).1; omega⟩⟩, h.keep, fun b hb => by
  rcases hb with hb | hb
  · exact h.lt b hb
  · exact Nat.lt_of_lt_of_le hb h.keep.size⟩
/-- Something beside them has turned. -/
theorem OneL.touch (h : OneL w0 w D G s x m X) (hk : Keep S w w') (hS : ∀ b, S b → X b) (hk0 : Keep0 w0 w') : OneL w0 w' D G s x m (New X w w') := ⟨by
  obtain ⟨F, hd, hF⟩ := h.dl
  exact ⟨fun b => F b ∧ b < w.heap.size, (hd.mono fun b hb hf => ⟨hf, hb⟩).keep hk fun b hb hs => (hF b hb.1).2 (hS b hs), fun b hb => ⟨(hF b hb.1).1, fun hx => by
    rcases hx with hx | hx
    · exact (hF b hb.1).2 hx
    · have := hb.2; omega⟩⟩, hk0, fun b hb => by
  rcases hb with hb | hb
  · exact Nat.lt_of_lt_of_le (h.lt b hb) hk.size
  · exact hb.2⟩
end
set_option maxRecDepth 20000
set_option maxHeartbeats 4000000
theorem walOrder_walk (L : List (List UInt8)) (A : Option Addr) (n c : Nat) (w : World) (ha : BRows w (fun b => b < w.heap.size) A n c L) :
    Calls Try.prog 11 #[.slice A n c] w fun e w' => e = .returned (.bool true) ∧ Keep0 w w' := by
  obtain ⟨i22, hi0, hz0, hz1, hz2⟩ := info_parts info22
  have hmax : n ≤ maxLen := by obtain ⟨rows, _, _, h3, h4, _⟩ := ha; omega
  unfold maxLen at hmax
  have HA := Lib.hid ha
  clear ha
  by_cases h1 : 10 < n
  · go_enter Try.func11, Try.ntmps11
    go_wp2_with fail
    refine (small18 w).mono ?_
    rintro e w1 ⟨rfl, hk1⟩
    go_wp2_with fail
    go_ret
    exact ⟨rfl, hk1⟩
  have hn10 : n ≤ 10 := by omega
  go_enter Try.func11, Try.ntmps11
  go_wp2_with fail
  refine (small18 w).mono ?_
  rintro e w1 ⟨rfl, hk1⟩
  have HK1 := Lib.hid hk1
  clear hk1
  go_wp2_with fail
  refine (one_new 4000 w1).mono ?_
  rintro e w2 ⟨D, rfl, h2⟩
  rw [show newSize 4000 = 4000 by unfold newSize; omega] at h2
  have H2 := Lib.hid h2
  clear h2
  go_wp2_with fail
  refine (one_open (by omega) (by rw [show (DSt.new 4000).kept.length = 4000 from List.length_replicate]; omega) H2.out).mono ?_
  rintro e w3 ⟨⟨h0, -⟩ | ⟨-, G, rfl, h3⟩, -⟩
  · exact absurd (new_open (L := 4000) (by omega)).1 h0
  have h3' : ∃ (kk : List UInt8) (nn : Nat), kk.length = 4000 ∧ Half kk ⟨0, 1, 10, [], [], false⟩ (List.replicate nn 0) ∧ OneL w1 w3 D G (calm kk) ⟨0, 1, 10, [], [], false⟩ 8 (fun b => b < w1.heap.size) := by
    rw [(new_open (L := 4000) (by omega)).2.1, (new_open (L := 4000) (by omega)).2.2] at h3
    exact ⟨_, _, by rw [pokes_len, List.length_replicate], new_half (by omega) (by omega), h3.old.less fun b hb => .inr hb⟩
  have H3 := Lib.hid h3'
  clear h3 h3'
  go_wp2_with fail
  go_loopw [7, 8, 9, 10] (fun bs wt tu i wr => ∃ (j nn : Nat) (kk : List UInt8) (x : LSt) (X : Nat → Prop) (BA : Option Addr) (bn bc : Nat) (WA : Option Addr) (wn wc : Nat) (rows : List Row),
      j ≤ n ∧ i = .int .i64 j ∧ bs = .slice BA bn bc ∧ wt = .slice WA wn wc ∧ tu = .int .i64 x.turn ∧ (1 ≤ x.turn ∧ x.turn ≤ 1 + j) ∧ wn ≤ j ∧
      Hid (kk.length = 4000 ∧ Half kk x (List.replicate nn 0) ∧ OneL w1 wr D G (calm kk) x (8 + 8 * j) X ∧ (∀ b, b < w1.heap.size → X b) ∧ (∀ b, BlkOf WA b → X b) ∧ x.stop ≤ 12 + 105 * j ∧
        Sl w (fun b => b < w.heap.size) BA bn bc x.base ∧ Own wr w1.heap.size 22 WA wn wc (rows.map Row.val) ∧ rows.map Row.bytes = x.recs ∧ (∀ r ∈ rows, Sl w (fun b => b < w.heap.size) r.A r.n r.c r.bytes))) (fun _ _ _ i _ => n - (intOf i).toNat)
  case atStart =>
    obtain ⟨kk, nn, q1, q2, q3⟩ := H3.out
    exact ⟨0, nn, kk, _, _, none, 0, 0, none, 0, 0, [], Nat.zero_le _, rfl, rfl, rfl, rfl, ⟨by decide, by decide⟩, Nat.le_refl _, q1, q2, q3, fun b hb => hb, fun b hb => (by obtain ⟨a, ha, _⟩ := hb; cases ha), (by show 10 ≤ 12 + 105 * 0; omega), sl_nil _ _, own_nil _ _ _, rfl, by simp⟩
  case round =>
    obtain ⟨j, nn, kk, x, X, BA, bn, bc, WA, wn, wc, rows, hj, rfl, rfl, rfl, rfl, htu, hwn, HI⟩ := hrel
    by_cases hlt : j < n
    · obtain ⟨i1, i2, i3, i4, i5, i6, i7, i8, i9, i10⟩ := HI.out
      obtain ⟨ba, oa, Aj, nj, cj, rfl, hblt, hcell, hsj⟩ := HA.out.at_ hlt
      have hkw : Keep0 w wr := HK1.out.and0 i3.keep
      have hcj : wr.cell? ⟨ba, oa + j, none⟩ = some (.slice Aj nj cj) := hkw.cell_some hcell fun hb => hb
      obtain ⟨lj, hlj⟩ : ∃ lj, lj = L.getD j [] := ⟨_, rfl⟩
      rw [← hlj] at hsj
      have hnj := hsj.len
      have HSJ := Lib.hid hsj
      have HNJ := Lib.hid hnj
      have HCJ := Lib.hid hcj
      have HKW := Lib.hid hkw
      have HCL := Lib.hid hcell
      have hcapj := hsj.cap
      have hmaxj := hsj.max
      unfold maxLen at hmaxj
      clear hlj hsj hnj hkw hcell i1 i2 i3 i4 i5 i6 i7 i8 i9 i10 hblt
      by_cases h100 : 100 < nj
      · go_wp2_with fail
        go_ret
        exact ⟨rfl, HKW.out⟩
      by_cases h2' : nj ≤ 2
      · obtain ⟨i1, i2, i3, i4, i5, i6, i7, i8, i9, i10⟩ := HI.out
        have hh := i2.half
        have hbr := i2.ok
        have hk2 : kk.length / 2 = 2000 := by omega
        have hslX : Sl wr X Aj nj cj lj := (HSJ.out.keep0 HKW.out).mono fun b _ hb => i4 b (Nat.lt_of_lt_of_le hb HK1.out.size)
        have hcm := calm_compact (k := kk) (half := 1 - x.half) (turn := x.turn.toNat + 1) (l := lj) (by omega) (by omega) (by have := HNJ.out; omega)
        have hcall := one_compact lj Aj nj cj hslX (by omega) (by omega) (by show 48 ≤ kk.length; omega) ⟨by omega, by omega⟩ (by show nj + 10 ≤ kk.length / 2; omega) hbr i3
        have hnew := i2.compact lj (by have := HNJ.out; omega) (by have := HNJ.out; omega) (by omega)
        have HCALL := Lib.hid hcall
        have HCM := Lib.hid hcm
        have HNEW := Lib.hid hnew
        have HBR := Lib.hid hbr
        have HK2 := Lib.hid hk2
        have hxh : x.half ≤ 1 := hh
        clear i1 i2 i3 i4 i5 i6 i7 i8 i9 i10 hh hbr hk2 hslX hcm hcall hnew
        go_wp2_with fail
        refine HCALL.out.mono ?_
        rintro e w5 ⟨he, h5, hkX⟩
        have he' : e = .returned (.int .i64 0) := by rw [he]; exact ret_i HCM.out.1
        subst he'
        have h6 : OneL w1 w5 D G ((calm kk).steps (compactOps (kk.length / 2) (1 - x.half) (x.turn.toNat + 1) lj)) (pickL ((calm kk).stepsE (compactOps (kk.length / 2) (1 - x.half) (x.turn.toNat + 1) lj)) ⟨1 - x.half, ((x.turn.toNat + 1 : Nat) : Int), nj + 10, lj, [], x.broken⟩ { x with broken := true }) (8 + 8 * j + 8) X := h5
        rw [HCM.out.1, HCM.out.2, pickL_0, HBR.out] at h6
        have hcj5 : w5.cell? ⟨ba, oa + j, none⟩ = some (.slice Aj nj cj) := (HK1.out.and0 h6.keep).cell_some HCL.out fun hb => hb
        have H6 := Lib.hid h6
        clear he h5 hkX h6 hcj
        go_wp2_with fail
        go_roundw
        case rel =>
          obtain ⟨i1, i2, i3, i4, i5, i6, i7, i8, i9, i10⟩ := HI.out
          refine ⟨j + 1, kk.length / 2 - 10 - nj, _, ⟨1 - x.half, ((x.turn.toNat + 1 : Nat) : Int), nj + 10, lj, [], false⟩, X, Aj, nj, cj, none, 0, 0, [], by omega, by go_num, rfl, rfl, ?_, ⟨?_, ?_⟩, by omega, ⟨?_, ?_, H6.out, i4, fun b hb => (by obtain ⟨a, ha, _⟩ := hb; cases ha), ?_, HSJ.out, own_nil _ _ _, rfl, by simp⟩⟩
          · show Value.int .i64 (x.turn + 1) = .int .i64 ((x.turn.toNat + 1 : Nat) : Int)
            congr 1
            omega
          · show (1 : Int) ≤ ((x.turn.toNat + 1 : Nat) : Int); omega
          · show ((x.turn.toNat + 1 : Nat) : Int) ≤ 1 + ((j + 1 : Nat) : Int); omega
          · show (pokes kk _).length = 4000
            rw [pokes_len]; exact i1
          · have := HNEW.out
            rw [HNJ.out] at this
            exact this
          · show nj + 10 ≤ 12 + 105 * (j + 1); omega
        case measure => simp [intOf]; omega
      · obtain ⟨i1, i2, i3, i4, i5, i6, i7, i8, i9, i10⟩ := HI.out
        have hh := i2.half
        have hbr := i2.ok
        have hk2 : kk.length / 2 = 2000 := by omega
        have hrl : x.recs.length = wn := by have := i8.len; rw [← i9, List.length_map]; simpa using this
        have hslX : Sl wr X Aj nj cj lj := (HSJ.out.keep0 HKW.out).mono fun b _ hb => i4 b (Nat.lt_of_lt_of_le hb HK1.out.size)
        have hcm := calm_append (k := kk) (half := x.half) (stop := x.stop) (l := lj) hh (by have := HNJ.out; omega)
        have hcall := one_append lj Aj nj cj hslX (by omega) (by omega) (by show 48 ≤ kk.length; omega) (by omega) (by show x.stop + (nj + 5) ≤ kk.length / 2; omega) hbr i3
        have hnew := i2.append lj (by have := HNJ.out; omega) (by have := HNJ.out; omega)
        have HCALL := Lib.hid hcall
        have HCM := Lib.hid hcm
        have HNEW := Lib.hid hnew
        clear i1 i2 i3 i4 i5 i6 i7 i8 i9 i10 hh hbr hk2 hslX hcm hcall hnew hrl
        go_wp2_with fail
        refine HCALL.out.mono ?_
        rintro e w5 ⟨he, h5, hkX⟩
        have he' : e = .returned (.int .i64 0) := by rw [he]; exact ret_i HCM.out.1
        subst he'
        have h6 : OneL w1 w5 D G ((calm kk).steps (appendOps (kk.length / 2) x.half x.stop lj)) (pickL ((calm kk).stepsE (appendOps (kk.length / 2) x.half x.stop lj)) { x with stop := x.stop + (nj + 5), recs := x.recs ++ [lj] } { x with broken := true }) (8 + 8 * j + 2) X := h5
        rw [HCM.out.1, HCM.out.2, pickL_0] at h6
        have hcj5 : w5.cell? ⟨ba, oa + j, none⟩ = some (.slice Aj nj cj) := (HK1.out.and0 h6.keep).cell_some HCL.out fun hb => hb
        have hwo : Own w5 w1.heap.size 22 WA wn wc (rows.map Row.val) := ownsRow_keep HI.out.2.2.2.2.2.2.2.1 hkX fun g hg hx => hx (HI.out.2.2.2.2.1 g (ownBlk_of hg))
        have H6 := Lib.hid h6
        have HWO := Lib.hid hwo
        have hsz5 : w1.heap.size ≤ w5.heap.size := h6.keep.size
        clear he h5 hkX h6 hcj hwo
        go_wp2_with (at_builtin; refine wpList_append_rd _ rfl (.tmp 70) (.tmp 75) _ rfl w1.heap.size 22 i22 _ 1 24 Try.underlying62 hi0 hz0 hz1 hz2 rfl (by omega) (.slice WA wn wc) wn _ rfl (HWO.out.keep0 (Keep.alloc _ _)) (fun _ => True) (some ⟨w5.heap.size, 0, none⟩) 1 1 [.slice Aj nj cj] rfl rfl (.inr ⟨_, _, rfl, trivial, one_cell _ _ _⟩) (by simp [Value.oneCell']) (by simp only [maxLen]; omega) (by omega) (by simp; omega) ?qd)
        case qd =>
          intro A7 c7 w7 hown7 hg7 hat7
          have hO7 : Own w7 w1.heap.size 22 A7 (wn + 1) c7 ((rows ++ [(⟨Aj, nj, cj, lj⟩ : Row)]).map Row.val) := by
            unfold Own
            rw [List.map_append]
            exact hown7
          have hk57 : Keep (BlkOf WA) w5 w7 := ((Keep.alloc w5 (.cells #[.slice Aj nj cj] 22)).of0 _).andThen (Keep.ofGrown hg7 fun b hb => ownBlk_of hb)
          have hk17 : Keep0 w1 w7 := (H6.out.keep.alloc' _).grown hg7 fun b hb => .inr (HWO.out.row b hb).1
          have hlt7 := hO7.rw_.1.lt
          have hblk7 : ∀ b, BlkOf A7 b → New X w5 w7 b := by
            intro b hb
            rcases hat7 with e | e
            · have h1 := blkOf_own (n := wn + 1) (c := c7) hb
              rw [e] at h1
              exact .inl (HI.out.2.2.2.2.1 b (ownBlk_of h1))
            · have h1 := blkOf_own (n := wn + 1) (c := c7) hb
              rw [e] at h1
              injection h1 with h1
              have h8 : (w5.alloc (.cells #[.slice Aj nj cj] 22)).heap.size = w5.heap.size + 1 := by simp
              exact .inr ⟨by omega, hlt7 b hb⟩
          have h8 := H6.out.touch hk57 (fun b hb => HI.out.2.2.2.2.1 b hb) hk17
          have H8 := Lib.hid h8
          have HO7 := Lib.hid hO7
          have HB7 := Lib.hid hblk7
          clear hown7 hg7 hat7 hO7 hk57 hk17 hlt7 hblk7 h8 hcj5
          go_wp2_with fail
          go_roundw
          case rel =>
            obtain ⟨i1, i2, i3, i4, i5, i6, i7, i8, i9, i10⟩ := HI.out
            refine ⟨j + 1, nn - (nj + 5), _, { x with stop := x.stop + (nj + 5), recs := x.recs ++ [lj] }, New X w5 w7, BA, bn, bc, A7, wn + 1, c7, rows ++ [(⟨Aj, nj, cj, lj⟩ : Row)], by omega, by go_num, rfl, rfl, rfl, ⟨htu.1, by show x.turn ≤ 1 + ((j + 1 : Nat) : Int); omega⟩, by omega, ⟨?_, ?_, H8.out.more (by omega), fun b hb => .inl (i4 b hb), HB7.out, ?_, i7, HO7.out, ?_, ?_⟩⟩
            · show (pokes kk _).length = 4000
              rw [pokes_len]; exact i1
            · have := HNEW.out
              rw [HNJ.out] at this
              exact this
            · show x.stop + (nj + 5) ≤ 12 + 105 * (j + 1); omega
            · show (rows ++ [(⟨Aj, nj, cj, lj⟩ : Row)]).map Row.bytes = x.recs ++ [lj]
              rw [List.map_append, i9]; rfl
            · intro r hr
              rcases List.mem_append.1 hr with hr | hr
              · exact i10 r hr
              · rw [List.mem_singleton] at hr
                subst hr
                exact HSJ.out
          case measure => simp [intOf]; omega
    · obtain rfl : j = n := by omega
      obtain ⟨i1, i2, i3, i4, i5, i6, i7, i8, i9, i10⟩ := HI.out
      obtain ⟨Z, hz1', hz2', hz3'⟩ := i3.split
      obtain ⟨o1, o2, o3⟩ := i2.open_ (s := calm kk) rfl rfl rfl
      have hopen := one_open (by omega) (by show 48 ≤ kk.length; omega) hz1'
      rw [o2, o3] at hopen
      have hrl : x.recs.length = wn := by have := i8.len; rw [← i9, List.length_map]; simpa using this
      have hrc : x.recs.length ≤ 65536 := by omega
      obtain ⟨T, hT⟩ : ∃ T, T = strB x.base := ⟨_, rfl⟩
      have hconv : ∀ W, Keep0 w W → (convert 22 9 (.slice BA bn bc)).run Try.prog W = .ok (.string T) W := fun W hW => by
        rw [hT]; exact (i7.keep0 hW).str 22 5 9 Try.underlying22 Try.underlying5 Try.underlying9
      have hbr := i2.ok
      have HOPEN := Lib.hid hopen
      have HOE := Lib.hid o1
      have HLX := Lib.hid hz2'
      have HZX := Lib.hid hz3'
      have HRC := Lib.hid hrc
      have HT := Lib.hid hT
      have HCONV := Lib.hid hconv
      have HBR := Lib.hid hbr
      have HKL := Lib.hid i1
      have HW8 := Lib.hid i8
      have H5 := Lib.hid i5
      have H9 := Lib.hid i9
      have H10 := Lib.hid i10
      have HKR := Lib.hid i3.keep
      clear HI i1 i2 i3 i4 i5 i6 i7 i8 i9 i10 hz1' hz2' hz3' o1 o2 o3 hopen hrl hrc hT hconv hbr
      go_wp2_with fail
      refine HOPEN.out.mono ?_
      rintro e w10 ⟨⟨h0, -⟩ | ⟨-, G2, rfl, h10⟩, hkZ⟩
      · exact absurd HOE.out h0
      have hx := HLX.out.keep hkZ fun b hb hx => hx hb
      have hwo : Own w10 w1.heap.size 22 WA wn wc (rows.map Row.val) := ownsRow_keep HW8.out hkZ fun g hg hx => hx (HZX.out g (H5.out g (ownBlk_of hg)))
      have hk10 : Keep0 w w10 := HK1.out.and0 h10.keep
      have hw : BRows w10 (fun _ => True) WA wn wc x.recs := by
        obtain ⟨g1, g2, g3, g4⟩ := hwo.rw_.1
        refine ⟨rows, H9.out, by simpa using g1, g2, g3, fun e => ?_, hwo.rd.mono fun _ _ _ => trivial, fun r hr => ((H10.out r hr).keep0 hk10).mono fun _ _ _ => trivial⟩
        rcases g4 with ⟨_, h2⟩ | ⟨g, o, cur, hA, _⟩
        · exact h2
        · rw [e] at hA; cases hA
      obtain ⟨FD, hd⟩ := h10.dsk
      obtain ⟨FY, hy⟩ := h10.log
      have HX := Lib.hid hx
      have HW := Lib.hid hw
      have HD := Lib.hid hd
      have HY := Lib.hid hy
      have HK10 := Lib.hid hk10
      clear h10 hkZ hx hwo hk10 hw hd hy
      go_wp2_with fail
      · have hk0 : Keep0 w10 w10.drew := Keep.drew w10
        have hkS : ∀ W, Keep0 w10 W → (Keep0 w10 W ∧ (convert 22 9 (.slice BA bn bc)).run Try.prog W = .ok (.string T) W) := fun W hW => ⟨hW, HCONV.out W (HK10.out.and0 hW)⟩
        refine wp_region_held_drew (S := fun W => Keep0 w10 W ∧ (convert 22 9 (.slice BA bn bc)).run Try.prog W = .ok (.string T) W) (by kernel_rfl) (hkS _ hk0) (fun hHeld => ?_)
        refine wpAnyH_take (i := 0) (oi := ⟨_, _, _, _, _, _⟩) (v := ?_) rfl (by kernel_rfl) (by kernel_rfl) (by kernel_rfl) (fun _ _ _ h => h) (Or.inl ⟨by rfl, ?_⟩) (by assumption) ?_
        rotate_left
        · intro W hSw; (try dsimp only at hSw); go_simp; try with_reducible rfl
        try simp only [Act.put, List.setIfInBounds_toArray, List.set_cons_zero, List.set_cons_succ]
        refine wpAnyH_take (i := 3) (oi := ⟨_, _, _, _, _, _⟩) (v := ?_) rfl (by kernel_rfl) (by kernel_rfl) (by kernel_rfl) (fun _ _ _ h => h) (Or.inl ⟨by rfl, ?_⟩) (by assumption) ?_
        rotate_left
        · intro W hSw; (try dsimp only at hSw); go_simp; try with_reducible rfl
        try simp only [Act.put, List.setIfInBounds_toArray, List.set_cons_zero, List.set_cons_succ]
        refine wpAnyH_take (i := 4) (oi := ⟨_, _, _, _, _, _⟩) (v := ?_) rfl (by kernel_rfl) (by kernel_rfl) (by kernel_rfl) (fun _ _ _ h => h) (Or.inl ⟨by rfl, ?_⟩) (by assumption) ?_
        rotate_left
        · intro W hSw; (try dsimp only at hSw); go_simp; try with_reducible rfl
        try simp only [Act.put, List.setIfInBounds_toArray, List.set_cons_zero, List.set_cons_succ]
        refine wpAnyH_ready (rs := [1]) (by kernel_rfl) (by simp) ?_
        refine AllReadyH.cons (o := ⟨_, _, _, _, _, _⟩) rfl (fun K hK => ?_) AllReadyH.nil
        go_simp
        refine (HX.out.keep0 hk0).base_.mono ?_
        rintro e w11 ⟨A11, n11, c11, rfl, ho11, hk11⟩
        have hst := ho11.sl.str (P := Try.prog) 22 5 9 Try.underlying22 Try.underlying5 Try.underlying9
        rw [← HT.out] at hst
        have HK11 := Lib.hid (hk0.and0 hk11)
        clear ho11 hk11
        refine hK.out _ _ ?_ (fun hHeld => ?_)
        · exact hkS _ HK11.out
        clear hK K
        try simp only [Act.put, List.setIfInBounds_toArray, List.set_cons_zero, List.set_cons_succ]
        refine wpAnyH_ready (rs := [2]) (by kernel_rfl) (by simp) ?_
        refine AllReadyH.cons (o := ⟨_, _, _, _, _, _⟩) rfl (fun K hK => ?_) AllReadyH.nil
        go_simp
        refine hK.out _ _ ?_ (fun hHeld => ?_)
        · exact hkS _ HK11.out
        clear hK K
        try simp only [Act.put, List.setIfInBounds_toArray, List.set_cons_zero, List.set_cons_succ]
        clear hst
        refine wpAnyH_take (i := 5) (oi := ⟨_, _, _, _, _, _⟩) (v := ?_) rfl (by kernel_rfl) (by kernel_rfl) (by kernel_rfl) (fun _ _ _ h => h) (Or.inl ⟨by rfl, ?_⟩) (by assumption) ?_
        rotate_left
        · intro W hSw; (try dsimp only at hSw); go_simp; try with_reducible rfl
        try simp only [Act.put, List.setIfInBounds_toArray, List.set_cons_zero, List.set_cons_succ]
        refine wpAnyH_take (i := 6) (oi := ⟨_, _, _, _, _, _⟩) (v := ?_) rfl (by kernel_rfl) (by kernel_rfl) (by kernel_rfl) (fun _ _ _ h => h) (Or.inl ⟨by rfl, ?_⟩) (by assumption) ?_
        rotate_left
        · intro W hSw; (try dsimp only at hSw); go_simp; try with_reducible rfl
        try simp only [Act.put, List.setIfInBounds_toArray, List.set_cons_zero, List.set_cons_succ]
        refine wpAnyH_take (i := 7) (oi := ⟨_, _, _, _, _, _⟩) (v := ?_) rfl (by kernel_rfl) (by kernel_rfl) (by kernel_rfl) (fun _ _ _ h => h) (Or.inl ⟨by rfl, ?_⟩) (by assumption) ?_
        rotate_left
        · intro W hSw; (try dsimp only at hSw); go_simp; try with_reducible rfl
        try simp only [Act.put, List.setIfInBounds_toArray, List.set_cons_zero, List.set_cons_succ]
        refine wpAnyH_take (i := 9) (oi := ⟨_, _, _, _, _, _⟩) (v := ?_) rfl (by kernel_rfl) (by kernel_rfl) (by kernel_rfl) (fun _ _ _ h => h) (Or.inl ⟨by rfl, ?_⟩) (by assumption) ?_
        rotate_left
        · intro W hSw; (try dsimp only at hSw); go_simp; try with_reducible rfl
        try simp only [Act.put, List.setIfInBounds_toArray, List.set_cons_zero, List.set_cons_succ]
        refine wpAnyH_ready (rs := [8]) (by kernel_rfl) (by simp) ?_
        refine AllReadyH.cons (o := ⟨_, _, _, _, _, _⟩) rfl (fun K hK => ?_) AllReadyH.nil
        go_simp
        refine (records_any HRC.out (HX.out.keep0 HK11.out)).mono ?_
        rintro e w12 ⟨A12, n12, c12, rfl, hr12, hk12⟩
        have HR12 := Lib.hid hr12
        have HK12 := Lib.hid (HK11.out.and0 hk12)
        clear hr12 hk12
        refine hK.out _ _ ?_ (fun hHeld => ?_)
        · exact hkS _ HK12.out
        clear hK K
        try simp only [Act.put, List.setIfInBounds_toArray, List.set_cons_zero, List.set_cons_succ]
        refine wpAnyH_ready (rs := [10]) (by kernel_rfl) (by simp) ?_
        refine AllReadyH.cons (o := ⟨_, _, _, _, _, _⟩) rfl (fun K hK => ?_) AllReadyH.nil
        go_simp
        refine (rows_any x.recs x.recs A12 WA n12 c12 wn wc HR12.out (HW.out.keep0 HK12.out)).mono ?_
        rintro e w13 ⟨rfl, hk13⟩
        have HK13 := Lib.hid (HK12.out.and0 hk13)
        rw [decide_eq_true (rfl : x.recs = x.recs)]
        clear hk13
        refine hK.out _ _ ?_ (fun hHeld => ?_)
        · exact hkS _ HK13.out
        clear hK K
        try simp only [Act.put, List.setIfInBounds_toArray, List.set_cons_zero, List.set_cons_succ]
        refine wpAnyH_take (i := 11) (oi := ⟨_, _, _, _, _, _⟩) (v := ?_) rfl (by kernel_rfl) (by kernel_rfl) (by kernel_rfl) (fun _ _ _ h => h) (Or.inl ⟨by rfl, ?_⟩) (by assumption) ?_
        rotate_left
        · intro W hSw; (try dsimp only at hSw); go_simp; try with_reducible rfl
        try simp only [Act.put, List.setIfInBounds_toArray, List.set_cons_zero, List.set_cons_succ]
        refine wpAnyH_take (i := 12) (oi := ⟨_, _, _, _, _, _⟩) (v := ?_) rfl (by kernel_rfl) (by kernel_rfl) (by kernel_rfl) (fun _ _ _ h => h) (Or.inl ⟨by rfl, ?_⟩) (by assumption) ?_
        rotate_left
        · intro W hSw; (try dsimp only at hSw); go_simp; try with_reducible rfl
        try simp only [Act.put, List.setIfInBounds_toArray, List.set_cons_zero, List.set_cons_succ]
        refine wpAnyH_take (i := 13) (oi := ⟨_, _, _, _, _, _⟩) (v := ?_) rfl (by kernel_rfl) (by kernel_rfl) (by kernel_rfl) (fun _ _ _ h => h) (Or.inl ⟨by rfl, ?_⟩) (by assumption) ?_
        rotate_left
        · intro W hSw; (try dsimp only at hSw); go_simp; try with_reducible rfl
        try simp only [Act.put, List.setIfInBounds_toArray, List.set_cons_zero, List.set_cons_succ]
        refine wpAnyH_take (i := 15) (oi := ⟨_, _, _, _, _, _⟩) (v := ?_) rfl (by kernel_rfl) (by kernel_rfl) (by kernel_rfl) (fun _ _ _ h => h) (Or.inl ⟨by rfl, ?_⟩) (by assumption) ?_
        rotate_left
        · intro W hSw; (try dsimp only at hSw); go_simp; try with_reducible rfl
        try simp only [Act.put, List.setIfInBounds_toArray, List.set_cons_zero, List.set_cons_succ]
        refine wpAnyH_ready (rs := [14]) (by kernel_rfl) (by simp) ?_
        refine AllReadyH.cons (o := ⟨_, _, _, _, _, _⟩) rfl (fun K hK => ?_) AllReadyH.nil
        go_simp
        refine (HX.out.keep0 HK13.out).turn_.mono ?_
        rintro e w13' ⟨rfl, rfl⟩
        refine hK.out _ _ ?_ (fun hHeld => ?_)
        · exact hkS _ HK13.out
        clear hK K
        try simp only [Act.put, List.setIfInBounds_toArray, List.set_cons_zero, List.set_cons_succ]
        refine wpAnyH_take (i := 16) (oi := ⟨_, _, _, _, _, _⟩) (v := ?_) rfl (by kernel_rfl) (by kernel_rfl) (by kernel_rfl) (fun _ _ _ h => h) (Or.inl ⟨by rfl, ?_⟩) (by assumption) ?_
        rotate_left
        · intro W hSw; (try dsimp only at hSw); go_simp; try with_reducible rfl
        try simp only [Act.put, List.setIfInBounds_toArray, List.set_cons_zero, List.set_cons_succ]
        refine wpAnyH_take (i := 17) (oi := ⟨_, _, _, _, _, _⟩) (v := ?_) rfl (by kernel_rfl) (by kernel_rfl) (by kernel_rfl) (fun _ _ _ h => h) (Or.inl ⟨by rfl, ?_⟩) (by assumption) ?_
        rotate_left
        · intro W hSw; (try dsimp only at hSw); go_simp; try with_reducible rfl
        try simp only [Act.put, List.setIfInBounds_toArray, List.set_cons_zero, List.set_cons_succ]
        refine wpAnyH_take (i := 18) (oi := ⟨_, _, _, _, _, _⟩) (v := ?_) rfl (by kernel_rfl) (by kernel_rfl) (by kernel_rfl) (fun _ _ _ h => h) (Or.inl ⟨by rfl, ?_⟩) (by assumption) ?_
        rotate_left
        · intro W hSw; (try dsimp only at hSw); go_simp; try with_reducible rfl
        try simp only [Act.put, List.setIfInBounds_toArray, List.set_cons_zero, List.set_cons_succ]
        refine wpAnyH_done (by kernel_rfl) ?_ _
        clear hk0 hkS hHeld
        obtain ⟨tt, htt⟩ : ∃ tt, tt = x.turn := ⟨_, rfl⟩
        rw [← htt]
        have HTT := Lib.hid htt
        clear htt
        go_wp2_with fail
        refine (told_any HRC.out (HX.out.keep0 HK13.out)).mono ?_
        rintro e w14 ⟨rfl, hk14⟩
        have HK14 := Lib.hid (HK13.out.and0 hk14)
        clear hk14
        go_wp2_with fail
        refine (told_any HRC.out (HY.out.keep0 HK14.out)).mono ?_
        rintro e w15 ⟨rfl, hk15⟩
        have HK15 := Lib.hid (HK14.out.and0 hk15)
        clear hk15
        generalize strB x.told = U
        go_wp2_with fail
        refine (HY.out.keep0 HK15.out).turn_.mono ?_
        rintro e w15' ⟨rfl, rfl⟩
        rw [← HTT.out]
        go_wp2_with fail
        obtain ⟨rr, hrr⟩ : ∃ rr : Int, rr = (((calm kk).kept.length / 2 : Nat) : Int) - (x.stop : Int) := ⟨_, rfl⟩
        have HRR := Lib.hid hrr
        clear hrr
        refine (LRep.room (HD.out.keep0 HK15.out) (HX.out.keep0 HK15.out)).mono ?_
        rintro e w16 ⟨he, hk16⟩
        have he' : e = .returned (.int .i64 rr) := by rw [he]; exact ret_i HRR.out.symm
        subst he'
        have HK16 := Lib.hid (HK15.out.and0 hk16)
        clear hk16 he
        go_wp2_with fail
        refine (LRep.room (HD.out.keep0 HK16.out) (HY.out.keep0 HK16.out)).mono ?_
        rintro e w17 ⟨he, hk17⟩
        have he' : e = .returned (.int .i64 rr) := by rw [he]; exact ret_i HRR.out.symm
        subst he'
        have HK17 := Lib.hid (HK16.out.and0 hk17)
        clear hk17 he
        go_wp2_with fail
        refine (HY.out.keep0 HK17.out).broken_.mono ?_
        rintro e w17' ⟨rfl, rfl⟩
        rw [HBR.out]
        go_wp2_with fail
        go_ret
        exact ⟨rfl, HK10.out.and0 HK17.out⟩
end Go.Proofs.Ytbdencfgiemliaa
