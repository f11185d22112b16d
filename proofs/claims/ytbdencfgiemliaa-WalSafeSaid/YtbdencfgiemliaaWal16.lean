/-
  Open: what the plain disk says, and the log that it hands back. Condition: the disk lies so in memory, and its count of pending writes is below 2^30.
-/
import Derived.Test.YtbdencfgiemliaaWal15
namespace Go.Proofs.Ytbdencfgiemliaa
open Go.RowKit
set_option linter.unusedVariables false
set_option linter.unusedSimpArgs false
/-- Something that does not count stands behind the frames. -/
def tornL (b : List UInt8) : Bool := (framesOf b).2.any fun x => x != 0
/-- The log that a half's bytes tell. -/
def DSt.logOf (s : DSt) (half : Nat) (turn : Int) (b : List UInt8) : LSt := ⟨half, turn, s.kept.length / 2 - (framesOf b).2.length, (framesOf b).1.headD [], (framesOf b).1.tail, false⟩
/-- The log that Open hands back. -/
def DSt.openL (s : DSt) : LSt :=
  match (s.findK 2).2.2 with
  | none => ⟨0, 1, 10, [], [], false⟩
  | some b => s.logOf (s.findK 2).1 (s.findK 2).2.1 b
/-- The steps that Open makes. -/
def DSt.openOps (s : DSt) : List DOp :=
  match (s.findK 2).2.2 with
  | none => compactOps (s.kept.length / 2) 0 1 []
  | some b => if tornL b = true then clearOps (s.kept.length / 2) s.openL.half s.openL.stop (min (s.openL.stop + 2) (s.kept.length / 2)) else []
def DSt.openE (s : DSt) : Int := if s.down then 15 else s.stepsE s.openOps
def DSt.openD (s : DSt) : DSt := if s.down then s else s.steps s.openOps
theorem DSt.openL_none (s : DSt) (h : (s.findK 2).2.2 = none) : s.openL = ⟨0, 1, 10, [], [], false⟩ ∧ s.openOps = compactOps (s.kept.length / 2) 0 1 [] := by
  unfold DSt.openOps DSt.openL
  rw [h]
  exact ⟨rfl, rfl⟩
theorem DSt.openL_some (s : DSt) (b : List UInt8) (h : (s.findK 2).2.2 = some b) : s.openL = s.logOf (s.findK 2).1 (s.findK 2).2.1 b ∧ (tornL b = true → s.openOps = clearOps (s.kept.length / 2) s.openL.half s.openL.stop (min (s.openL.stop + 2) (s.kept.length / 2))) ∧ (tornL b = false → s.openOps = []) := by
  unfold DSt.openOps DSt.openL
  rw [h]
  exact ⟨rfl, fun ht => if_pos ht, fun ht => if_neg (by rw [ht]; decide)⟩
theorem DSt.openE_down (s : DSt) (h : s.down = true) : s.openE = 15 ∧ s.openD = s := by
  unfold DSt.openE DSt.openD
  rw [if_pos h, if_pos h]
  exact ⟨rfl, rfl⟩
theorem DSt.openE_up (s : DSt) (h : s.down = false) : s.openE = s.stepsE s.openOps ∧ s.openD = s.steps s.openOps := by
  unfold DSt.openE DSt.openD
  rw [if_neg (by rw [h]; decide), if_neg (by rw [h]; decide)]
  exact ⟨rfl, rfl⟩
/-- What Open hands back and leaves. -/
def Opened (w : World) (D : Nat) (s : DSt) (m : Nat) (F : Nat → Prop) (e : Ending) (w' : World) : Prop :=
  (s.openE ≠ 0 ∧ e = .returned (.tuple #[.pointer none, .int .i64 s.openE]) ∧ Dsk w' D s.openD (m + 8) (Ext F w w')) ∨
  (s.openE = 0 ∧ ∃ G, e = .returned (.tuple #[.pointer (some ⟨G, 0, none⟩), .int .i64 0]) ∧ DL w' D G s.openD s.openL (m + 8) (Ext F w w'))
section
variable {X F : Nat → Prop} {w : World} {D G m : Nat} {s : DSt} {x : LSt}
theorem DL.dsk (h : DL w D G s x m F) : Dsk w D s m F := by
  obtain ⟨FD, FL, h1, h2, h3, h4, h5⟩ := h
  exact h1.mono fun b _ hb => h4 b hb
theorem Dsk.ext {w0 : World} (hd : Dsk w D s m (fun b => F b ∨ w0.heap.size ≤ b)) : Dsk w D s m (Ext F w0 w) := hd.mono fun b hb hx => by
  rcases hx with hx | hx
  · exact .inl hx
  · exact .inr ⟨hx, hb⟩
theorem DL.ext {w0 : World} (hd : DL w D G s x m (fun b => F b ∨ w0.heap.size ≤ b)) : DL w D G s x m (Ext F w0 w) := hd.mono fun b hb hx => by
  rcases hx with hx | hx
  · exact .inl hx
  · exact .inr ⟨hx, hb⟩
set_option maxRecDepth 20000
set_option maxHeartbeats 2000000
theorem open_small (h48 : s.kept.length < 48) (hd : Dsk w D s m F) : Calls Try.prog 40 #[.pointer (some ⟨D, 0, none⟩)] w fun e w' => e = .returned (.tuple #[.pointer none, .int .i64 1]) ∧ w = w' := by
  have HD := Lib.hid hd
  obtain ⟨z, hz⟩ : ∃ z, z = s.kept.length := ⟨_, rfl⟩
  rw [← hz] at h48
  have hz2 : (z : Int) / 2 < 24 := by omega
  have HZ := Lib.hid hz
  clear hd hz
  go_enter Try.func40, Try.ntmps40
  go_wp2_with fail
  refine (size_any HD.out).mono ?_
  rintro e w1 ⟨rfl, rfl⟩
  rw [← HZ.out]
  go_wp2_with fail
  go_ret2
  exact ⟨rfl, rfl⟩
theorem open_any (hm : m + 8 ≤ 1073741824) (h48 : 48 ≤ s.kept.length) (hd : Dsk w D s m F) : Calls Try.prog 40 #[.pointer (some ⟨D, 0, none⟩)] w fun e w' => Opened w D s m F e w' ∧ Keep F w w' := by
  have hlen := hd.ok.size
  have HD := Lib.hid (hd.mono (G := fun b => F b ∧ b < w.heap.size) fun b hb hx => ⟨hx, hb⟩)
  obtain ⟨z, hz⟩ : ∃ z, z = s.kept.length := ⟨_, rfl⟩
  rw [← hz] at h48 hlen
  have hz2 : ¬ (z : Int) / 2 < 24 := by omega
  have HZ := Lib.hid hz
  clear hd hz
  go_enter Try.func40, Try.ntmps40
  go_wp2_with fail
  refine (size_any HD.out).mono ?_
  rintro e w1 ⟨rfl, rfl⟩
  rw [← HZ.out]
  go_wp2_with fail
  obtain ⟨w1, hw1⟩ : ∃ w1, w1 = w.alloc (.cells #[.pointer (some ⟨D, 0, none⟩), .int .i64 0, .int .i64 0, .int .i64 0, .slice none 0 0, .slice none 0 0, .bool false] 86) := ⟨_, rfl⟩
  rw [← hw1]
  have hb1 : Blk w1 w.heap.size 86 (logCells D 0 0 0 (.slice none 0 0) (.slice none 0 0) false) := by rw [hw1]; exact Blk.new w 86 _
  have hk1 : Keep0 w w1 := by rw [hw1]; exact Keep.alloc w _
  have hs1 : w1.heap.size = w.heap.size + 1 := by rw [hw1]; simp
  have HK1 := Lib.hid hk1
  have HS1 := Lib.hid hs1
  have HB1 := Lib.hid hb1
  clear hw1 hb1 hk1 hs1
  refine (find_any (F := fun b => F b ∧ b < w.heap.size) (by omega) (by have := HZ.out; omega) (HD.out.keep0 HK1.out) HB1.out (fun hx => by have := hx.2; omega)).mono ?_
  rintro e w2 ⟨hf, hk2⟩
  obtain ⟨G, hG⟩ : ∃ G, G = w.heap.size := ⟨_, rfl⟩
  have hk02 : Keep0 w w2 := (HK1.out.of0 (fun b => b = w.heap.size)).andThen hk2 |>.mono fun b hb e => by omega
  have hd2 : Dsk w2 D s m (fun b => F b ∧ b < w.heap.size) := (HD.out.keep0 HK1.out).keep hk2 fun b hb e => by have := hb.2; omega
  have hs2 := hk2.size
  have HK2 := Lib.hid hk02
  have HD2 := Lib.hid hd2
  have hGl : w.heap.size < w2.heap.size := by have := HS1.out; omega
  rw [← hG] at hf ⊢
  have HGG := Lib.hid hG
  clear hk2 hk02 hd2 hs2 hG
  rcases hf with ⟨hdn, rfl⟩ | ⟨hup, hno, rfl, hb2⟩ | ⟨hup, b, hb, rfl, hl2⟩
  · have HE := Lib.hid (s.openE_down hdn)
    clear hdn
    go_wp2_with fail
    go_ret2
    refine ⟨.inl ?_, HK2.out.of0 F⟩
    rw [HE.out.1, HE.out.2]
    exact ⟨by omega, rfl, (HD2.out.mono fun b _ hb => .inl hb.1).more (by omega)⟩
  · have HE := Lib.hid (s.openE_up hup)
    have HO := Lib.hid (s.openL_none hno)
    have hlr : LRep w2 G D ⟨0, -1, 0, [], [], false⟩ (fun b => b = G) :=
      ⟨none, 0, 0, none, 0, 0, [], { blk := hb2, base := sl_nil _ _, recs := rw_nil _, each := by simp, eq := rfl, fG := rfl, fR := fun b hb => by (obtain ⟨a, ha, _⟩ := hb; cases ha), bd := ⟨by simp, by simp, Nat.zero_le _, ⟨show (-1 : Int) ≤ -1 by omega, show (-1 : Int) ≤ 9223372036854775806 by omega⟩, by simp⟩ }⟩
    have hdl : DL w2 D G s ⟨0, -1, 0, [], [], false⟩ m (fun b => F b ∧ b < w.heap.size ∨ b = G) := ⟨_, _, HD2.out, hlr, fun b hb e => by have := hb.2; have := HGG.out; omega, fun b hb => .inl hb, fun b hb => .inr hb⟩
    have HDL := Lib.hid hdl
    clear hdl hlr hb2 hup hno
    go_wp2_with fail
    refine (compact_any (X := fun _ => False) 0 1 (by omega) (by omega) [] none 0 0 (sl_nil _ _) (by omega) hm (by have := HZ.out; omega) HDL.out (fun b hb => hb.elim)).mono ?_
    rintro e w3 ⟨rfl, hk3, hd3⟩
    have hk03 : Keep F w w3 := (HK2.out.of0 F).trans hk3 fun b hb hx => by
      rcases hx with hx | hx
      · exact hx.1
      · have := HGG.out; omega
    have hs2 := HK2.out.size
    have hs3 := hk3.size
    have hd3' := hd3.mono (F' := Ext F w w3) fun b hb hx => by
      rcases hx with (hx | hx) | hx
      · exact .inl hx.1
      · exact .inr ⟨by have := HGG.out; omega, hb⟩
      · exact .inr ⟨by omega, hb⟩
    rw [← HO.out.2] at hd3' ⊢
    rw [← HE.out.1, ← HE.out.2] at hd3'
    rw [← HE.out.1]
    have HK3 := Lib.hid hk03
    have HD3 := Lib.hid hd3'
    clear hk3 hd3 hk03 hd3' hs2 hs3
    obtain ⟨E, hE⟩ : ∃ E, E = s.openE := ⟨_, rfl⟩
    rw [← hE] at HD3 ⊢
    have HEE := Lib.hid hE
    by_cases h0 : E = 0
    · rw [h0] at HD3 ⊢
      have H0 := Lib.hid h0
      clear hE h0
      go_wp2_with fail
      go_ret2
      refine ⟨.inr ⟨by rw [← HEE.out]; exact H0.out, G, rfl, ?_⟩, HK3.out⟩
      have := HD3.out
      rw [pickL_0] at this
      rw [HO.out.1]
      exact this
    · have jb1 : (E == 0) = false := by simpa using h0
      have jb2 : (E != 0) = true := by simpa using h0
      have H0 := Lib.hid h0
      clear hE h0
      go_wp2_with fail
      go_ret2
      exact ⟨.inl ⟨by rw [← HEE.out]; exact H0.out, by rw [← HEE.out]; rfl, HD3.out.dsk⟩, HK3.out⟩
  · have HE := Lib.hid (s.openE_up hup)
    have HO := Lib.hid (s.openL_some b hb)
    have hl2' : LRep w2 G D s.openL (fun q => q = G ∨ w1.heap.size ≤ q) := by rw [HO.out.1]; exact hl2
    have hdl : DL w2 D G s s.openL m (fun q => F q ∧ q < w.heap.size ∨ w.heap.size ≤ q) := ⟨_, _, HD2.out, hl2', fun q hq e => by
      have := hq.2
      have := HGG.out
      have := HS1.out
      rcases e with e | e <;> omega, fun q hq => .inl hq, fun q hq => by
      right
      have := HGG.out
      have := HS1.out
      rcases hq with e | e <;> omega⟩
    have hstop : s.openL.stop ≤ s.kept.length / 2 := by rw [HO.out.1]; exact Nat.sub_le _ _
    have HDL := Lib.hid hdl
    have HST := Lib.hid hstop
    have ht : tornL b = (framesOf b).2.any fun x => x != 0 := rfl
    rw [← ht]
    clear hdl hl2 hl2' hstop ht hup hb
    cases hto : tornL b with
    | true =>
      have HT := Lib.hid hto
      clear hto
      go_wp2_with fail
      refine (clear_any (by omega) (by have := HZ.out; omega) HST.out HDL.out).mono ?_
      rintro e w3 ⟨rfl, hk3, hd3⟩
      have hk03 : Keep F w w3 := (HK2.out.of0 F).trans hk3 fun b hb hx => by
        rcases hx with hx | hx
        · exact hx.1
        · omega
      have hs2 := HK2.out.size
      have hs3 := hk3.size
      have hd3' := hd3.mono (F' := Ext F w w3) fun b hb hx => by
        rcases hx with (hx | hx) | hx
        · exact .inl hx.1
        · exact .inr ⟨hx, hb⟩
        · exact .inr ⟨by omega, hb⟩
      rw [← HO.out.2.1 HT.out] at hd3' ⊢
      rw [← HE.out.1, ← HE.out.2] at hd3'
      rw [← HE.out.1]
      have HK3 := Lib.hid hk03
      have HD3 := Lib.hid (hd3'.more (show m + 4 ≤ m + 8 by omega))
      clear hk3 hd3 hk03 hd3' hs2 hs3
      obtain ⟨E, hE⟩ : ∃ E, E = s.openE := ⟨_, rfl⟩
      rw [← hE] at HD3 ⊢
      have HEE := Lib.hid hE
      by_cases h0 : E = 0
      · rw [h0] at HD3 ⊢
        have H0 := Lib.hid h0
        clear hE h0
        go_wp2_with fail
        go_ret2
        refine ⟨.inr ⟨by rw [← HEE.out]; exact H0.out, G, rfl, ?_⟩, HK3.out⟩
        have := HD3.out
        rw [pickL_0] at this
        exact this
      · have jb1 : (E == 0) = false := by simpa using h0
        have jb2 : (E != 0) = true := by simpa using h0
        have H0 := Lib.hid h0
        clear hE h0
        go_wp2_with fail
        go_ret2
        exact ⟨.inl ⟨by rw [← HEE.out]; exact H0.out, by rw [← HEE.out]; rfl, HD3.out.dsk⟩, HK3.out⟩
    | false =>
      have e1 : s.openE = 0 := by rw [HE.out.1, HO.out.2.2 hto]; rfl
      have e2 : s.openD = s := by rw [HE.out.2, HO.out.2.2 hto]; rfl
      have E1 := Lib.hid e1
      have E2 := Lib.hid e2
      clear hto e1 e2
      go_wp2_with fail
      go_ret2
      refine ⟨.inr ⟨E1.out, G, rfl, ?_⟩, HK2.out.of0 F⟩
      rw [E2.out]
      exact (HDL.out.mono fun b hb hx => by
        rcases hx with hx | hx
        · exact .inl hx.1
        · exact .inr ⟨hx, hb⟩).more (by omega)
end
end Go.Proofs.Ytbdencfgiemliaa
