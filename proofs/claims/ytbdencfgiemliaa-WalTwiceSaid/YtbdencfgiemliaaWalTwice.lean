/-
  The walk of WalTwice: it returns true and changes nothing that was there; for any number and a slice that reads as bytes.
-/
import Derived.Test.YtbdencfgiemliaaWal24
import Derived.Test.YtbdencfgiemliaaLogP3
namespace Go.Proofs.Ytbdencfgiemliaa
open Go.RowKit
set_option linter.unusedVariables false
set_option linter.unusedSimpArgs false
theorem framesF_count (k : Nat) : ∀ l : List UInt8, (framesF k l).1.length ≤ l.length := by
  induction k with
  | zero => intro l; exact Nat.zero_le _
  | succ k ih =>
    intro l
    by_cases h : isFirst l = true
    · rw [framesF_yes h]
      have := restL_lt h
      have := ih (restL l)
      simp only [List.length_cons]
      omega
    · rw [framesF_no (by simpa using h)]
      exact Nat.zero_le _
theorem openL_recs (k : List UInt8) (h : k.length ≤ 65536) : (calm k).openL.recs.length ≤ 65536 := by
  have h2 := findK_two (calm k)
  have hB : ∀ i, (calm k).halfB i = hb k i := calm_halfB (calm k) rfl
  have main : ∀ b, ((calm k).findK 2).2.2 = some b → b.length ≤ 65536 → (calm k).openL.recs.length ≤ 65536 := by
    intro b hb hl
    rw [((calm k).openL_some b hb).1]
    show (framesOf b).1.tail.length ≤ 65536
    rw [List.length_tail]
    have h1 := framesF_count b.length (b.drop 5)
    rw [List.length_drop] at h1
    have h3 : (framesOf b).1.length = (framesF b.length (b.drop 5)).1.length := rfl
    omega
  by_cases ha : turnOf ((calm k).halfB 0) < turnOf ((calm k).halfB 1)
  · rw [if_pos ha] at h2
    exact main _ (by rw [h2]) (by rw [hB, hb_len k 1 (by omega)]; omega)
  · rw [if_neg ha] at h2
    by_cases hc : -1 < turnOf ((calm k).halfB 0)
    · rw [if_pos hc] at h2
      exact main _ (by rw [h2]) (by rw [hB, hb_len k 0 (by omega)]; omega)
    · rw [if_neg hc] at h2
      rw [((calm k).openL_none (by rw [h2])).1]
      exact Nat.zero_le _
set_option maxRecDepth 20000
set_option maxHeartbeats 4000000
theorem walTwice_walk (size : Int) (l : List UInt8) (F : Nat → Prop) (A : Option Addr) (n c : Nat) (w : World) (hs : -9223372036854775808 ≤ size ∧ size ≤ 9223372036854775807) (hsl : Sl w F A n c l) :
    Calls Try.prog 12 #[.int .i64 size, .slice A n c] w fun e w' => e = .returned (.bool true) ∧ Keep0 w w' := by
  have hcap := hsl.cap
  have hmax := hsl.max
  unfold maxLen at hmax
  have hlen := hsl.len
  have HSL := Lib.hid hsl
  have HLEN := Lib.hid hlen
  clear hsl hlen
  by_cases h1 : 600 < size
  · go_enter Try.func12, Try.ntmps12
    go_wp2_with fail
    refine (small18 w).mono ?_
    rintro e w1 ⟨rfl, hk1⟩
    go_wp2_with fail
    go_ret
    exact ⟨rfl, hk1⟩
  by_cases h2 : 600 < n
  · go_enter Try.func12, Try.ntmps12
    go_wp2_with fail
    refine (small18 w).mono ?_
    rintro e w1 ⟨rfl, hk1⟩
    go_wp2_with fail
    go_ret
    exact ⟨rfl, hk1⟩
  obtain ⟨L, hL⟩ : ∃ L, L = newSize size := ⟨_, rfl⟩
  have hL6 : L ≤ 600 := by rw [hL]; unfold newSize; omega
  by_cases h3 : size < 48
  · have hL48 : L < 48 := by rw [hL]; unfold newSize; omega
    have HL := Lib.hid hL
    clear hL
    by_cases h4 : n ≤ L
    · go_enter Try.func12, Try.ntmps12
      go_wp2_with fail
      refine (small18 w).mono ?_
      rintro e w1 ⟨rfl, hk1⟩
      have HK1 := Lib.hid hk1
      clear hk1
      go_wp2_with fail
      refine (one_new size w1).mono ?_
      rintro e w2 ⟨D, rfl, h2⟩
      rw [← HL.out, new_calm] at h2
      have H2 := Lib.hid h2
      have hkl : (calm (List.replicate L 0)).kept.length = L := List.length_replicate
      have HKL := Lib.hid hkl
      clear h2 hkl
      go_wp2_with fail
      refine (one_size H2.out).mono ?_
      rintro e w2' ⟨rfl, rfl⟩
      rw [HKL.out]
      go_wp2_with fail
      obtain ⟨c1, c2⟩ := calm_write (List.replicate L 0) 0 l (by rw [List.length_replicate, HLEN.out]; omega)
      refine (one_write 0 l F A n c (by omega) ((HSL.out.keep0 HK1.out).keep0 H2.out.keep) (by omega) H2.out).mono ?_
      rintro e w3 ⟨he, h3', _⟩
      have he' : e = .returned (.int .i64 0) := by rw [he]; exact ret_i c1
      subst he'
      have h3'' : One w1 w3 D ⟨List.replicate L 0, at_ 0 l, false, 0⟩ 1 Nil := by
        have h9 : One w1 w3 D ((calm (List.replicate L 0)).write ((0 : Nat) : Int) l) 1 Nil := h3'
        rw [c2] at h9
        exact h9
      have H3 := Lib.hid h3''
      clear he h3' h3'' c1 c2
      go_wp2_with fail
      refine (one_sync (by omega) H3.out).mono ?_
      rintro e w4 ⟨he, h4', _⟩
      obtain ⟨d1, d2⟩ := calm_sync (List.replicate L 0) (at_ 0 l)
      have he' : e = .returned (.int .i64 0) := by rw [he]; exact ret_i d1
      subst he'
      rw [d2] at h4'
      have hks : ∃ k : List UInt8, k.length = L ∧ One w1 w4 D (calm k) 1 Nil := ⟨_, by rw [layAll_len, List.length_replicate], h4'⟩
      have HKS := Lib.hid hks
      clear he h4' hks d1 d2
      go_wp2_with fail
      obtain ⟨k, hk, hone⟩ := HKS.out
      obtain ⟨FD, hd, _⟩ := hone.dsk
      refine (open_small (by show k.length < 48; omega) hd).mono ?_
      rintro e w5 ⟨rfl, rfl⟩
      have HO := Lib.hid hone
      clear hd hone hk
      go_wp2_with fail
      go_ret
      exact ⟨rfl, HK1.out.and0 HO.out.keep⟩
    · go_enter Try.func12, Try.ntmps12
      go_wp2_with fail
      refine (small18 w).mono ?_
      rintro e w1 ⟨rfl, hk1⟩
      have HK1 := Lib.hid hk1
      clear hk1
      go_wp2_with fail
      refine (one_new size w1).mono ?_
      rintro e w2 ⟨D, rfl, h2⟩
      rw [← HL.out, new_calm] at h2
      have H2 := Lib.hid h2
      have hkl : (calm (List.replicate L 0)).kept.length = L := List.length_replicate
      have HKL := Lib.hid hkl
      clear h2 hkl
      go_wp2_with fail
      refine (one_size H2.out).mono ?_
      rintro e w2' ⟨rfl, rfl⟩
      rw [HKL.out]
      have hle : ¬ ((n : Int) ≤ (L : Int)) := by omega
      go_wp2_with fail
      have hks : ∃ k : List UInt8, k.length = L ∧ One w1 w2 D (calm k) 1 Nil := ⟨_, HKL.out, H2.out.more (by omega)⟩
      have HKS := Lib.hid hks
      clear hks
      obtain ⟨k, hk, hone⟩ := HKS.out
      obtain ⟨FD, hd, _⟩ := hone.dsk
      refine (open_small (by show k.length < 48; omega) hd).mono ?_
      rintro e w5 ⟨rfl, rfl⟩
      have HO := Lib.hid hone
      clear hd hone hk
      go_wp2_with fail
      go_ret
      exact ⟨rfl, HK1.out.and0 HO.out.keep⟩
  · have hL48 : 48 ≤ L := by rw [hL]; unfold newSize; omega
    have HL := Lib.hid hL
    clear hL
    by_cases h4 : n ≤ L
    · go_enter Try.func12, Try.ntmps12
      go_wp2_with fail
      refine (small18 w).mono ?_
      rintro e w1 ⟨rfl, hk1⟩
      have HK1 := Lib.hid hk1
      clear hk1
      go_wp2_with fail
      refine (one_new size w1).mono ?_
      rintro e w2 ⟨D, rfl, h2⟩
      rw [← HL.out, new_calm] at h2
      have H2 := Lib.hid h2
      have hkl : (calm (List.replicate L 0)).kept.length = L := List.length_replicate
      have HKL := Lib.hid hkl
      clear h2 hkl
      go_wp2_with fail
      refine (one_size H2.out).mono ?_
      rintro e w2' ⟨rfl, rfl⟩
      rw [HKL.out]
      go_wp2_with fail
      obtain ⟨c1, c2⟩ := calm_write (List.replicate L 0) 0 l (by rw [List.length_replicate, HLEN.out]; omega)
      refine (one_write 0 l F A n c (by omega) ((HSL.out.keep0 HK1.out).keep0 H2.out.keep) (by omega) H2.out).mono ?_
      rintro e w3 ⟨he, h3', _⟩
      have he' : e = .returned (.int .i64 0) := by rw [he]; exact ret_i c1
      subst he'
      have h3'' : One w1 w3 D ⟨List.replicate L 0, at_ 0 l, false, 0⟩ 1 Nil := by
        have h9 : One w1 w3 D ((calm (List.replicate L 0)).write ((0 : Nat) : Int) l) 1 Nil := h3'
        rw [c2] at h9
        exact h9
      have H3 := Lib.hid h3''
      clear he h3' h3'' c1 c2
      go_wp2_with fail
      refine (one_sync (by omega) H3.out).mono ?_
      rintro e w4 ⟨he, h4', _⟩
      obtain ⟨d1, d2⟩ := calm_sync (List.replicate L 0) (at_ 0 l)
      have he' : e = .returned (.int .i64 0) := by rw [he]; exact ret_i d1
      subst he'
      rw [d2] at h4'
      have hks : ∃ k : List UInt8, k.length = L ∧ One w1 w4 D (calm k) 1 Nil := ⟨_, by rw [layAll_len, List.length_replicate], h4'⟩
      have HKS := Lib.hid hks
      clear he h4' hks d1 d2
      go_wp2_with fail
      obtain ⟨k, hk, hone⟩ := HKS.out
      obtain ⟨t1, k2, t2, t3, t4⟩ := twice_law k (by omega)
      have hrc := openL_recs k (by omega)
      refine (one_open (by omega) (by show 48 ≤ k.length; omega) hone).mono ?_
      rintro e w5 ⟨⟨h0, _⟩ | ⟨_, G, rfl, h5⟩, _⟩
      · exact absurd t1 h0
      rw [t2] at h5
      obtain ⟨u1, u2, u3⟩ := t4 ((calm k2).arm 1) rfl rfl rfl
      obtain ⟨X, hX⟩ : ∃ X, X = (calm k).openL := ⟨_, rfl⟩
      rw [← hX] at h5 u3 hrc
      obtain ⟨Z, h5z, hl5, _⟩ := h5.split
      have H5 := Lib.hid h5z
      have HL5 := Lib.hid hl5
      have U1 := Lib.hid u1
      have U2 := Lib.hid u2
      have U3 := Lib.hid u3
      have HRC := Lib.hid hrc
      have hk2 : k2.length = L := by omega
      have HK2 := Lib.hid hk2
      clear t1 t2 t3 t4 hrc h5 u1 u2 u3 hX h5z hl5 hone hk hk2
      go_wp2_with fail
      refine (one_arm 1 (by omega) H5.out).mono ?_
      rintro e w6 ⟨rfl, h6, hk6⟩
      have H6 := Lib.hid h6
      have HL6 := Lib.hid (HL5.out.keep hk6 fun b hb hx => hx hb)
      clear h6 hk6
      go_wp2_with fail
      refine (one_open (by omega) (by have := HK2.out; show 48 ≤ k2.length; omega) H6.out).mono ?_
      rintro e w7 ⟨⟨h0, _⟩ | ⟨_, G2, rfl, h7⟩, hk7⟩
      · exact absurd U1.out h0
      rw [U2.out, U3.out] at h7
      have HL7 := Lib.hid (HL6.out.keep hk7 fun b hb hx => hx hb)
      obtain ⟨FD, hd7⟩ := h7.dsk
      obtain ⟨FY, hy7⟩ := h7.log
      have HD7 := Lib.hid hd7
      have HY7 := Lib.hid hy7
      have HK7 := Lib.hid h7.keep
      clear h7 hk7 hd7 hy7
      go_wp2_with fail
      refine (down_any HD7.out).mono ?_
      rintro e w7' ⟨rfl, rfl⟩
      rw [show ((calm k2).arm 1).down = false from rfl]
      go_wp2_with fail
      refine (told_any HRC.out HL7.out).mono ?_
      rintro e w8 ⟨rfl, hk8⟩
      have HK8 := Lib.hid hk8
      clear hk8
      go_wp2_with fail
      refine (told_any HRC.out (HY7.out.keep0 HK8.out)).mono ?_
      rintro e w9 ⟨rfl, hk9⟩
      have HK9 := Lib.hid (HK8.out.and0 hk9)
      clear hk9
      generalize strB X.told = T
      go_wp2_with fail
      refine (HL7.out.keep0 HK9.out).turn_.mono ?_
      rintro e w9' ⟨rfl, rfl⟩
      go_wp2_with fail
      refine (HY7.out.keep0 HK9.out).turn_.mono ?_
      rintro e w9' ⟨rfl, rfl⟩
      generalize X.turn = tt
      go_wp2_with fail
      obtain ⟨rr, hrr⟩ : ∃ rr : Int, rr = ((((calm k2).arm 1).kept.length / 2 : Nat) : Int) - (X.stop : Int) := ⟨_, rfl⟩
      have HRR := Lib.hid hrr
      clear hrr
      refine (LRep.room (HD7.out.keep0 HK9.out) (HL7.out.keep0 HK9.out)).mono ?_
      rintro e w10 ⟨he, hk10⟩
      have he' : e = .returned (.int .i64 rr) := by rw [he]; exact ret_i HRR.out.symm
      subst he'
      have HK10 := Lib.hid (HK9.out.and0 hk10)
      clear hk10 he
      go_wp2_with fail
      refine (LRep.room (HD7.out.keep0 HK10.out) (HY7.out.keep0 HK10.out)).mono ?_
      rintro e w11 ⟨he, hk11⟩
      have he' : e = .returned (.int .i64 rr) := by rw [he]; exact ret_i HRR.out.symm
      subst he'
      have HK11 := Lib.hid (HK10.out.and0 hk11)
      clear hk11 he
      go_wp2_with fail
      go_ret
      exact ⟨rfl, (HK1.out.and0 HK7.out).and0 HK11.out⟩
    · go_enter Try.func12, Try.ntmps12
      go_wp2_with fail
      refine (small18 w).mono ?_
      rintro e w1 ⟨rfl, hk1⟩
      have HK1 := Lib.hid hk1
      clear hk1
      go_wp2_with fail
      refine (one_new size w1).mono ?_
      rintro e w2 ⟨D, rfl, h2⟩
      rw [← HL.out, new_calm] at h2
      have H2 := Lib.hid h2
      have hkl : (calm (List.replicate L 0)).kept.length = L := List.length_replicate
      have HKL := Lib.hid hkl
      clear h2 hkl
      go_wp2_with fail
      refine (one_size H2.out).mono ?_
      rintro e w2' ⟨rfl, rfl⟩
      rw [HKL.out]
      have hle : ¬ ((n : Int) ≤ (L : Int)) := by omega
      go_wp2_with fail
      have hks : ∃ k : List UInt8, k.length = L ∧ One w1 w2 D (calm k) 1 Nil := ⟨_, HKL.out, H2.out.more (by omega)⟩
      have HKS := Lib.hid hks
      clear hks
      obtain ⟨k, hk, hone⟩ := HKS.out
      obtain ⟨t1, k2, t2, t3, t4⟩ := twice_law k (by omega)
      have hrc := openL_recs k (by omega)
      refine (one_open (by omega) (by show 48 ≤ k.length; omega) hone).mono ?_
      rintro e w5 ⟨⟨h0, _⟩ | ⟨_, G, rfl, h5⟩, _⟩
      · exact absurd t1 h0
      rw [t2] at h5
      obtain ⟨u1, u2, u3⟩ := t4 ((calm k2).arm 1) rfl rfl rfl
      obtain ⟨X, hX⟩ : ∃ X, X = (calm k).openL := ⟨_, rfl⟩
      rw [← hX] at h5 u3 hrc
      obtain ⟨Z, h5z, hl5, _⟩ := h5.split
      have H5 := Lib.hid h5z
      have HL5 := Lib.hid hl5
      have U1 := Lib.hid u1
      have U2 := Lib.hid u2
      have U3 := Lib.hid u3
      have HRC := Lib.hid hrc
      have hk2 : k2.length = L := by omega
      have HK2 := Lib.hid hk2
      clear t1 t2 t3 t4 hrc h5 u1 u2 u3 hX h5z hl5 hone hk hk2
      go_wp2_with fail
      refine (one_arm 1 (by omega) H5.out).mono ?_
      rintro e w6 ⟨rfl, h6, hk6⟩
      have H6 := Lib.hid h6
      have HL6 := Lib.hid (HL5.out.keep hk6 fun b hb hx => hx hb)
      clear h6 hk6
      go_wp2_with fail
      refine (one_open (by omega) (by have := HK2.out; show 48 ≤ k2.length; omega) H6.out).mono ?_
      rintro e w7 ⟨⟨h0, _⟩ | ⟨_, G2, rfl, h7⟩, hk7⟩
      · exact absurd U1.out h0
      rw [U2.out, U3.out] at h7
      have HL7 := Lib.hid (HL6.out.keep hk7 fun b hb hx => hx hb)
      obtain ⟨FD, hd7⟩ := h7.dsk
      obtain ⟨FY, hy7⟩ := h7.log
      have HD7 := Lib.hid hd7
      have HY7 := Lib.hid hy7
      have HK7 := Lib.hid h7.keep
      clear h7 hk7 hd7 hy7
      go_wp2_with fail
      refine (down_any HD7.out).mono ?_
      rintro e w7' ⟨rfl, rfl⟩
      rw [show ((calm k2).arm 1).down = false from rfl]
      go_wp2_with fail
      refine (told_any HRC.out HL7.out).mono ?_
      rintro e w8 ⟨rfl, hk8⟩
      have HK8 := Lib.hid hk8
      clear hk8
      go_wp2_with fail
      refine (told_any HRC.out (HY7.out.keep0 HK8.out)).mono ?_
      rintro e w9 ⟨rfl, hk9⟩
      have HK9 := Lib.hid (HK8.out.and0 hk9)
      clear hk9
      generalize strB X.told = T
      go_wp2_with fail
      refine (HL7.out.keep0 HK9.out).turn_.mono ?_
      rintro e w9' ⟨rfl, rfl⟩
      go_wp2_with fail
      refine (HY7.out.keep0 HK9.out).turn_.mono ?_
      rintro e w9' ⟨rfl, rfl⟩
      generalize X.turn = tt
      go_wp2_with fail
      obtain ⟨rr, hrr⟩ : ∃ rr : Int, rr = ((((calm k2).arm 1).kept.length / 2 : Nat) : Int) - (X.stop : Int) := ⟨_, rfl⟩
      have HRR := Lib.hid hrr
      clear hrr
      refine (LRep.room (HD7.out.keep0 HK9.out) (HL7.out.keep0 HK9.out)).mono ?_
      rintro e w10 ⟨he, hk10⟩
      have he' : e = .returned (.int .i64 rr) := by rw [he]; exact ret_i HRR.out.symm
      subst he'
      have HK10 := Lib.hid (HK9.out.and0 hk10)
      clear hk10 he
      go_wp2_with fail
      refine (LRep.room (HD7.out.keep0 HK10.out) (HY7.out.keep0 HK10.out)).mono ?_
      rintro e w11 ⟨he, hk11⟩
      have he' : e = .returned (.int .i64 rr) := by rw [he]; exact ret_i HRR.out.symm
      subst he'
      have HK11 := Lib.hid (HK10.out.and0 hk11)
      clear hk11 he
      go_wp2_with fail
      go_ret
      exact ⟨rfl, (HK1.out.and0 HK7.out).and0 HK11.out⟩
end Go.Proofs.Ytbdencfgiemliaa
