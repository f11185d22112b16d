/-
  The law package's bytes and again (layer 18), and two disks, each with its log, apart from one another: the calls upon one of them. Conditions: a disk of 48 bytes or more, at most ten stops.
-/
import Derived.Test.YtbdencfgiemliaaWal22
import Derived.Test.YtbdencfgiemliaaLogP5
import Derived.Test.YtbdencfgiemliaaTwo
namespace Go.Proofs.Ytbdencfgiemliaa
open Go.RowKit
set_option linter.unusedVariables false
set_option linter.unusedSimpArgs false
theorem and31_all (z : Int) : ∃ n : Nat, n < 32 ∧ bits BinOp.and IntKind.i64 z 31 = (n : Int) := by
  have h : bits BinOp.and IntKind.i64 z 31 = IntKind.i64.wrap (((BitVec.ofInt 64 z &&& BitVec.ofInt 64 31).toNat : Nat) : Int) := rfl
  have h2 : (BitVec.ofInt 64 z &&& BitVec.ofInt 64 31).toNat < 32 := by
    have e : (BitVec.ofInt 64 31).toNat = 31 := by decide
    rw [BitVec.toNat_and, e]
    exact Nat.lt_of_le_of_lt Nat.and_le_right (by omega)
  refine ⟨_, h2, ?_⟩
  rw [h, IntKind.wrap_i64]
  omega
/-- How many bytes. -/
def byteN (z : Int) : Nat := (bits BinOp.and IntKind.i64 z 31).toNat
theorem byteN_eq (z : Int) : bits BinOp.and IntKind.i64 z 31 = (byteN z : Int) ∧ byteN z < 32 := by
  obtain ⟨n, h1, h2⟩ := and31_all z
  unfold byteN
  rw [h2]
  exact ⟨rfl, by omega⟩
/-- The bytes of a number. -/
def bytesL (z : Int) : List UInt8 := (List.range (byteN z)).map fun (i : Nat) => UInt8.ofNat ((z + 7 * (i : Int)) % 256).toNat
theorem bytesL_len (z : Int) : (bytesL z).length = byteN z := by simp [bytesL]
section
set_option maxRecDepth 20000
set_option maxHeartbeats 1000000
theorem bytes_any (z : Int) (w : World) (hz : -9223372036854775808 ≤ z ∧ z ≤ 9223372036854775807) : Calls Try.prog 50 #[.int .i64 z] w fun e w' => ∃ A c, e = .returned (.slice A (byteN z) c) ∧ Own w' w.heap.size 5 A (byteN z) c ((bytesL z).map bv) ∧ Keep0 w w' := by
  obtain ⟨hand, hN⟩ := byteN_eq z
  obtain ⟨N, hNN⟩ : ∃ N, N = byteN z := ⟨_, rfl⟩
  rw [← hNN] at hand hN ⊢
  obtain ⟨w1, hmk, ho1, hk1, hs1⟩ := make_zeros (w := w) (N : Int) N rfl (by omega)
  have HO1 := Lib.hid ho1
  have HK1 := Lib.hid hk1
  have HNN := Lib.hid hNN
  clear ho1 hk1 hs1 hNN
  go_enter Try.func50, Try.ntmps50
  go_wp2_with fail
  go_loopw [4] (fun i wr => ∃ k : Nat, k ≤ N ∧ i = .int .i64 k ∧ Hid (Own wr w.heap.size 5 (some ⟨w.heap.size, 0, none⟩) N N (((bytesL z).take k ++ List.replicate (N - k) 0).map bv) ∧ Keep0 w wr)) (fun i _ => N - (intOf i).toNat)
  case atStart => exact ⟨0, Nat.zero_le _, rfl, by simpa using HO1.out, HK1.out⟩
  case round =>
    obtain ⟨k, hk, rfl, HI⟩ := hrel
    by_cases hlt : k < N
    · obtain ⟨hown, hkk⟩ := HI.out
      obtain ⟨g, hg, hgb, hgl, ⟨u, hcu, _⟩, hfz, hset⟩ := hown.set_ (k := k) hlt
      injection hg with hg
      injection hg with hg _ _
      subst hg
      have hget : (bytesL z)[k]? = some (UInt8.ofNat ((z + 7 * (k : Int)) % 256).toNat) := by
        unfold bytesL
        rw [List.getElem?_map, List.getElem?_range (by rw [← HNN.out]; exact hlt)]
        rfl
      have hl : ((bytesL z).take k).length = k := by rw [List.length_take, bytesL_len, ← HNN.out]; omega
      have hfin := hset (.int .u8 ((z + 7 * (k : Int)) % 256))
      have hlist : (((bytesL z).take k ++ List.replicate (N - k) 0).map bv).set k (.int .u8 ((z + 7 * (k : Int)) % 256)) = ((bytesL z).take (k + 1) ++ List.replicate (N - (k + 1)) 0).map bv := by
        rw [List.take_add_one, hget, List.map_append, List.set_append_right _ _ (by rw [List.length_map, hl]; exact Nat.le_refl _), List.length_map, hl, Nat.sub_self]
        rw [show N - k = (N - (k + 1)) + 1 by omega, List.replicate_succ, List.map_cons, List.set_cons_zero, List.map_append, List.map_append]
        have hb : bv (UInt8.ofNat ((z + 7 * (k : Int)) % 256).toNat) = .int .u8 ((z + 7 * (k : Int)) % 256) := by
          unfold bv
          rw [UInt8.toNat_ofNat', Nat.mod_eq_of_lt (by omega), Int.toNat_of_nonneg (by omega)]
        simp [hb]
      rw [hlist] at hfin
      have hkf := hkk.setNew ⟨w.heap.size, k, none⟩ (.int .u8 ((z + 7 * (k : Int)) % 256)) (Nat.le_refl _)
      have HFIN := Lib.hid hfin
      have HKF := Lib.hid hkf
      clear HI hown hkk hset hget hl hfin hlist hkf
      have hwr : wrap64 (z + 7 * (k : Int)) % 256 = (z + 7 * (k : Int)) % 256 := by unfold wrap64; omega
      go_wp2_with fail
      refine ⟨⟨k + 1, by omega, by go_num, HFIN.out, HKF.out⟩, by simp [intOf]; omega⟩
    · obtain rfl : k = N := by omega
      obtain ⟨hown, hkk⟩ := HI.out
      rw [Nat.sub_self, List.replicate_zero, List.append_nil, List.take_of_length_le (by rw [bytesL_len, ← HNN.out]; exact Nat.le_refl _)] at hown
      have HO := Lib.hid hown
      have HK := Lib.hid hkk
      clear HI hown hkk
      go_wp2_with fail
      go_ret
      exact ⟨_, _, rfl, HO.out, HK.out⟩
end
end Go.Proofs.Ytbdencfgiemliaa
namespace Go.Proofs.Ytbdencfgiemliaa
open Go.RowKit
set_option linter.unusedVariables false
set_option linter.unusedSimpArgs false
theorem framesT_len (fs : List (List UInt8)) : fs.length ≤ (framesT fs).length := by
  induction fs with
  | nil => exact Nat.le_refl _
  | cons b t ih =>
    rw [framesT_cons, List.length_append, frameL_len, List.length_cons]
    omega
theorem Half.recs_le {k : List UInt8} {x : LSt} {J : List UInt8} (h : Half k x J) : x.recs.length ≤ 65536 := by
  have h1 := framesT_len (x.base :: x.recs)
  rw [List.length_cons] at h1
  have h2 := h.size
  have h3 := h.stop
  have h4 := h.len
  omega
set_option maxRecDepth 20000
set_option maxHeartbeats 2000000
theorem again_any {w0 w : World} {D m L : Nat} {s : DSt} {X F : Nat → Prop} {T : LSt → Prop} (keep : Int) (hkeep : -10 ≤ keep ∧ keep ≤ 5000) (zs : List Int) (hzs : ∀ z ∈ zs, -9223372036854775808 ≤ z ∧ z ≤ 9223372036854775807) (SA : Option Addr) (sn sc : Nat) (hsn : zs.length = sn) (h10 : sn ≤ 10)
    (hrd : Rd w F SA (zs.map (Value.int .i64))) (hF : ∀ b, F b → b < w0.heap.size) (hL : 48 ≤ L ∧ L ≤ 65536) (hm : m + 200 ≤ 1073741824) (hs : Safe s L T) (h : One w0 w D s m X) :
    Calls Try.prog 51 #[.pointer (some ⟨D, 0, none⟩), .int .i64 keep, .slice SA sn sc] w fun e w' => ∃ G s' x m', e = .returned (.tuple #[.pointer (some ⟨G, 0, none⟩), .bool true]) ∧ OneL w0 w' D G s' x m' X ∧ T x ∧ x.recs.length ≤ 65536 := by
  have HRD := Lib.hid hrd
  have HSN := Lib.hid hsn
  have HZS := Lib.hid hzs
  have HO := Lib.hid h
  have HS := Lib.hid hs
  clear hrd hsn hzs h hs
  go_enter Try.func51, Try.ntmps51
  go_wp2_with fail
  refine (one_restart keep (by omega) HO.out).mono ?_
  rintro e w1 ⟨rfl, h1, hk1⟩
  have h1' : ∃ k x J, One w0 w1 D (calm k) m X ∧ k.length = L ∧ Half k x J ∧ T x := by
    obtain ⟨k, x, J, e1, e2, e3, e4⟩ := HS.out keep
    rw [e1] at h1
    exact ⟨k, x, J, h1, e2, e3, e4⟩
  have H1 := Lib.hid h1'
  clear h1 h1' hk1
  go_wp2_with fail
  go_loopw [8] (fun i wr => ∃ (j m' : Nat) (k : List UInt8) (x : LSt) (J : List UInt8), j ≤ sn ∧ i = .int .i64 j ∧ m' ≤ m + 8 * j ∧ Hid (One w0 wr D (calm k) m' X ∧ k.length = L ∧ Half k x J ∧ T x)) (fun i _ => sn - (intOf i).toNat)
  case atStart =>
    obtain ⟨k, x, J, h⟩ := H1.out
    exact ⟨0, m, k, x, J, Nat.zero_le _, rfl, by omega, h⟩
  case round =>
    obtain ⟨j, m', k, x, J, hj, rfl, hm', HI⟩ := hrel
    by_cases hlt : j < sn
    · obtain ⟨hone, hkl, hhalf, hT⟩ := HI.out
      have hjl : j < (zs.map (Value.int .i64)).length := by rw [List.length_map, HSN.out]; exact hlt
      obtain ⟨b, o, rfl, hFb, hcell⟩ := HRD.out.at_ hjl
      rw [List.getElem_map] at hcell
      obtain ⟨z, hz⟩ : ∃ z, z = zs[j]'(by simpa using hjl) := ⟨_, rfl⟩
      have hzb : -9223372036854775808 ≤ z ∧ z ≤ 9223372036854775807 := HZS.out z (by rw [hz]; exact List.getElem_mem _)
      rw [← hz] at hcell
      have hcr : wr.cell? ⟨b, o + j, none⟩ = some (.int .i64 z) := by
        have hbl : b < w0.heap.size := hF b hFb
        have h0 : w0.cell? ⟨b, o + j, none⟩ = some (.int .i64 z) := by
          rw [← HO.out.keep.cell (p := ⟨b, o + j, none⟩) hbl fun hb => hb]
          exact hcell
        exact hone.keep.cell_some h0 fun hb => hb
      obtain ⟨oa1, oa2⟩ := open_armed hhalf z.toNat
      have HONE := Lib.hid hone
      have HOA1 := Lib.hid oa1
      have HOA2 := Lib.hid oa2
      have HRC := Lib.hid hhalf.recs_le
      have HT := Lib.hid hT
      have HKL := Lib.hid hkl
      clear HI hone hkl hhalf hT hz hcell hjl oa1 oa2 hFb
      have hz1 : z ≤ 9223372036854775807 := hzb.2
      go_wp2_with fail
      refine (one_arm z hz1 HONE.out).mono ?_
      rintro e w2 ⟨rfl, h2, hk2⟩
      have h2' : One w0 w2 D (up k z.toNat) m' X := h2
      have H2 := Lib.hid h2'
      clear h2 h2' hk2 hcr
      go_wp2_with fail
      refine (one_open (by omega) (by have := HKL.out; show 48 ≤ k.length; omega) H2.out).mono ?_
      rintro e w3 ⟨⟨h0, rfl, h3⟩ | ⟨h0, G, rfl, h3⟩, -⟩
      · rcases HOA2.out with h9 | ⟨e15, _, hre⟩
        · exact absurd h9 h0
        · rw [e15]
          have H3 := Lib.hid h3
          have HRE := Lib.hid hre
          clear h0 h3 e15 hre
          go_wp2_with fail
          refine (one_restart (keep + (j : Int)) (by omega) H3.out).mono ?_
          rintro e w4 ⟨rfl, h4, hk4⟩
          obtain ⟨k', J', f1, f2, f3⟩ := HRE.out (keep + (j : Int))
          rw [f1] at h4
          have H4 := Lib.hid h4
          have HF2 := Lib.hid f2
          have HF3 := Lib.hid f3
          clear h4 hk4 f1 f2 f3
          go_wp2_with fail
          go_roundw
          case rel => exact ⟨j + 1, m' + 8, k', x, J', by omega, by go_num, by omega, H4.out, by rw [HF2.out]; exact HKL.out, HF3.out, HT.out⟩
          case measure => simp [intOf]; omega
      · rw [HOA1.out] at h3
        have H3 := Lib.hid h3
        clear h0 h3
        go_wp2_with fail
        go_ret2
        exact ⟨G, _, x, _, rfl, H3.out, HT.out, HRC.out⟩
    · obtain ⟨hone, hkl, hhalf, hT⟩ := HI.out
      obtain ⟨oa1, oa2⟩ := open_armed hhalf 0
      have hE : (up k 0).openE = 0 := by
        rcases oa2 with h9 | ⟨_, h9, _⟩
        · exact h9
        · exact absurd rfl h9
      have h9 : One w0 wr D (up k 0) m' X := hone
      have H9 := Lib.hid h9
      have HE := Lib.hid hE
      have HOA1 := Lib.hid oa1
      have HRC := Lib.hid hhalf.recs_le
      have HT := Lib.hid hT
      have HKL := Lib.hid hkl
      clear HI hone hkl hhalf hT oa1 oa2 hE h9
      go_wp2_with fail
      refine (one_open (by omega) (by have := HKL.out; show 48 ≤ k.length; omega) H9.out).mono ?_
      rintro e w3 ⟨⟨h0, -⟩ | ⟨-, G, rfl, h3⟩, -⟩
      · exact absurd HE.out h0
      rw [HOA1.out] at h3
      have H3 := Lib.hid h3
      clear h3
      go_wp2_with fail
      go_ret2
      exact ⟨G, _, x, _, rfl, H3.out, HT.out, HRC.out⟩
end Go.Proofs.Ytbdencfgiemliaa
namespace Go.Proofs.Ytbdencfgiemliaa
open Go.RowKit
set_option linter.unusedVariables false
def dlT (D G : Nat) (s : DSt) (x : LSt) (m : Nat) : Thing := ⟨fun w F => DL w D G s x m F, fun h hk hd => h.keep hk hd, fun h hF => h.mono hF⟩
section
variable {w0 w w' : World} {D G m m' : Nat} {s s' : DSt} {x x' : LSt} {T T' U : Thing} {X Y : Nat → Prop}
theorem Two.fix {f : FuncId} {args : Array Value} {v : Value} (h : Two w0 w T U X) (hc : ∀ F, T.is w F → (∀ b, F b → ¬ X b) → Calls Try.prog f args w fun e w' => e = .returned v ∧ Keep F w w' ∧ T'.is w' (Ext F w w')) :
    Calls Try.prog f args w fun e w' => e = .returned v ∧ Two w0 w' T' U X ∧ KeepX X w w' := by
  obtain ⟨F, G, hF, hG, h1, h2⟩ := h.both
  have hs := h.keep.size
  refine (hc F hF fun b hb => (h1 b hb).2.1).mono fun e w' ⟨he, h4, h3⟩ => ⟨he, ⟨⟨_, G, h3, U.keep hG h4 (fun b hb hf => (h1 b hf).2.2 hb), fun b hb => ?_, fun b hb => ⟨(h2 b hb).1, (h2 b hb).2.1, Nat.lt_of_lt_of_le (h2 b hb).2.2 h4.size⟩⟩, h.keep.trans h4 fun b hb hx => by have := (h1 b hx).1; omega, fun b hb => Nat.lt_of_lt_of_le (h.lt b hb) h4.size⟩, h4.mono fun b _ hx => (h1 b hx).2.1⟩
  rcases hb with hb | hb
  · exact h1 b hb
  · exact ⟨by omega, fun hx => by have := h.lt b hx; omega, fun hx => by have := (h2 b hx).2.2; omega⟩
theorem Two.less (h : Two w0 w T U X) (hY : ∀ b, Y b → X b) : Two w0 w T U Y := ⟨by
  obtain ⟨F, G, hF, hG, h1, h2⟩ := h.both
  exact ⟨F, G, hF, hG, fun b hb => ⟨(h1 b hb).1, fun hy => (h1 b hb).2.1 (hY b hy), (h1 b hb).2.2⟩, fun b hb => ⟨(h2 b hb).1, fun hy => (h2 b hb).2.1 (hY b hy), (h2 b hb).2.2⟩⟩, h.keep, fun b hb => h.lt b (hY b hb)⟩
theorem Two.imp (h : Two w0 w T U X) (hT : ∀ F, T.is w F → T'.is w F) : Two w0 w T' U X := ⟨by
  obtain ⟨F, G, hF, hG, h1, h2⟩ := h.both
  exact ⟨F, G, hT F hF, hG, h1, h2⟩, h.keep, h.lt⟩
theorem Two.one (h : Two w0 w (dlT D G s x m) U X) : One w0 w D s m X := ⟨by
  obtain ⟨F, G, hF, hG, h1, h2⟩ := h.both
  exact ⟨F, DL.dsk hF, fun b hb => ⟨(h1 b hb).1, (h1 b hb).2.1⟩⟩, h.keep, h.lt⟩
theorem Two.log (h : Two w0 w (dlT D G s x m) U X) : ∃ F, LRep w G D x F := by
  obtain ⟨F, G, ⟨FD, FL, _, h2, _⟩, _⟩ := h.both
  exact ⟨FL, h2⟩
theorem Two.dsk (h : Two w0 w (dlT D G s x m) U X) : ∃ F, Dsk w D s m F := by
  obtain ⟨F, G, ⟨FD, FL, h2, _⟩, _⟩ := h.both
  exact ⟨FD, h2⟩
/-- Open, upon one of two things. -/
theorem two_open (hm : m + 8 ≤ 1073741824) (h48 : 48 ≤ s.kept.length) (hE : s.openE = 0) (h : Two w0 w (dskT D s m) U X) : Calls Try.prog 40 #[.pointer (some ⟨D, 0, none⟩)] w fun e w' =>
    ∃ G, e = .returned (.tuple #[.pointer (some ⟨G, 0, none⟩), .int .i64 0]) ∧ Two w0 w' (dlT D G s.openD s.openL (m + 8)) U X := by
  obtain ⟨F, G, hF, hG, h1, h2⟩ := h.both
  have hs := h.keep.size
  refine (open_any hm h48 hF).mono fun e w' ⟨ho, h4⟩ => ?_
  rcases ho with ⟨h9, _⟩ | ⟨_, G', he, h3⟩
  · exact absurd hE h9
  · refine ⟨G', he, ⟨_, G, h3, U.keep hG h4 (fun b hb hf => (h1 b hf).2.2 hb), fun b hb => ?_, fun b hb => ⟨(h2 b hb).1, (h2 b hb).2.1, Nat.lt_of_lt_of_le (h2 b hb).2.2 h4.size⟩⟩, h.keep.trans h4 fun b hb hx => by have := (h1 b hx).1; omega, fun b hb => Nat.lt_of_lt_of_le (h.lt b hb) h4.size⟩
    rcases hb with hb | hb
    · exact h1 b hb
    · exact ⟨by omega, fun hx => by have := h.lt b hx; omega, fun hx => by have := (h2 b hx).2.2; omega⟩
theorem two_armL (n : Int) (hn : n ≤ 9223372036854775807) (h : Two w0 w (dlT D G s x m) U X) : Calls Try.prog 25 #[.pointer (some ⟨D, 0, none⟩), .int .i64 n] w fun e w' => e = .returned (.tuple #[]) ∧ Two w0 w' (dlT D G (s.arm n) x m) U X ∧ KeepX X w w' :=
  h.fix (T' := dlT D G (s.arm n) x m) fun F hd hX => by
    obtain ⟨FD, FL, h1, h2, h3, h4, h5⟩ := hd
    refine (arm_any n hn h1).mono fun e w' ⟨he, g1, g2⟩ => ⟨he, g2.mono fun b _ e => by rw [e]; exact h4 D h1.fD, DL.mono (F := F) ⟨FD, FL, g1, h2.keep g2 fun b hb e => h3 D h1.fD (by rw [← e]; exact hb), h3, h4, h5⟩ fun b _ hb => .inl hb⟩
/-- An append, upon one of two. -/
theorem two_append (l : List UInt8) (A : Option Addr) (n c : Nat) (hsl : Sl w X A n c l) (hn : n ≤ 8192) (hm : m + 2 ≤ 1073741824) (h48 : 48 ≤ s.kept.length) (hrc : x.recs.length ≤ 65536) (hroom : x.stop + (l.length + 5) ≤ s.kept.length / 2) (hbr : x.broken = false) (h : Two w0 w (dlT D G s x m) U X) :
    Calls Try.prog 41 #[.pointer (some ⟨G, 0, none⟩), .slice A n c] w fun e w' => e = .returned (.int .i64 (s.stepsE (appendOps (s.kept.length / 2) x.half x.stop l))) ∧
      Two w0 w' (dlT D G (s.steps (appendOps (s.kept.length / 2) x.half x.stop l)) (pickL (s.stepsE (appendOps (s.kept.length / 2) x.half x.stop l)) (x.plus l) { x with broken := true }) (m + 8)) U X ∧ KeepX X w w' := by
  have hl := hsl.len
  subst hl
  exact h.fix fun F hd hX => (append_any l A _ c hsl hn hm h48 hrc hroom hbr hd fun b hb hf => hX b hf hb).mono fun e w' ⟨h1, h2, h3⟩ => ⟨h1, h2, h3.more (by omega)⟩
/-- A compaction, upon one of two. -/
theorem two_compact (l : List UInt8) (A : Option Addr) (n c : Nat) (hsl : Sl w X A n c l) (hn : n ≤ 8192) (hm : m + 8 ≤ 1073741824) (h48 : 48 ≤ s.kept.length) (ht : 0 ≤ x.turn ∧ x.turn ≤ 4294967296) (hroom : l.length + 10 ≤ s.kept.length / 2) (hbr : x.broken = false) (h : Two w0 w (dlT D G s x m) U X) :
    Calls Try.prog 44 #[.pointer (some ⟨G, 0, none⟩), .slice A n c] w fun e w' => e = .returned (.int .i64 (s.stepsE (compactOps (s.kept.length / 2) (1 - x.half) (x.turn.toNat + 1) l))) ∧
      Two w0 w' (dlT D G (s.steps (compactOps (s.kept.length / 2) (1 - x.half) (x.turn.toNat + 1) l)) (pickL (s.stepsE (compactOps (s.kept.length / 2) (1 - x.half) (x.turn.toNat + 1) l)) (x.anew l) { x with broken := true }) (m + 8)) U X ∧ KeepX X w w' := by
  have hl := hsl.len
  subst hl
  have e : x.anew l = ⟨1 - x.half, ((x.turn.toNat + 1 : Nat) : Int), l.length + 10, l, [], x.broken⟩ := by rw [hbr]; rfl
  rw [e]
  exact h.fix fun F hd hX => compactM_any l A _ c hsl hn hm h48 ht hroom hbr hd fun b hb hf => hX b hf hb
theorem two_appendNo (A : Option Addr) (n c : Nat) (hn : n ≤ 1073741824) (hno : x.may n (((s.kept.length / 2 : Nat) : Int) - (x.stop : Int)) = 2) (h : Two w0 w (dlT D G s x m) U X) :
    Calls Try.prog 41 #[.pointer (some ⟨G, 0, none⟩), .slice A n c] w fun e w' => e = .returned (.int .i64 2) ∧ Keep0 w w' := by
  obtain ⟨F, hd⟩ := h.dsk
  obtain ⟨F', hl⟩ := h.log
  rw [← hno]
  exact append_no A n c hn (by rw [hno]; decide) hd hl
theorem two_compactNo (A : Option Addr) (n c : Nat) (hn : n ≤ 1073741824) (h48 : 48 ≤ s.kept.length) (hno : x.may n (((s.kept.length / 2 : Nat) : Int) - 5) = 2) (h : Two w0 w (dlT D G s x m) U X) :
    Calls Try.prog 44 #[.pointer (some ⟨G, 0, none⟩), .slice A n c] w fun e w' => e = .returned (.int .i64 2) ∧ Keep0 w w' := by
  obtain ⟨F, hd⟩ := h.dsk
  obtain ⟨F', hl⟩ := h.log
  rw [← hno]
  exact compactM_no A n c hn h48 (by rw [hno]; decide) hd hl
theorem two_told (hrc : x.recs.length ≤ 65536) (h : Two w0 w (dlT D G s x m) U X) : Calls Try.prog 48 #[.pointer (some ⟨G, 0, none⟩)] w fun e w' => e = .returned (.string (strB x.told)) ∧ Keep0 w w' := by
  obtain ⟨F, hl⟩ := h.log
  exact told_any hrc hl
end
end Go.Proofs.Ytbdencfgiemliaa
