/-
  The walk of DiskParts: it returns true and changes nothing that was there; for two slices that read as bytes.
-/
import Derived.Test.YtbdencfgiemliaaTwo
import Derived.Test.YtbdencfgiemliaaDiskLaw
namespace Go.Proofs.Ytbdencfgiemliaa
open Go.RowKit
set_option linter.unusedVariables false
set_option maxRecDepth 20000
set_option maxHeartbeats 2000000
theorem strB_size (l : List UInt8) : (strB l).size = l.length := by simp [strB, ByteArray.size]
theorem strB_append (a b : List UInt8) : strB a ++ strB b = strB (a ++ b) := by
  apply ByteArray.ext
  rw [ByteArray.data_append]
  simp [strB]
theorem put_two (s : DSt) (i : Nat) (l m : List UInt8) (ha : s.armed = 0) (hd : s.down = false) : (s.put i l).put (i + l.length) m = s.put i (l ++ m) := by
  unfold DSt.put DSt.stop
  simp only [at_append, List.append_assoc]
  rw [ha]
theorem read_two (s : DSt) : (s.all.drop 0).take 40 ++ (s.all.drop 40).take 60 = (s.all.drop 0).take 100 := by
  rw [List.drop_zero]
  have h := List.take_append_drop 40 (s.all.take 100)
  rw [List.take_take, List.drop_take] at h
  exact h
theorem diskParts_walk (l m : List UInt8) (G : Nat → Prop) (A B : Option Addr) (na ca nb cb : Nat) (at' keep : Int) (w : World) (hat : -9223372036854775808 ≤ at' ∧ at' ≤ 9223372036854775807) (ha : Sl w G A na ca l) (hb : Sl w G B nb cb m) :
    Calls Try.prog 9 #[.slice A na ca, .slice B nb cb, .int .i64 at', .int .i64 keep] w fun e w' => e = .returned (.bool true) ∧ Keep0 w w' := by
  obtain ⟨i0, hi0, hz0, hz1, hz2⟩ := info_parts info5
  have HA := Lib.hid ha
  have HB := Lib.hid hb
  have hma : na ≤ maxLen := Nat.le_trans ha.cap ha.max
  have hmb : nb ≤ maxLen := Nat.le_trans hb.cap hb.max
  unfold maxLen at hma hmb
  clear ha hb
  by_cases hgo : 0 ≤ at' ∧ na ≤ 50 ∧ nb ≤ 50 ∧ at' ≤ 100 - (na : Int) - (nb : Int)
  · obtain ⟨h1, h2, h3, h4⟩ := hgo
    obtain ⟨i, rfl⟩ := Int.eq_ofNat_of_zero_le h1
    have hi : i + na + nb ≤ 100 := by omega
    go_enter Try.func9, Try.ntmps9
    go_wp2_with fail
    refine (small17 w).mono ?_
    rintro e w1 ⟨rfl, hk1⟩
    go_wp2_with fail
    refine (one_new 100 w1).mono ?_
    rintro e w2 ⟨D, rfl, ho2⟩
    go_wp2_with fail
    refine (new_any 100 w2).mono ?_
    rintro e w3 ⟨E, rfl, hd3, hk3⟩
    have hs0 : newSize 100 = 100 := by decide
    rw [hs0] at ho2 hd3
    have hT3 := (Two.mk_ (T := dskT E (DSt.new 100) 0) ho2 hd3 (fun b hb => hb) hk3).swap
    have HT3 := Lib.hid hT3
    have hk13 := (hk1.and0 ho2.keep).and0 hk3
    have HA3 := Lib.hid (HA.out.keep0 hk13)
    have HB3 := Lib.hid (HB.out.keep0 hk13)
    have HK1 := Lib.hid hk1
    clear hT3 ho2 hd3 hk3 hk1 hk13 hs0
    go_wp2_with (at_builtin; refine wpList_append_rd _ rfl (.tmp 63) (.tmp 64) _ rfl w3.heap.size 5 i0 _ 1 1 Try.underlying22 hi0 hz0 hz1 hz2 rfl (by omega) (.slice (some ⟨w3.heap.size, 0, none⟩) 0 0) 0 [] rfl (World.ownsRow_made w3 _ 0 (Nat.le_refl _) (Nat.zero_le _) rfl) G A na ca (l.map bv) rfl ?qa ?qb (one_bv l) (by simp only [maxLen]; omega) (by omega) (by simp) ?qc)
    case qa => simpa using HA.out.len
    case qb => exact HA3.out.rd.keep0 (Keep.alloc _ _)
    case qc =>
      intro A1 c1 w4 hown1 hg1 _
      have hO1 : Own w4 w3.heap.size 5 A1 na c1 (l.map bv) := by unfold Own; simpa using hown1
      have hk4 : Keep0 w3 w4 := ((Keep.refl _ _).alloc' _).grown hg1 (by simp [Value.ownBlock])
      have hs4 := hk4.size
      clear hown1 hg1
      go_wp2_with (at_builtin; refine wpList_append_rd _ rfl (.tmp 65) (.tmp 66) _ rfl w3.heap.size 5 i0 _ 1 1 Try.underlying22 hi0 hz0 hz1 hz2 rfl (by omega) (.slice A1 na c1) na (l.map bv) rfl hO1 G B nb cb (m.map bv) rfl ?qd (HB3.out.keep0 hk4).rd (one_bv m) (by simp only [maxLen]; omega) (by omega) (by omega) ?qe)
      case qd => simpa using HB.out.len
      case qe =>
        intro A2 c2 w5 hown2 hg2 _
        have hO2 : Own w5 w3.heap.size 5 A2 (na + nb) c2 ((l ++ m).map bv) := by unfold Own; rw [List.map_append]; exact hown2
        have hk5 : Keep0 w3 w5 := hk4.grown hg2 fun k hk => .inr (hO1.row k hk).1
        clear hown2 hg2 hO1 hk4
        have hT5 := HT3.out.keep0 hk5
        -- the states
        obtain ⟨z, hz⟩ : ∃ z, z = DSt.new 100 := ⟨_, rfl⟩
        rw [← hz] at hT5
        have hzd : z.down = false := by rw [hz]; rfl
        have hza : z.armed = 0 := by rw [hz]; rfl
        have hzl : z.kept.length = 100 := by rw [hz]; rfl
        have hln := HA.out.len
        have hlm := HB.out.len
        obtain ⟨e1, _, _, e4⟩ := DSt.write_up z (i : Int) (l ++ m) (DSt.ask_ok z i _ hzd (by rw [List.length_append]; omega))
        rw [hza] at e1
        obtain ⟨f1, f2, f3, f4⟩ := DSt.write_up z (i : Int) l (DSt.ask_ok z i _ hzd (by omega))
        rw [hza] at f1 f2 f3
        obtain ⟨g1, _, _, g4⟩ := DSt.write_up (z.write (i : Int) l) (((i + na : Nat) : Nat) : Int) m (DSt.ask_ok _ (i + na) _ f2 (by rw [DSt.write_len]; omega))
        rw [f3] at g1
        have hsame : (z.write (i : Int) l).write (((i + na : Nat) : Nat) : Int) m = z.write (i : Int) (l ++ m) := by
          rw [g4, f4, e4, Int.toNat_natCast, Int.toNat_natCast, ← hln]
          exact put_two z i l m hza hzd
        have E1 : Hid (z.writeE (i : Int) (l ++ m) = 0) := e1
        have F1 : Hid (z.writeE (i : Int) l = 0) := f1
        have G1 : Hid ((z.write (i : Int) l).writeE (((i + na : Nat) : Nat) : Int) m = 0) := g1
        have HSAME := Lib.hid hsame
        have HT5 := Lib.hid hT5
        have HO2 := Lib.hid hO2
        have HA5 := Lib.hid (HA3.out.keep0 hk5)
        have HB5 := Lib.hid (HB3.out.keep0 hk5)
        have HK5 := Lib.hid hk5
        have hzq : Hid (z.kept.length = 100) := hzl
        clear e1 e4 f1 f2 f3 f4 g1 g4 hsame hT5 hO2 hk5 hz hzd hza hzl hln hlm
        go_wp2_with fail
        refine (two_write (i : Int) (l ++ m) (fun b => w3.heap.size ≤ b) A2 (na + nb) c2 (by omega) HO2.out.sl (by omega) HT5.out).mono ?_
        rintro e w6 ⟨rfl, hT6, _⟩
        rw [E1.out]
        have HA6 := Lib.hid ((HA.out.keep0 HK1.out).keep0 hT6.keep)
        have HT6 := Lib.hid hT6.swap
        clear hT6
        go_wp2_with fail
        refine (two_write (i : Int) l G A na ca (by omega) HA6.out (by omega) HT6.out).mono ?_
        rintro e w7 ⟨rfl, hT7, _⟩
        rw [F1.out]
        have HB7 := Lib.hid ((HB.out.keep0 HK1.out).keep0 hT7.keep)
        have HT7 := Lib.hid hT7
        clear hT7
        go_wp2_with fail
        rw [show ((i : Int) + (na : Int)) = (((i + na : Nat) : Nat) : Int) from by omega]
        refine (two_write (((i + na : Nat) : Nat) : Int) m G B nb cb (by omega) HB7.out (by omega) HT7.out).mono ?_
        rintro e w8 ⟨rfl, hT8, _⟩
        rw [G1.out]
        rw [HSAME.out] at hT8
        obtain ⟨t, ht⟩ : ∃ t, t = z.write (i : Int) (l ++ m) := ⟨_, rfl⟩
        rw [← ht] at hT8
        have htl : t.kept.length = 100 := by rw [ht, DSt.write_len]; exact hzq.out
        obtain ⟨u, hu⟩ : ∃ u, u = t.restart keep := ⟨_, rfl⟩
        have hul : u.kept.length = 100 := by rw [hu, DSt.restart_len]; exact htl
        have hud : u.down = false := by rw [hu]; rfl
        have r1 : u.ask 0 100 = 0 := DSt.ask_ok u 0 100 hud (by omega)
        have r2 : u.ask 0 40 = 0 := DSt.ask_ok u 0 40 hud (by omega)
        have r3 : u.ask 40 60 = 0 := DSt.ask_ok u 40 60 hud (by omega)
        have hall : u.readL 0 40 ++ u.readL 40 60 = u.readL 0 100 := by
          have q1 : u.readL 0 40 = (u.all.drop 0).take 40 := by unfold DSt.readL; rw [if_pos r2]; rfl
          have q2 : u.readL 40 60 = (u.all.drop 40).take 60 := by unfold DSt.readL; rw [if_pos r3]; rfl
          have q3 : u.readL 0 100 = (u.all.drop 0).take 100 := by unfold DSt.readL; rw [if_pos r1]; rfl
          rw [q1, q2, q3]
          exact read_two u
        have R1 : Hid (u.ask 0 100 = 0) := r1
        have R2 : Hid (u.ask 0 40 = 0) := r2
        have R3 : Hid (u.ask 40 60 = 0) := r3
        have HALL := Lib.hid hall
        have HU := Lib.hid hu
        have HT8 := Lib.hid hT8
        clear hT8 ht htl hu hul hud r1 r2 r3 hall
        go_wp2_with fail
        refine (two_pending HT8.out.swap).mono ?_
        rintro e w' ⟨rfl, rfl⟩
        go_wp2_with fail
        refine (two_pending HT8.out).mono ?_
        rintro e w' ⟨rfl, rfl⟩
        go_wp2_with fail
        refine (two_restart keep (by omega) HT8.out.swap).mono ?_
        rintro e w9 ⟨rfl, hT9, _⟩
        rw [← HU.out] at hT9
        have HT9 := Lib.hid hT9.swap
        clear hT9
        go_wp2_with fail
        refine (two_restart keep (by omega) HT9.out).mono ?_
        rintro e w10 ⟨rfl, hT10, _⟩
        rw [← HU.out] at hT10
        have HT10 := Lib.hid hT10.swap
        clear hT10
        go_wp2_with fail
        refine (two_read 0 100 (by omega) (by omega) HT10.out).mono ?_
        rintro e w11 ⟨A11, k11, c11, rfl, hs11, hT11, hk11, _⟩
        rw [R1.out]
        have HS11 := Lib.hid hs11
        have HT11 := Lib.hid hT11.swap
        clear hs11 hT11 hk11
        go_wp2_with fail
        refine (two_read 0 40 (by omega) (by omega) HT11.out).mono ?_
        rintro e w12 ⟨A12, k12, c12, rfl, hs12, hT12, hk12, _⟩
        rw [R2.out]
        have HS12 := Lib.hid hs12
        have HT12 := Lib.hid hT12
        have HS11' := Lib.hid (HS11.out.keep0 hk12)
        clear hs12 hT12 hk12 HS11
        go_wp2_with fail
        refine (two_read 40 60 (by omega) (by omega) HT12.out).mono ?_
        rintro e w13 ⟨A13, k13, c13, rfl, hs13, hT13, hk13, _⟩
        rw [R3.out]
        have st1 := (HS11'.out.keep0 hk13).str (P := Try.prog) 22 5 9 Try.underlying22 Try.underlying5 Try.underlying9
        have st2 := (HS12.out.keep0 hk13).str (P := Try.prog) 22 5 9 Try.underlying22 Try.underlying5 Try.underlying9
        have st3 := hs13.str (P := Try.prog) 22 5 9 Try.underlying22 Try.underlying5 Try.underlying9
        have HT13 := Lib.hid hT13.keep
        have hz1 : (strB (u.readL 0 40)).size ≤ 40 := by rw [strB_size]; unfold DSt.readL; split; exact List.length_take_le _ _; simp
        have hz2 : (strB (u.readL 40 60)).size ≤ 60 := by rw [strB_size]; unfold DSt.readL; split; exact List.length_take_le _ _; simp
        have hcat : strB (u.readL 0 40) ++ strB (u.readL 40 60) = strB (u.readL 0 100) := by rw [strB_append, HALL.out]
        have HCAT := Lib.hid hcat
        clear hs13 hT13 hk13 hcat
        go_wp2_with fail
        go_ret
        exact ⟨ret_b (by rw [HCAT.out]; simp), HK1.out.and0 HT13.out⟩
  · have hbr : at' < 0 ∨ (0 ≤ at' ∧ 50 < na) ∨ (0 ≤ at' ∧ na ≤ 50 ∧ 50 < nb) ∨ (0 ≤ at' ∧ na ≤ 50 ∧ nb ≤ 50 ∧ 100 - (na : Int) - (nb : Int) < at') := by omega
    clear hgo
    rcases hbr with h1 | ⟨h1, h2⟩ | ⟨h1, h2, h3⟩ | ⟨h1, h2, h3, h4⟩
    all_goals
      go_enter Try.func9, Try.ntmps9
      go_wp2_with fail
      refine (small17 w).mono ?_
      rintro e w1 ⟨rfl, hk1⟩
      go_wp2_with fail
      refine (one_new 100 w1).mono ?_
      rintro e w2 ⟨D, rfl, ho2⟩
      go_wp2_with fail
      refine (new_any 100 w2).mono ?_
      rintro e w3 ⟨E, rfl, hd3, hk3⟩
      have hkf := (hk1.and0 ho2.keep).and0 hk3
      clear hd3 hk3 ho2 hk1
      go_wp2_with fail
      go_ret
      exact ⟨rfl, hkf⟩
end Go.Proofs.Ytbdencfgiemliaa
