/-
  What the log reads of a half's bytes: contract of read, for a slice of 5 to 65536 bytes and a log whose base and records are nil.
-/
import Derived.Test.YtbdencfgiemliaaWal10
import Derived.Deep.RegionHeld3
namespace Go.Proofs.Ytbdencfgiemliaa
open Go.RowKit
set_option linter.unusedVariables false
set_option linter.unusedSimpArgs false
theorem Own.of5 {w : World} {base n c : Nat} {A : Option Addr} {l : List UInt8} (h : Own w base 5 A n c (l.map bv)) : ∀ (RA : Option Addr), (∀ b, BlkOf RA b → b < base) → Sl w (fun b => base ≤ b ∧ ¬ BlkOf RA b) A n c l :=
  fun RA hR => h.sl.mono fun b _ hb => ⟨hb, fun hx => by have := hR b hx; omega⟩
def lenV : Value → Nat
  | .slice _ n _ => n
  | _ => 0
theorem ownBlk_of {A : Option Addr} {n c b : Nat} (h : (Value.slice A n c).ownBlock = some b) : BlkOf A b := by
  cases A with
  | none => simp [Value.ownBlock] at h
  | some a => simp [Value.ownBlock] at h; exact ⟨a, rfl, h.symm⟩
theorem blkOf_own {A : Option Addr} {n c b : Nat} (h : BlkOf A b) : (Value.slice A n c).ownBlock = some b := by
  obtain ⟨a, rfl, rfl⟩ := h
  simp [Value.ownBlock]
theorem row_single (w : World) (v : Value) (hv : v.oneCell' = true) : ∀ j u, [v][j]? = some u → (w.alloc (.cells #[v] 22)).cell? ⟨w.heap.size, 0 + j, none⟩ = some u := one_cell w v 22
theorem lrep_mk {wr wf : World} {B G D half turn stop : Nat} {broken : Bool} {BA RA : Option Addr} {bn bc rn rc : Nat} {bl : List UInt8} {rows : List Row} (hk : Keep (fun b => b = G) wr wf)
    (hb : Blk wf G 86 (logCells D half turn stop (.slice BA bn bc) (.slice RA rn rc) broken)) (hbase : Sl wr (fun b => B ≤ b ∧ ¬ BlkOf RA b) BA bn bc bl) (hG : G < B) (hrecs : Rw wr RA rn rc (rows.map Row.val)) (hRB : ∀ b, BlkOf RA b → B ≤ b)
    (heach : ∀ r ∈ rows, Sl wr (fun b => B ≤ b ∧ ¬ BlkOf RA b) r.A r.n r.c r.bytes) (hb1 : bl.length ≤ 65536) (hb2 : ∀ r ∈ rows, r.bytes.length ≤ 65536) (hbd : half ≤ 1 ∧ turn ≤ 9223372036854775806 ∧ stop ≤ 65536) :
    LRep wf G D ⟨half, turn, stop, bl, rows.map Row.bytes, broken⟩ (fun b => b = G ∨ B ≤ b) :=
  ⟨BA, bn, bc, RA, rn, rc, rows,
    { blk := hb
      base := (hbase.keep hk fun b hx e => by have := hx.1; omega).mono fun b _ hx => ⟨.inr hx.1, ⟨fun e => by have := hx.1; omega, hx.2⟩⟩
      recs := hrecs.keep hk fun b hx e => by have := hRB b hx; omega
      each := fun r hr => ((heach r hr).keep hk fun b hx e => by have := hx.1; omega).mono fun b _ hx => ⟨.inr hx.1, ⟨fun e => by have := hx.1; omega, hx.2⟩⟩
      eq := rfl
      fG := .inl rfl
      fR := fun b hx => .inr (hRB b hx)
      bd := ⟨hb1, fun r hr => by
        obtain ⟨q, hq, rfl⟩ := List.mem_map.1 hr
        exact hb2 q hq, hbd.1, ⟨show (-1 : Int) ≤ (turn : Int) by omega, show (turn : Int) ≤ 9223372036854775806 by omega⟩, hbd.2.2⟩ }⟩
section
variable {X : Nat → Prop} {w : World} {D G : Nat} {half turn : Nat} {broken : Bool}
set_option maxRecDepth 20000
set_option maxHeartbeats 2000000
theorem lread_any (stop0 : Int) (half0 turn0 : Nat) (l : List UInt8) (A : Option Addr) (n c : Nat) (hsl : Sl w X A n c l) (hn5 : 5 ≤ n) (hn6 : n ≤ 65536) (hh : half ≤ 1) (ht : turn ≤ 9223372036854775806) (hG : Blk w G 86 (logCells D half turn stop0 (.slice none 0 0) (.slice none 0 0) broken)) (hXG : ¬ X G) :
    Calls Try.prog 71 #[.pointer (some ⟨G, 0, none⟩), .slice A n c] w fun e w' => e = .returned (.bool ((framesOf l).2.any fun x => x != 0)) ∧ Keep (fun b => b = G) w w' ∧
      LRep w' G D ⟨half, turn, l.length - (framesOf l).2.length, (framesOf l).1.headD [], (framesOf l).1.tail, broken⟩ (fun b => b = G ∨ w.heap.size ≤ b) := by
  have hl := hsl.len
  have hcap := hsl.cap
  have hmax := hsl.max
  have hmax' := hmax
  unfold maxLen at hmax'
  obtain ⟨i22, hi0, hz0, hz1, hz2⟩ := info_parts info22
  obtain ⟨ba, oa, rfl, hlA⟩ : ∃ ba oa, A = some ⟨ba, oa, none⟩ ∧ True := by
    rcases hsl.rd with h0 | ⟨b, o, hA, _, hc⟩
    · rw [List.map_eq_nil_iff] at h0; rw [h0] at hl; simp at hl; omega
    · exact ⟨b, o, hA, trivial⟩
  obtain ⟨AR, hAR⟩ : ∃ AR : Addr, AR = if c = 5 then ⟨ba, oa, none⟩ else ⟨ba, oa + 5, none⟩ := ⟨_, rfl⟩
  obtain ⟨Y, hY⟩ : ∃ Y : Nat → Prop, Y = fun b => X b ∧ b < w.heap.size := ⟨_, rfl⟩
  have hslY : Sl w Y (some ⟨ba, oa, none⟩) n c l := hsl.mono fun b hb hx => by rw [hY]; exact ⟨hx, hb⟩
  have hYlt : ∀ b, Y b → b < w.heap.size := fun b hb => by rw [hY] at hb; exact hb.2
  have hYX : ∀ b, Y b → X b := fun b hb => by rw [hY] at hb; exact hb.1
  clear hY
  have hrr : Sl w Y (some AR) (n - 5) (c - 5) (l.drop 5) := by
    have hd := hslY.drop 5 (by omega)
    rw [hAR]
    by_cases hc5 : c = 5
    · rw [if_pos hc5]
      have e0 : n - 5 = 0 := by omega
      refine ⟨by simp [hl], by omega, by unfold maxLen; omega, (fun h => by cases h), .inl ?_⟩
      rw [List.map_eq_nil_iff]
      exact List.eq_nil_of_length_eq_zero (by simp [hl, e0])
    · rw [if_neg hc5]
      exact hd
  have hsl5 : (if c = 5 then some (⟨ba, oa, none⟩ : Addr) else some ⟨ba, oa + 5, none⟩) = some AR := by rw [hAR]; split <;> rfl
  have hc5 : 5 ≤ c := by omega
  have HRR := Lib.hid hrr
  have HG := Lib.hid hG
  have HSL := Lib.hid hsl
  have HL := Lib.hid hl
  clear hrr hG hsl hslY hAR hl hlA
  go_enter Try.func71, Try.ntmps71
  go_wp2_with fail
  refine (first_any (l.drop 5) Y (some AR) (n - 5) (c - 5) w HRR.out (by omega)).mono ?_
  rintro e w1 ⟨A1, n1, c1, A2, n2, c2, rfl, ho1, hs2, hk1⟩
  have HO1 := Lib.hid ho1
  have HS2 := Lib.hid hs2
  have HK1 := Lib.hid hk1
  clear ho1 hs2 hk1
  go_wp2_with fail
  go_loopw [5, 6, 7, 8, 9] (fun fr rs he mo is wr => ∃ (FA : Option Addr) (fn fc : Nat) (rows : List Row) (RA : Option Addr) (rn rc : Nat) (lr : List UInt8) (HA : Option Addr) (hn hc : Nat) (MA : Option Addr) (mn mc k : Nat),
      fr = .slice FA fn fc ∧ rs = .slice RA rn rc ∧ he = .slice HA hn hc ∧ mo = .slice MA mn mc ∧ is = .bool (isFirst lr) ∧
      Hid (Own wr w.heap.size 22 FA fn fc (rows.map Row.val) ∧ (∀ r ∈ rows, Sl wr (fun b => w.heap.size ≤ b ∧ ¬ BlkOf FA b) r.A r.n r.c r.bytes) ∧ (∀ r ∈ rows, r.bytes.length ≤ 65536) ∧
        Sl wr Y RA rn rc lr ∧ Sl wr (fun b => w.heap.size ≤ b ∧ ¬ BlkOf FA b) HA hn hc (heldL lr) ∧ (isFirst lr = true → Sl wr Y MA mn mc (restL lr)) ∧ Keep0 w wr ∧
        lr.length ≤ k ∧ rows.map Row.bytes ++ (framesF k lr).1 = (framesOf l).1 ∧ (framesF k lr).2 = (framesOf l).2) ∧ fn + rn ≤ n) (fun _ rs _ _ _ _ => lenV rs)
  case atStart =>
    refine ⟨none, 0, 0, [], some AR, n - 5, c - 5, l.drop 5, A1, n1, c1, A2, n2, c2, l.length, rfl, rfl, rfl, rfl, rfl, ⟨own_nil _ _ _, by simp, by simp, HRR.out.keep0 HK1.out, ?_, fun _ => HS2.out, HK1.out, by simp, rfl, rfl⟩, by omega⟩
    exact HO1.out.of5 none fun b hb => by obtain ⟨a, ha, _⟩ := hb; cases ha
  case round =>
    obtain ⟨FA, fn, fc, rows, RA, rn, rc, lr, HA, hn, hc, MA, mn, mc, k, rfl, rfl, rfl, rfl, rfl, HI, hfr⟩ := hrel
    by_cases hfst : isFirst lr = true
    · rw [hfst]
      obtain ⟨hown, hrows, hbds, hrest, hheld, hmore, hk, hlk, hf1, hf2⟩ := HI.out
      have hmore := hmore hfst
      have hrlen := hrest.len
      have hmlen := hmore.len
      have hrlt := restL_lt hfst
      have hsz := hk.size
      have hhl := heldL_le lr
      have hheldlen := hheld.len
      obtain ⟨k, rfl⟩ : ∃ k', k = k' + 1 := ⟨k - 1, by omega⟩
      rw [framesF_yes hfst] at hf1 hf2
      have HOWN := Lib.hid hown
      have HROWS := Lib.hid hrows
      have HBDS := Lib.hid hbds
      have HREST := Lib.hid hrest
      have HHELD := Lib.hid hheld
      have HMORE := Lib.hid hmore
      have HKK := Lib.hid hk
      have HF1 := Lib.hid hf1
      have HF2 := Lib.hid hf2
      have hmn : mn ≤ 65536 := by omega
      have HLR : Hid ((restL lr).length ≤ k) := by show (restL lr).length ≤ k; omega
      have hmn2 : mn + 5 ≤ rn := by omega
      have HHL : Hid ((heldL lr).length ≤ 65536) := by show (heldL lr).length ≤ 65536; omega
      have hfn : fn ≤ 65536 := by omega
      clear HI hown hrows hbds hrest hheld hmore hk hf1 hf2 hrlt hhl hheldlen hlk hrlen hmlen
      go_wp2_with (at_builtin; refine wpList_append_rd _ rfl (.tmp 25) (.tmp 27) _ rfl w.heap.size 22 i22 _ 1 24 Try.underlying62 hi0 hz0 hz1 hz2 rfl (by omega) (.slice FA fn fc) fn _ rfl (HOWN.out.keep0 (Keep.alloc _ _)) (fun _ => True) (some ⟨wr.heap.size, 0, none⟩) 1 1 [.slice HA hn hc] rfl rfl (.inr ⟨_, _, rfl, trivial, one_cell _ _ _⟩) (by simp [Value.oneCell']) (by simp only [maxLen]; omega) (by omega) (by simp; omega) ?qd)
      case qd =>
        intro A3 c3 w3 hown3 hg3 hat3
        have hO3 : Own w3 w.heap.size 22 A3 (fn + 1) c3 ((rows ++ [(⟨HA, hn, hc, heldL lr⟩ : Row)]).map Row.val) := by
          unfold Own
          rw [List.map_append]
          exact hown3
        have hk23 : Keep (fun b => BlkOf FA b) wr w3 := ((Keep.alloc wr (.cells #[.slice HA hn hc] 22)).of0 _).andThen (Keep.ofGrown hg3 fun b hb => ownBlk_of hb)
        have hk3 : Keep0 w w3 := (HKK.out.alloc' _).grown hg3 fun b hb => .inr (HOWN.out.row b hb).1
        have hA3 : ∀ b, b < wr.heap.size → BlkOf A3 b → BlkOf FA b := by
          intro b hb hx
          rcases hat3 with e | e
          · have h1 := blkOf_own (n := fn + 1) (c := c3) hx
            rw [e] at h1
            exact ownBlk_of h1
          · have h1 := blkOf_own (n := fn + 1) (c := c3) hx
            rw [e] at h1
            injection h1 with h1
            omega
        have hrows3 : ∀ r ∈ rows ++ [(⟨HA, hn, hc, heldL lr⟩ : Row)], Sl w3 (fun b => w.heap.size ≤ b ∧ ¬ BlkOf A3 b) r.A r.n r.c r.bytes := by
          intro r hr
          have h0 : Sl wr (fun b => w.heap.size ≤ b ∧ ¬ BlkOf FA b) r.A r.n r.c r.bytes := by
            rcases List.mem_append.1 hr with h | h
            · exact HROWS.out r h
            · rw [List.mem_singleton] at h
              subst h
              exact HHELD.out
          exact (h0.mono (G := fun b => (w.heap.size ≤ b ∧ ¬ BlkOf FA b) ∧ ¬ BlkOf A3 b) fun b hb hx => ⟨hx, fun hy => hx.2 (hA3 b hb hy)⟩).keep hk23 (fun b hb => hb.1.2) |>.mono fun b _ hb => ⟨hb.1.1, hb.2⟩
        have hbds3 : ∀ r ∈ rows ++ [(⟨HA, hn, hc, heldL lr⟩ : Row)], r.bytes.length ≤ 65536 := by
          intro r hr
          rcases List.mem_append.1 hr with h | h
          · exact HBDS.out r h
          · rw [List.mem_singleton] at h
            subst h
            exact HHL.out
        have hmore3 : Sl w3 Y MA mn mc (restL lr) := HMORE.out.keep hk23 fun b hb hx => by
          have h1 := (HOWN.out.row b (blkOf_own (n := fn) (c := fc) hx)).1
          have h2 := hYlt b hb
          omega
        have HO3 := Lib.hid hO3
        have HR3 := Lib.hid hrows3
        have HB3 := Lib.hid hbds3
        have HM3 := Lib.hid hmore3
        have HK3 := Lib.hid hk3
        have hlt3 : ∀ b, BlkOf A3 b → b < w3.heap.size := hO3.rw_.1.lt
        have HLT3 := Lib.hid hlt3
        clear hown3 hg3 hat3 hO3 hk23 hk3 hA3 hrows3 hbds3 hmore3 hlt3
        go_wp2_with fail
        refine (first_any (restL lr) Y MA mn mc w3 HM3.out hmn).mono ?_
        rintro e w4 ⟨A5, n5, c5, A6, n6, c6, rfl, ho5, hs6, hk4⟩
        have HH5 := Lib.hid (ho5.of5 A3 HLT3.out)
        have HS6 := Lib.hid hs6
        have HK4 := Lib.hid hk4
        clear ho5 hs6 hk4
        go_wp2_with fail
        go_roundw
        case rel =>
          refine ⟨A3, fn + 1, c3, rows ++ [(⟨HA, hn, hc, heldL lr⟩ : Row)], MA, mn, mc, restL lr, A5, n5, c5, A6, n6, c6, k, rfl, rfl, rfl, rfl, rfl, ⟨HO3.out.keep0 HK4.out, fun r hr => (HR3.out r hr).keep0 HK4.out, HB3.out, HM3.out.keep0 HK4.out, HH5.out.mono fun b hb hx => ⟨Nat.le_trans HK3.out.size hx.1, hx.2⟩, fun _ => HS6.out, HK3.out.and0 HK4.out, HLR.out, ?_, HF2.out⟩, by omega⟩
          rw [List.map_append, List.append_assoc]
          exact HF1.out
        case measure => simp [lenV]; omega
    · have hfst' : isFirst lr = false := by simpa using hfst
      rw [hfst']
      obtain ⟨hown, hrows, hbds, hrest, -, -, hk, hlk, hf1, hf2⟩ := HI.out
      rw [framesF_no hfst'] at hf1 hf2
      rw [List.append_nil] at hf1
      have hrlen := hrest.len
      have HOWN := Lib.hid hown
      have HROWS := Lib.hid hrows
      have HBDS := Lib.hid hbds
      have HREST := Lib.hid hrest
      have HKK := Lib.hid hk
      have hf2' : lr = (framesOf l).2 := hf2
      have HF1 := Lib.hid hf1
      have HF2 := Lib.hid hf2'
      have HRL := Lib.hid hrlen
      have hGk : Blk wr G 86 (logCells D half turn stop0 (.slice none 0 0) (.slice none 0 0) broken) := HG.out.keep0 hk
      have hGf := hGk.frozen
      obtain ⟨-, -, -, hc3, hc4, hc5', -, -⟩ := log_cells hGk
      have HGK := Lib.hid hGk
      have hGlt := HG.out.lt
      have hstop : ((n : Int) - (rn : Int)) = ((l.length - (framesOf l).2.length : Nat) : Int) := by rw [HL.out, ← HF2.out, HRL.out]; omega
      have HST := Lib.hid hstop
      have hst6 : l.length - (framesOf l).2.length ≤ 65536 := by rw [HL.out]; omega
      rcases rows with _ | ⟨r0, rows⟩
      · obtain rfl : fn = 0 := by have := HOWN.out.len; simp at this; omega
        clear HI hown hrows hbds hrest hk hf1 hf2 hf2' hlk hrlen hfst hfst' hGk hstop
        go_wp2_with fail
        have hset := HGK.out.set_ 3 (.int .i64 ((n : Int) - (rn : Int)))
        have hkset : Keep (fun b => b = G) wr (wr.setCell ⟨G, 3, none⟩ (.int .i64 ((n : Int) - (rn : Int)))) := Keep.setCell (S := fun b => b = G) wr ⟨G, 3, none⟩ _ rfl
        obtain ⟨ws, hws⟩ : ∃ ws, ws = wr.setCell ⟨G, 3, none⟩ (.int .i64 ((n : Int) - (rn : Int))) := ⟨_, rfl⟩
        rw [← hws] at hset hkset ⊢
        have HSET := Lib.hid hset
        have HKS := Lib.hid hkset
        clear hws hset hkset
        refine (contains_any lr Y RA rn rc ws (HREST.out.keep HKS.out fun b hb e => hXG (by rw [← e]; exact hYX b hb))).mono ?_
        rintro e w' ⟨rfl, rfl⟩
        rw [HF2.out]
        go_wp2_with fail
        go_ret
        refine ⟨rfl, (HKK.out.of0 _).andThen HKS.out, ?_⟩
        have hb : Blk ws G 86 (logCells D half turn ((l.length - (framesOf l).2.length : Nat) : Int) (.slice none 0 0) (.slice none 0 0) broken) := by rw [← HST.out]; exact HSET.out
        rw [← HF1.out]
        exact lrep_mk (B := w.heap.size) HKS.out hb (sl_nil _ _) hGlt (rw_nil _) (fun b hb => by obtain ⟨a, ha, _⟩ := hb; cases ha) (rows := []) (by simp) (by simp) (by simp) ⟨hh, ht, hst6⟩
      · obtain ⟨g, cur, rfl, hgB, hgblk, hfnc, hfcm, hcsz, hcur⟩ : ∃ g cur, FA = some ⟨g, 0, none⟩ ∧ w.heap.size ≤ g ∧ Blk wr g 22 cur ∧ fn ≤ fc ∧ fc ≤ maxLen ∧ cur.size = fc ∧ cur.toList.take fn = r0.val :: rows.map Row.val := by
          rcases HOWN.out.form with ⟨_, _, _, h4⟩ | h4
          · simp at h4
          · exact h4
        have hfn1 : fn = rows.length + 1 := by have := HOWN.out.len; simp at this; omega
        have hcell0 : wr.cell? ⟨g, 0, none⟩ = some (.slice r0.A r0.n r0.c) := by
          rw [hgblk.cell]
          have h1 : (cur.toList.take fn)[0]? = some r0.val := by rw [hcur]; rfl
          rw [List.getElem?_take, if_pos (by omega)] at h1
          simpa [Row.val] using h1
        have hfn0 : 0 < fn := by omega
        have hfn2 : (1 : Int) ≤ (fn : Int) := by omega
        have hfn3 : 1 ≤ fn := by omega
        have hfc1 : 1 ≤ fc := by omega
        have hne : g ≠ G := fun e => by omega
        obtain ⟨R1, hR1, hR1b⟩ : ∃ R1 : Addr, (if fc = 1 then some (⟨g, 0, none⟩ : Addr) else some ⟨g, 1, none⟩) = some R1 ∧ R1.block = g := by
          by_cases h1 : fc = 1
          · exact ⟨⟨g, 0, none⟩, by rw [if_pos h1], rfl⟩
          · exact ⟨⟨g, 1, none⟩, by rw [if_neg h1], rfl⟩
        have hrw : Rw wr (some R1) (fn - 1) (fc - 1) (rows.map Row.val) := by
          refine ⟨by simp; omega, by omega, by unfold maxLen at *; omega, .inr ?_⟩
          by_cases h1 : fc = 1
          · rw [if_pos h1] at hR1
            injection hR1 with hR1
            refine ⟨g, 0, cur, by rw [← hR1], hgblk, by omega, fun j u hu => ?_⟩
            have : rows = [] := List.eq_nil_of_length_eq_zero (by omega)
            subst this
            simp at hu
          · rw [if_neg h1] at hR1
            injection hR1 with hR1
            refine ⟨g, 1, cur, by rw [← hR1], hgblk, by omega, fun j u hu => ?_⟩
            have h2 : (cur.toList.take fn)[1 + j]? = some u := by rw [hcur, Nat.add_comm, List.getElem?_cons_succ]; exact hu
            rw [List.getElem?_take] at h2
            split at h2
            · simpa using h2
            · cases h2
        have HRW := Lib.hid hrw
        have HR1 := Lib.hid hR1
        have hBR : ∀ b, BlkOf (some R1) b → b = g := fun b hb => by
          obtain ⟨a, ha, rfl⟩ := hb
          injection ha with ha
          rw [← ha, hR1b]
        have HBR := Lib.hid hBR
        have HGB := Lib.hid hgblk
        clear HI hown hrows hbds hrest hk hf1 hf2 hf2' hlk hrlen hfst hfst' hGk hstop hcur hrw hBR hgblk hR1b
        have hR1' := HR1.out
        have HFN := Lib.hid hfn1
        clear hfn1
        have hset := HGK.out.set_ 3 (.int .i64 ((n : Int) - (rn : Int)))
        have hkset : Keep (fun b => b = G) wr (wr.setCell ⟨G, 3, none⟩ (.int .i64 ((n : Int) - (rn : Int)))) := Keep.setCell (S := fun b => b = G) wr ⟨G, 3, none⟩ _ rfl
        have HSET := Lib.hid hset
        have HKS := Lib.hid hkset
        clear hset hkset
        go_wp2_with fail
        obtain ⟨ws, hws⟩ : ∃ ws, ws = wr.setCell ⟨G, 3, none⟩ (.int .i64 ((n : Int) - (rn : Int))) := ⟨_, rfl⟩
        rw [← hws] at HSET HKS ⊢
        clear hws hc3 hc4 hc5' hGf
        have hs0 : ws.cell? ⟨g, 0, none⟩ = some (.slice r0.A r0.n r0.c) := HKS.out.cell_some hcell0 hne
        have hc4 : ws.cell? ⟨G, 4, none⟩ = some (.slice none 0 0) := HSET.out.cell 4
        have hc5' : ws.cell? ⟨G, 5, none⟩ = some (.slice none 0 0) := HSET.out.cell 5
        have hGf := HSET.out.frozen
        have hd4 : ws.drew.cell? ⟨G, 4, none⟩ = some (.slice none 0 0) := hc4
        have hkS : ∀ W, Keep (fun b => b = G) ws.drew W → (fun W => W.cell? ⟨g, 0, none⟩ = some (.slice r0.A r0.n r0.c)) W := fun W hW => hW.cell_some (p := ⟨g, 0, none⟩) hs0 hne
        refine wp_region_held_drew (S := fun W => W.cell? ⟨g, 0, none⟩ = some (.slice r0.A r0.n r0.c)) (by kernel_rfl) hs0 (fun hHeld => ?_)
        refine wpAnyH_take (i := 0) (oi := ⟨_, _, _, _, _, _⟩) (v := ?_) rfl (by kernel_rfl) (by kernel_rfl) (by kernel_rfl) (fun _ _ _ h => h) (Or.inl ⟨by rfl, ?_⟩) (by assumption) ?_
        rotate_left
        · intro W hSw; (try dsimp only at hSw); go_simp; try with_reducible rfl
        try simp only [Act.put, List.setIfInBounds_toArray, List.set_cons_zero, List.set_cons_succ]
        refine wpAnyH_take (i := 2) (oi := ⟨_, _, _, _, _, _⟩) (v := ?_) rfl (by kernel_rfl) (by kernel_rfl) (by kernel_rfl) (fun _ _ _ h => h) (Or.inl ⟨by rfl, ?_⟩) (by assumption) ?_
        rotate_left
        · intro W hSw; (try dsimp only at hSw); go_simp; try with_reducible rfl
        try simp only [Act.put, List.setIfInBounds_toArray, List.set_cons_zero, List.set_cons_succ]
        refine wpAnyH_take (i := 3) (oi := ⟨_, _, _, _, _, _⟩) (v := ?_) rfl (by kernel_rfl) (by kernel_rfl) (by kernel_rfl) (fun _ _ _ h => h) (Or.inl ⟨by rfl, ?_⟩) (by assumption) ?_
        rotate_left
        · intro W hSw; (try dsimp only at hSw); go_simp; try with_reducible rfl
        try simp only [Act.put, List.setIfInBounds_toArray, List.set_cons_zero, List.set_cons_succ]
        refine wpAnyH_take (i := 4) (oi := ⟨_, _, _, _, _, _⟩) (v := ?_) rfl (by kernel_rfl) (by kernel_rfl) (by kernel_rfl) (fun _ _ _ h => h) (Or.inl ⟨by rfl, ?_⟩) (by assumption) ?_
        rotate_left
        · intro W hSw; (try dsimp only at hSw); go_simp; try with_reducible rfl
        try simp only [Act.put, List.setIfInBounds_toArray, List.set_cons_zero, List.set_cons_succ]
        refine wpAnyH_take (i := 5) (oi := ⟨_, _, _, _, _, _⟩) (v := ?_) rfl (by kernel_rfl) (by kernel_rfl) (by kernel_rfl) (fun _ _ _ h => h) (Or.inl ⟨by rfl, ?_⟩) (by assumption) ?_
        rotate_left
        · intro W hSw; (try dsimp only at hSw); go_simp; try with_reducible rfl
        try simp only [Act.put, List.setIfInBounds_toArray, List.set_cons_zero, List.set_cons_succ]
        refine wpAnyH_take (i := 6) (oi := ⟨_, _, _, _, _, _⟩) (v := ?_) rfl (by kernel_rfl) (by kernel_rfl) (by kernel_rfl) (fun _ _ _ h => h) (Or.inl ⟨by rfl, ?_⟩) (by assumption) ?_
        rotate_left
        · intro W hSw; (try dsimp only at hSw); go_simp; try with_reducible rfl
        try simp only [Act.put, List.setIfInBounds_toArray, List.set_cons_zero, List.set_cons_succ]
        refine wpAnyH_take (i := 1) (oi := ⟨_, _, _, _, _, _⟩) (v := ?_) rfl (by kernel_rfl) (by kernel_rfl) (by kernel_rfl) (fun _ _ _ h => h) (Or.inl ⟨by rfl, ?_⟩) (by assumption) ?_
        rotate_left
        · intro W hSw; (try dsimp only at hSw); go_simp; try with_reducible rfl
        try simp only [Act.put, List.setIfInBounds_toArray, List.set_cons_zero, List.set_cons_succ]
        refine wpAnyH_take (i := 7) (oi := ⟨_, _, _, _, _, _⟩) (v := ?_) rfl (by kernel_rfl) (by kernel_rfl) (by kernel_rfl) (fun _ _ _ h => h) (Or.inl ⟨by rfl, ?_⟩) (by assumption) ?_
        rotate_left
        · intro W hSw; (try dsimp only at hSw); go_simp; try with_reducible rfl
        try simp only [Act.put, List.setIfInBounds_toArray, List.set_cons_zero, List.set_cons_succ]
        refine wpAnyH_take (i := 8) (oi := ⟨_, _, _, _, _, _⟩) (v := ?_) rfl (by kernel_rfl) (by kernel_rfl) (by kernel_rfl) (fun _ _ _ h => h) (Or.inl ⟨by rfl, ?_⟩) (by assumption) ?_
        rotate_left
        · intro W hSw; (try dsimp only at hSw); go_simp; try with_reducible rfl
        try simp only [Act.put, List.setIfInBounds_toArray, List.set_cons_zero, List.set_cons_succ]
        refine wpAnyH_ready (rs := [9]) (by kernel_rfl) (by simp) ?_
        refine AllReadyH.cons (o := ⟨_, _, _, _, _, _⟩) rfl (fun K hK => ?_) AllReadyH.nil
        go_simp
        refine hK.out _ _ ?_ (fun hHeld => ?_)
        · exact hkS _ ((Keep.refl (fun b => b = G) _).set' _ _ (.inl rfl))
        clear hK K
        try simp only [Act.put, List.setIfInBounds_toArray, List.set_cons_zero, List.set_cons_succ]
        refine wpAnyH_take (i := 10) (oi := ⟨_, _, _, _, _, _⟩) (v := ?_) rfl (by kernel_rfl) (by kernel_rfl) (by kernel_rfl) (fun _ _ _ h => h) (Or.inl ⟨by rfl, ?_⟩) (by assumption) ?_
        rotate_left
        · intro W hSw; (try dsimp only at hSw); go_simp; try with_reducible rfl
        try simp only [Act.put, List.setIfInBounds_toArray, List.set_cons_zero, List.set_cons_succ]
        refine wpAnyH_take (i := 11) (oi := ⟨_, _, _, _, _, _⟩) (v := ?_) rfl (by kernel_rfl) (by kernel_rfl) (by kernel_rfl) (fun _ _ _ h => h) (Or.inl ⟨by rfl, ?_⟩) (by assumption) ?_
        rotate_left
        · intro W hSw; (try dsimp only at hSw); go_simp; try with_reducible rfl
        try simp only [Act.put, List.setIfInBounds_toArray, List.set_cons_zero, List.set_cons_succ]
        refine wpAnyH_ready (rs := [12]) (by kernel_rfl) (by simp) ?_
        refine AllReadyH.cons (o := ⟨_, _, _, _, _, _⟩) rfl (fun K hK => ?_) AllReadyH.nil
        go_simp
        refine hK.out _ _ ?_ (fun hHeld => ?_)
        · exact hkS _ (((Keep.refl (fun b => b = G) _).set' _ _ (.inl rfl)).set' _ _ (.inl rfl))
        clear hK K
        try simp only [Act.put, List.setIfInBounds_toArray, List.set_cons_zero, List.set_cons_succ]
        refine wpAnyH_done (by kernel_rfl) ?_ _
        have hset := (HSET.out.set_ 4 (.slice r0.A r0.n r0.c)).set_ 5 (.slice (some R1) (fn - 1) (fc - 1))
        have hkset : Keep (fun b => b = G) wr ((ws.setCell ⟨G, 4, none⟩ (.slice r0.A r0.n r0.c)).setCell ⟨G, 5, none⟩ (.slice (some R1) (fn - 1) (fc - 1))).drew :=
          ((HKS.out.set' ⟨G, 4, none⟩ _ (.inl rfl)).set' ⟨G, 5, none⟩ _ (.inl rfl)).drew'
        obtain ⟨wf, hwf⟩ : ∃ wf, wf = ((ws.setCell ⟨G, 4, none⟩ (.slice r0.A r0.n r0.c)).setCell ⟨G, 5, none⟩ (.slice (some R1) (fn - 1) (fc - 1))).drew := ⟨_, rfl⟩
        have hset' := hset.keep0 (Keep.drew _)
        rw [← hwf] at hset' hkset ⊢
        have HSF := Lib.hid hset'
        have HKF := Lib.hid hkset
        clear hwf hset hset' hkset hkS hs0 hc4 hc5' hGf hd4 hHeld hR1' hcell0
        go_wp2_with fail
        refine (contains_any lr Y RA rn rc wf (HREST.out.keep HKF.out fun b hb e => hXG (by rw [← e]; exact hYX b hb))).mono ?_
        rintro e w' ⟨rfl, rfl⟩
        rw [HF2.out]
        go_wp2_with fail
        go_ret
        refine ⟨rfl, (HKK.out.of0 _).andThen HKF.out, ?_⟩
        have hb : Blk wf G 86 (logCells D half turn ((l.length - (framesOf l).2.length : Nat) : Int) (.slice r0.A r0.n r0.c) (.slice (some R1) (fn - 1) (fc - 1)) broken) := by rw [← HST.out]; exact HSF.out
        rw [← HF1.out]
        refine lrep_mk (B := w.heap.size) HKF.out hb ((HROWS.out r0 (by simp)).mono fun b _ hx => ⟨hx.1, fun hy => hx.2 ⟨_, rfl, HBR.out b hy⟩⟩) hGlt HRW.out (fun b hb => by rw [HBR.out b hb]; exact hgB)
          (fun r hr => (HROWS.out r (by simp [hr])).mono fun b _ hx => ⟨hx.1, fun hy => hx.2 ⟨_, rfl, HBR.out b hy⟩⟩) (HBDS.out r0 (by simp)) (fun r hr => HBDS.out r (by simp [hr])) ⟨hh, ht, hst6⟩
end
end Go.Proofs.Ytbdencfgiemliaa
