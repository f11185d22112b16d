/-
  Contract of a disk's lay: what was written, the first bytes so many, is laid over a slice.
-/
import Derived.Test.YtbdencfgiemliaaDisk3
namespace Go.Proofs.Ytbdencfgiemliaa
open Go.RowKit
theorem flat_take_succ (ents : List Ent) (i : Nat) (h : i < ents.length) : (ents.take (i + 1)).flatMap Ent.waits = (ents.take i).flatMap Ent.waits ++ (ents[i]).waits := by
  rw [List.take_succ_eq_append_getElem h, List.flatMap_append]; simp
theorem ent_cells (ents : List Ent) (i : Nat) (h : i < ents.length) : (ents.flatMap Ent.cells)[i * 2]? = some (.int .i64 (ents[i].at' : Int)) ∧ (ents.flatMap Ent.cells)[i * 2 + 1]? = some (.slice ents[i].A ents[i].n ents[i].c) := by
  induction ents generalizing i with
  | nil => simp at h
  | cons e t ih =>
    rcases i with _ | i
    · simp [Ent.cells]
    · have := ih i (by simpa using h)
      simp only [List.flatMap_cons, Ent.cells, List.getElem_cons_succ]
      rw [show (i + 1) * 2 = i * 2 + 2 by omega, show i * 2 + 2 + 1 = (i * 2 + 1) + 2 by omega]
      simpa [Ent.cells] using this
theorem ents_len {w : World} {v : Value} {pn : Nat} {ents : List Ent} (h : w.ownsRow 0 81 2 v pn (ents.flatMap Ent.cells)) : ents.length = pn := by
  have h1 := h.1
  have : ∀ l : List Ent, (l.flatMap Ent.cells).length = l.length * 2 := by
    intro l
    induction l with
    | nil => rfl
    | cons e t ih => rw [List.flatMap_cons, List.length_append, ih]; simp [Ent.cells]; omega
  rw [this] at h1
  omega
theorem flat_prefix (ents : List Ent) (k : Nat) (h : k < ents.length) (i : Nat) (hi : i ≤ ents[k].bytes.length) :
    (ents.flatMap Ent.waits).take (((ents.take k).flatMap Ent.waits).length + i) = (ents.take k).flatMap Ent.waits ++ at_ ents[k].at' (ents[k].bytes.take i) := by
  have h1 : ents.flatMap Ent.waits = (ents.take k).flatMap Ent.waits ++ ((ents[k]).waits ++ (ents.drop (k + 1)).flatMap Ent.waits) := by
    conv => lhs; rw [← List.take_append_drop k ents, List.drop_eq_getElem_cons h]
    rw [List.flatMap_append, List.flatMap_cons]
  rw [h1, List.take_length_add_append]
  congr 1
  have h2 : (ents[k]).waits = at_ ents[k].at' (ents[k].bytes.take i) ++ at_ (ents[k].at' + (ents[k].bytes.take i).length) (ents[k].bytes.drop i) := by
    unfold Ent.waits
    rw [← at_append, List.take_append_drop]
  rw [h2, List.append_assoc]
  have h3 : (at_ ents[k].at' (ents[k].bytes.take i)).length = i := by rw [at_len, List.length_take]; omega
  rw [List.take_append_of_le_length (by omega), List.take_of_length_le (by omega)]
theorem at_take_succ (l : List UInt8) (a i : Nat) (h : i < l.length) : at_ a (l.take (i + 1)) = at_ a (l.take i) ++ [(a + i, l[i])] := by
  rw [List.take_succ_eq_append_getElem h, at_append]
  have : (l.take i).length = i := by rw [List.length_take]; omega
  rw [this]; rfl
set_option maxRecDepth 20000
set_option maxHeartbeats 1000000
theorem lay_any {w : World} {base n c D pn pc : Nat} {A P : Option Addr} {o : List UInt8} {ents : List Ent} {G : Nat → Prop} (start most : Nat) (hst : start < 4611686018427387904) (hmo : most < 4611686018427387904)
    (hc1 : w.cell? ⟨D, 1, none⟩ = some (.slice P pn pc)) (hpend : w.ownsRow 0 81 2 (.slice P pn pc) pn (ents.flatMap Ent.cells)) (heach : ∀ e ∈ ents, Sl w G e.A e.n e.c e.bytes) (hown : Own w base 5 A n c (o.map bv))
    (hG : ∀ b, G b → ¬ BlkOf A b) (hP : ∀ g, (Value.slice P pn pc).ownBlock = some g → ¬ BlkOf A g) (hbd : ∀ e ∈ ents, e.at' + e.bytes.length < 4611686018427387904) (hpn : pn < 4611686018427387904) :
    Calls Try.prog 59 #[.pointer (some ⟨D, 0, none⟩), .slice A n c, .int .i64 (start : Int), .int .i64 (most : Int)] w fun e w' => e = .returned (.tuple #[]) ∧ Own w' base 5 A n c ((layAll start o ((ents.flatMap Ent.waits).take most)).map bv) ∧ Keep (BlkOf A) w w' := by
  have hel := ents_len hpend
  have HP := Lib.hid hpend
  have HE := Lib.hid heach
  have HO := Lib.hid hown
  have HBD := Lib.hid hbd
  have HEL := Lib.hid hel
  have hAlt : ∀ b, BlkOf A b → b < w.heap.size := by
    rintro b ⟨a, rfl, rfl⟩
    exact (hown.row a.block rfl).2
  have HN : Hid (∀ b, w.heap.size ≤ b → ¬ BlkOf A b) := fun b hb hx => by have := hAlt b hx; omega
  clear hpend heach hown hbd hel hAlt
  have hcc : ∀ o1 o2, ((w.alloc o1).alloc o2).cell? ⟨D, 1, none⟩ = some (.slice P pn pc) := fun o1 o2 => (((Keep.alloc w o1).alloc' o2).cell_some hc1 fun hb => hb)
  go_enter Try.func59, Try.ntmps59
  go_wp2_with fail
  obtain ⟨wb, hwb⟩ : ∃ wb, wb = (w.alloc (.cells #[.slice A n c] 22)).alloc (.cells #[.int .i64 (start : Int)] 3) := ⟨_, rfl⟩
  rw [← hwb]
  have hk0 : Keep0 w wb := by rw [hwb]; exact (Keep.alloc w _).alloc' _
  have h5 : wb.cell? ⟨w.heap.size, 0, none⟩ = some (.slice A n c) := by
    rw [hwb]; exact ((Blk.new w 22 #[.slice A n c]).alloc _).cell 0
  have h6 : wb.cell? ⟨w.heap.size + 1, 0, none⟩ = some (.int .i64 (start : Int)) := by
    rw [hwb]; simp
  have H5 := Lib.hid h5
  have H6 := Lib.hid h6
  clear hcc hwb h5 h6 hc1
  go_loopw [3, 19] (fun mo i wr => ∃ k r : Nat, k ≤ pn ∧ i = .int .i64 k ∧ mo = .int .i64 r ∧ Hid (r + ((ents.take k).flatMap Ent.waits).length = most) ∧ Own wr base 5 A n c ((layAll start o ((ents.take k).flatMap Ent.waits)).map bv) ∧ Keep (BlkOf A) wb wr) (fun _ i _ => pn - (intOf i).toNat)
  case atStart => exact ⟨0, most, Nat.zero_le _, rfl, rfl, by simp [Hid], HO.out.keep0 hk0, Keep.refl _ _⟩
  case round =>
    obtain ⟨k, r, hk, rfl, rfl, HR, hown, hkr⟩ := hrel
    obtain ⟨wo, rfl⟩ : ∃ wo : World, wo = wr := ⟨_, rfl⟩
    by_cases hlt : k < pn
    · have hke : k < ents.length := by rw [HEL.out]; exact hlt
      obtain ⟨e, he⟩ : ∃ e, e = ents[k] := ⟨_, rfl⟩
      have hes := HE.out e (by rw [he]; exact List.getElem_mem hke)
      obtain ⟨hq0, hq1⟩ := ent_cells ents k hke
      rw [← he] at hq0 hq1
      obtain ⟨g, rfl, hgb, hqc⟩ : ∃ g, P = some ⟨g, 0, none⟩ ∧ ¬ BlkOf A g ∧ ∀ j u, (ents.flatMap Ent.cells)[j]? = some u → wo.cell? ⟨g, j, none⟩ = some u := by
        rcases HP.out.2 with ⟨hv, h0⟩ | ⟨g, cap, cur, hv, _, hb, _, _, _, ht⟩
        · omega
        · simp only [Value.slice.injEq, true_and] at hv
          obtain ⟨rfl, rfl⟩ := hv
          refine ⟨g, rfl, hP g rfl, fun j u hu => ?_⟩
          have h1 := HP.out.cells (g := g) rfl j u hu
          rw [show (⟨g, 0, none⟩ : Addr).add j = ⟨g, j, none⟩ by unfold Addr.add; split <;> simp_all] at h1
          exact hkr.cell_some (hk0.cell_some h1 fun hb => hb) (hP g rfl)
      have hr0 := hqc _ _ hq0
      have hr1 := hqc _ _ hq1
      clear hq0 hq1 hqc
      have HS := Lib.hid hes
      have HO2 := Lib.hid hown
      have HK2 := Lib.hid hkr
      have HEE := Lib.hid he
      clear hes hown hkr he
      obtain ⟨dn, hdn⟩ : ∃ dn, dn = (ents.take k).flatMap Ent.waits := ⟨_, rfl⟩
      rw [← hdn] at HR HO2
      have HDN := Lib.hid hdn
      clear hdn
      go_wp2_with fail
      obtain ⟨wi, hwi⟩ : ∃ wi, wi = wo.alloc (.cells #[.int .i64 (e.at' : Int), .slice e.A e.n e.c] 81) := ⟨_, rfl⟩
      rw [← hwi]
      have hki : Keep0 wo wi := by rw [hwi]; exact Keep.alloc wo _
      have hci : wi.cell? ⟨wo.heap.size, 0, none⟩ = some (.int .i64 (e.at' : Int)) := by
        rw [hwi]; exact (Blk.new wo 81 #[.int .i64 (e.at' : Int), .slice e.A e.n e.c]).cell 0
      have hwr : w.heap.size ≤ wo.heap.size := Nat.le_trans hk0.size HK2.out.size
      have HCI := Lib.hid hci
      have HKI := Lib.hid hki
      have HWR := Lib.hid hwr
      clear hwi hci hki hwr hr0 hr1
      go_loopw [3, 26] (fun mo jj wr => ∃ i r' : Nat, i ≤ e.n ∧ jj = .int .i64 i ∧ mo = .int .i64 r' ∧ Hid (r' + i = r) ∧ Own wr base 5 A n c ((layAll start o (dn ++ at_ e.at' (e.bytes.take i))).map bv) ∧ Keep (BlkOf A) wi wr) (fun _ jj _ => e.n - (intOf jj).toNat)
      case atStart => exact ⟨0, r, Nat.zero_le _, rfl, rfl, rfl, by simpa [at_] using HO2.out.keep0 HKI.out, Keep.refl _ _⟩
      case round =>
        obtain ⟨i, r', hi, rfl, rfl, HR', hown, hkv⟩ := hrel
        have hkwv : Keep (BlkOf A) w wr := (((hk0.of0 _).andThen HK2.out).and0 HKI.out).andThen hkv
        have hcv : wr.cell? ⟨wo.heap.size, 0, none⟩ = some (.int .i64 (e.at' : Int)) := hkv.cell_some HCI.out (HN.out _ HWR.out)
        have h5v : wr.cell? ⟨w.heap.size, 0, none⟩ = some (.slice A n c) := ((HK2.out.and0 HKI.out).andThen hkv).cell_some H5.out (HN.out _ (Nat.le_refl _))
        have h6v : wr.cell? ⟨w.heap.size + 1, 0, none⟩ = some (.int .i64 (start : Int)) := ((HK2.out.and0 HKI.out).andThen hkv).cell_some H6.out (HN.out _ (Nat.le_succ _))
        have H5V := Lib.hid h5v
        have H6V := Lib.hid h6v
        have HOV := Lib.hid hown
        have HKV := Lib.hid hkv
        have HKW := Lib.hid hkwv
        clear h5v h6v hown hkv hkwv
        by_cases hil : i < e.n
        · have hbl : i < e.bytes.length := by have := HS.out.len; omega
          obtain ⟨b, oo, heA, _, hcell⟩ := ((HS.out).keep HKW.out hG).rd.at_ (k := i) (by simpa using hbl)
          rw [byte_at e.bytes i hbl] at hcell
          obtain ⟨x, hx⟩ : ∃ x, x = e.bytes[i] := ⟨_, rfl⟩
          rw [← hx] at hcell
          have HX := Lib.hid hx
          have hxb := byte_lt x
          rw [heA]
          clear hx heA
          have hat := HBD.out e (by rw [HEE.out]; exact List.getElem_mem hke)
          have hatb : e.at' + i < 4611686018427387904 := by have := HS.out.len; omega
          clear hat
          rcases r' with _ | r'
          · go_wp2_with fail
            refine bodyPost_ret (results_none rfl _ _ _) rfl ?_
            refine ⟨rfl, ?_, HKW.out⟩
            have e1 := flat_prefix ents k hke i (by rw [← HEE.out]; omega)
            rw [← HEE.out, ← HDN.out] at e1
            have e2 : dn.length + i = most := by have := HR.out; have := HR'.out; omega
            rw [e2] at e1
            rw [e1]
            exact HOV.out
          · have hrb : r' < 4611686018427387904 := by have := HR.out; have := HR'.out; omega
            go_wp2_with fail
            refine (lay1_any (e.at' + i) start x hatb hst H6V.out H5V.out HOV.out).mono ?_
            rintro e1 w' ⟨rfl, hown', hk'⟩
            have hfin : Own w' base 5 A n c ((layAll start o (dn ++ at_ e.at' (e.bytes.take (i + 1)))).map bv) := by
              rw [at_take_succ e.bytes e.at' i hbl, ← HX.out, ← List.append_assoc, layAll_snoc]
              exact hown'
            have hkf := HKV.out.andThen hk'
            have HF := Lib.hid hfin
            have HKF := Lib.hid hkf
            have HR2 : Hid (r' + (i + 1) = r) := by have := HR'.out; show r' + (i + 1) = r; omega
            clear hown' hk' hfin hkf
            go_wp2_with fail
            go_roundw
            case rel => exact ⟨i + 1, r', by omega, by go_num, rfl, HR2, HF.out, HKF.out⟩
            case measure => simp [intOf]; omega
        · go_wp2_with fail
          go_roundw
          case rel =>
            have hie : i = e.n := by omega
            have hlen := HS.out.len
            have hw1 : (ents.take (k + 1)).flatMap Ent.waits = dn ++ at_ e.at' e.bytes := by
              rw [flat_take_succ ents k hke, ← HEE.out, ← HDN.out]; rfl
            refine ⟨k + 1, r', by omega, by go_num, rfl, ?_, ?_, (HK2.out.and0 HKI.out).andThen HKV.out⟩
            · show r' + _ = most
              rw [hw1, List.length_append, at_len]
              have := HR.out
              have := HR'.out
              omega
            · rw [hw1]
              have := HOV.out
              rw [List.take_of_length_le (by omega)] at this
              exact this
          case measure => simp [intOf]; omega
    · have HO2 := Lib.hid hown
      have HK2 := Lib.hid hkr
      clear hown hkr
      go_wp2_with fail
      go_end0
      refine ⟨rfl, ?_, (hk0.of0 _).andThen HK2.out⟩
      obtain rfl : k = pn := by omega
      have := HR.out
      rw [List.take_of_length_le (by rw [HEL.out]; exact Nat.le_refl _)] at this
      have h2 := HO2.out
      rw [List.take_of_length_le (by rw [HEL.out]; exact Nat.le_refl _)] at h2
      rw [List.take_of_length_le (by omega)]
      exact h2
end Go.Proofs.Ytbdencfgiemliaa
