/-
  How slices of slices of bytes read (BRows), how a log lies in memory (LRep), and the contract of ContainsFunc with the log's test for a byte that is not zero. No condition beyond that the slice reads as bytes.
-/
import Derived.Test.YtbdencfgiemliaaWal8
namespace Go.Proofs.Ytbdencfgiemliaa
open Go.RowKit
set_option linter.unusedVariables false
/-- A slice of bytes as a value, and what it reads. -/
structure Row where
  A : Option Addr
  n : Nat
  c : Nat
  bytes : List UInt8
def Row.val (r : Row) : Value := .slice r.A r.n r.c
/-- A slice of slices of bytes reads as L; all of it lies in F. -/
def BRows (w : World) (F : Nat → Prop) (A : Option Addr) (n c : Nat) (L : List (List UInt8)) : Prop :=
  ∃ rows : List Row, rows.map Row.bytes = L ∧ rows.length = n ∧ n ≤ c ∧ c ≤ maxLen ∧ (A = none → c = 0) ∧ Rd w F A (rows.map Row.val) ∧ ∀ r ∈ rows, Sl w F r.A r.n r.c r.bytes
section
variable {S F F' : Nat → Prop} {w w' : World} {A : Option Addr} {n c : Nat} {L : List (List UInt8)}
theorem BRows.keep (h : BRows w F A n c L) (hk : Keep S w w') (hd : ∀ b, F b → ¬ S b) : BRows w' F A n c L := by
  obtain ⟨rows, h1, h2, h3, h4, h5, h6, h7⟩ := h
  exact ⟨rows, h1, h2, h3, h4, h5, h6.keep hk hd, fun r hr => (h7 r hr).keep hk hd⟩
theorem BRows.keep0 (h : BRows w F A n c L) (hk : Keep0 w w') : BRows w' F A n c L := h.keep hk fun _ _ hb => hb
theorem BRows.mono (h : BRows w F A n c L) (hF : ∀ b, b < w.heap.size → F b → F' b) : BRows w F' A n c L := by
  obtain ⟨rows, h1, h2, h3, h4, h5, h6, h7⟩ := h
  exact ⟨rows, h1, h2, h3, h4, h5, h6.mono hF, fun r hr => (h7 r hr).mono hF⟩
theorem BRows.len (h : BRows w F A n c L) : L.length = n := by
  obtain ⟨rows, h1, h2, _⟩ := h
  rw [← h1, List.length_map, h2]
theorem BRows.at_ (h : BRows w F A n c L) {k : Nat} (hk : k < n) : ∃ b o Ak nk ck, A = some ⟨b, o, none⟩ ∧ F b ∧ w.cell? ⟨b, o + k, none⟩ = some (.slice Ak nk ck) ∧ Sl w F Ak nk ck (L.getD k []) := by
  obtain ⟨rows, h1, h2, _, _, _, h6, h7⟩ := h
  have hk' : k < (rows.map Row.val).length := by rw [List.length_map, h2]; exact hk
  obtain ⟨b, o, hA, hF, hc⟩ := h6.at_ hk'
  rw [List.getElem_map] at hc
  have hkr : k < rows.length := by omega
  refine ⟨b, o, _, _, _, hA, hF, hc, ?_⟩
  have e : L.getD k [] = (rows[k]).bytes := by
    rw [← h1, List.getD_eq_getElem?_getD, List.getElem?_map, List.getElem?_eq_getElem hkr]
    rfl
  rw [e]
  exact h7 _ (List.getElem_mem hkr)
end
/-- A log. -/
structure LSt where
  half : Nat
  turn : Int
  stop : Nat
  base : List UInt8
  recs : List (List UInt8)
  broken : Bool
/-- A block that is neither the log's own nor its records' row. -/
def OffL (G : Nat) (RA : Option Addr) (b : Nat) : Prop := b ≠ G ∧ ¬ BlkOf RA b
structure LogRep (w : World) (G D : Nat) (x : LSt) (F : Nat → Prop) (BA : Option Addr) (bn bc : Nat) (RA : Option Addr) (rn rc : Nat) (rows : List Row) : Prop where
  blk : Blk w G 86 (logCells D x.half x.turn x.stop (.slice BA bn bc) (.slice RA rn rc) x.broken)
  base : Sl w (fun b => F b ∧ OffL G RA b) BA bn bc x.base
  recs : Rw w RA rn rc (rows.map Row.val)
  each : ∀ r ∈ rows, Sl w (fun b => F b ∧ OffL G RA b) r.A r.n r.c r.bytes
  eq : x.recs = rows.map Row.bytes
  fG : F G
  fR : ∀ b, BlkOf RA b → F b
  bd : x.base.length ≤ 65536 ∧ (∀ r ∈ x.recs, r.length ≤ 65536) ∧ x.half ≤ 1 ∧ (-1 ≤ x.turn ∧ x.turn ≤ 9223372036854775806) ∧ x.stop ≤ 65536
/-- The block G holds the log x on the disk D; all of it lies in F. -/
def LRep (w : World) (G D : Nat) (x : LSt) (F : Nat → Prop) : Prop := ∃ BA bn bc RA rn rc rows, LogRep w G D x F BA bn bc RA rn rc rows
section
variable {S F F' : Nat → Prop} {w w' : World} {G D : Nat} {x : LSt} {BA RA : Option Addr} {bn bc rn rc : Nat} {rows : List Row}
theorem LogRep.keep (h : LogRep w G D x F BA bn bc RA rn rc rows) (hk : Keep S w w') (hd : ∀ b, F b → ¬ S b) : LogRep w' G D x F BA bn bc RA rn rc rows :=
  { h with
    blk := h.blk.keep hk (hd G h.fG)
    base := h.base.keep hk (fun b hb => hd b hb.1)
    recs := h.recs.keep hk (fun b hb => hd b (h.fR b hb))
    each := fun r hr => (h.each r hr).keep hk (fun b hb => hd b hb.1) }
theorem LRep.keep (h : LRep w G D x F) (hk : Keep S w w') (hd : ∀ b, F b → ¬ S b) : LRep w' G D x F := by
  obtain ⟨BA, bn, bc, RA, rn, rc, rows, h⟩ := h
  exact ⟨BA, bn, bc, RA, rn, rc, rows, h.keep hk hd⟩
theorem LRep.keep0 (h : LRep w G D x F) (hk : Keep0 w w') : LRep w' G D x F := h.keep hk fun _ _ hb => hb
theorem LogRep.mono (h : LogRep w G D x F BA bn bc RA rn rc rows) (hF : ∀ b, b < w.heap.size → F b → F' b) : LogRep w G D x F' BA bn bc RA rn rc rows :=
  { h with
    base := h.base.mono (fun b hb hf => ⟨hF b hb hf.1, hf.2⟩)
    each := fun r hr => (h.each r hr).mono (fun b hb hf => ⟨hF b hb hf.1, hf.2⟩)
    fG := hF G h.blk.lt h.fG
    fR := fun b hb => hF b (h.recs.lt b hb) (h.fR b hb) }
theorem LRep.mono (h : LRep w G D x F) (hF : ∀ b, b < w.heap.size → F b → F' b) : LRep w G D x F' := by
  obtain ⟨BA, bn, bc, RA, rn, rc, rows, h⟩ := h
  exact ⟨BA, bn, bc, RA, rn, rc, rows, h.mono hF⟩
theorem LogRep.neGR (h : LogRep w G D x F BA bn bc RA rn rc rows) : ¬ BlkOf RA G := by
  rintro ⟨a, ha, e⟩
  rcases h.recs.2.2.2 with ⟨h1, _⟩ | ⟨g, o, cur, hA, hg, _⟩
  · rw [ha] at h1; cases h1
  · rw [ha] at hA
    injection hA with hA
    rw [hA] at e
    exact blk_ne h.blk hg (by decide) e
theorem LRep.ltG (h : LRep w G D x F) : G < w.heap.size := by
  obtain ⟨BA, bn, bc, RA, rn, rc, rows, h⟩ := h
  exact h.blk.lt
theorem LRep.fG (h : LRep w G D x F) : F G := by
  obtain ⟨BA, bn, bc, RA, rn, rc, rows, h⟩ := h
  exact h.fG
/-- The log's numbers have turned, nothing else. -/
theorem LogRep.setG (h : LogRep w G D x F BA bn bc RA rn rc rows) (hk : Keep (fun b => b = G) w w') {x' : LSt} (hb : Blk w' G 86 (logCells D x'.half x'.turn x'.stop (.slice BA bn bc) (.slice RA rn rc) x'.broken))
    (e1 : x'.base = x.base) (e2 : x'.recs = x.recs) (hd : x'.half ≤ 1 ∧ (-1 ≤ x'.turn ∧ x'.turn ≤ 9223372036854775806) ∧ x'.stop ≤ 65536) : LogRep w' G D x' F BA bn bc RA rn rc rows :=
  { blk := hb
    base := by rw [e1]; exact h.base.keep hk fun b hb => hb.2.1
    recs := h.recs.keep hk fun b hb e => h.neGR (by rw [← e]; exact hb)
    each := fun r hr => (h.each r hr).keep hk fun b hb => hb.2.1
    eq := by rw [e2]; exact h.eq
    fG := h.fG
    fR := h.fR
    bd := ⟨by rw [e1]; exact h.bd.1, by rw [e2]; exact h.bd.2.1, hd⟩ }
end
section
set_option maxRecDepth 20000
set_option maxHeartbeats 1000000
theorem readTest_any (x : Nat) (w : World) : Calls Try.prog 77 #[.int .u8 (x : Int)] w fun e w' => e = .returned (.bool (decide (x ≠ 0))) ∧ w = w' := by
  by_cases h : (x : Int) = 0
  · obtain ⟨j1, j2⟩ := eqb_u8 _ _ h
    obtain rfl : x = 0 := by omega
    go_enter Try.func77, Try.ntmps77
    go_wp2
    go_ret
    exact ⟨rfl, rfl⟩
  · obtain ⟨j1, j2⟩ := neb_u8 _ _ h
    have hx : decide (x ≠ 0) = true := by simp; omega
    rw [hx]
    clear hx
    go_enter Try.func77, Try.ntmps77
    go_wp2
    go_ret
    exact ⟨rfl, rfl⟩
theorem index_any (l : List UInt8) (F : Nat → Prop) (A : Option Addr) (n c : Nat) (w : World) (h : Sl w F A n c l) :
    Calls Try.prog 78 #[.slice A n c, .func (.func 77) #[] #[]] w fun e w' => (∃ z : Int, e = .returned (.int .i64 z) ∧ (decide (0 ≤ z)) = l.any (fun x => x != 0)) ∧ w = w' := by
  have hcap := h.cap
  have hmax := h.max
  unfold maxLen at hmax
  have HS := Lib.hid h
  clear h
  go_enter Try.func78, Try.ntmps78
  go_wp2_with fail
  go_loopw [8] (fun i wr => ∃ k : Nat, k ≤ n ∧ i = .int .i64 k ∧ wr = w ∧ Hid ((l.take k).any (fun x => x != 0) = false)) (fun i _ => n - (intOf i).toNat)
  case atStart => exact ⟨0, Nat.zero_le _, rfl, rfl, rfl⟩
  case round =>
    obtain ⟨k, hk, rfl, rfl, HF⟩ := hrel
    by_cases hlt : k < n
    · have hkl : k < l.length := by rw [HS.out.len]; exact hlt
      obtain ⟨b, o, rfl, _, hcell⟩ := HS.out.rd.at_ (k := k) (by simpa using hkl)
      rw [List.getElem_map] at hcell
      unfold bv at hcell
      have htk : (l.take (k + 1)).any (fun x => x != 0) = (l[k] != 0) := by
        rw [List.take_succ_eq_append_getElem hkl, List.any_append, HF.out]
        simp
      have hne : (l[k] != 0) = decide (l[k].toNat ≠ 0) := by
        rw [Bool.eq_iff_iff]
        simp [← UInt8.toNat_inj]
      have hall : (l.take (k + 1)).any (fun x => x != 0) = true → l.any (fun x => x != 0) = true := by
        intro h0
        rw [List.any_eq_true] at h0 ⊢
        obtain ⟨y, hy, h1⟩ := h0
        exact ⟨y, List.mem_of_mem_take hy, h1⟩
      rw [hne] at htk
      have HTK := Lib.hid htk
      have HALL := Lib.hid hall
      clear hne htk hall
      generalize (l[k]).toNat = y at *
      clear hkl
      go_wp2_with fail
      refine (readTest_any y _).mono ?_
      rintro e w' ⟨rfl, rfl⟩
      by_cases hy : y = 0
      · have hd : decide (y ≠ 0) = false := by simp [hy]
        rw [hd]
        rw [hd] at HTK
        clear hd
        go_wp2_with fail
        refine ⟨⟨k + 1, by omega, by go_num, trivial, HTK⟩, by simp [intOf]; omega⟩
      · have hd : decide (y ≠ 0) = true := by simp [hy]
        rw [hd]
        rw [hd] at HTK
        have hfin := HALL.out HTK.out
        clear hd
        go_wp2_with fail
        go_ret
        exact ⟨⟨_, rfl, by rw [hfin]; simp⟩, rfl⟩
    · obtain rfl : k = n := by omega
      have hf := HF.out
      rw [List.take_of_length_le (by rw [HS.out.len]; exact Nat.le_refl _)] at hf
      go_wp2_with fail
      go_ret
      exact ⟨⟨_, rfl, by rw [hf]; rfl⟩, rfl⟩
theorem contains_any (l : List UInt8) (F : Nat → Prop) (A : Option Addr) (n c : Nat) (w : World) (h : Sl w F A n c l) :
    Calls Try.prog 76 #[.slice A n c, .func (.func 77) #[] #[]] w fun e w' => e = .returned (.bool (l.any fun x => x != 0)) ∧ w = w' := by
  have HS := Lib.hid h
  clear h
  go_enter Try.func76, Try.ntmps76
  go_wp2_with fail
  refine (index_any l F A n c w HS.out).mono ?_
  rintro e w' ⟨⟨z, rfl, hz⟩, rfl⟩
  go_wp2
  go_ret
  exact ⟨rfl, rfl⟩
end
end Go.Proofs.Ytbdencfgiemliaa
