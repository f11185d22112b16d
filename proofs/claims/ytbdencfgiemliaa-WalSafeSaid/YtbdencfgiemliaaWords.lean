/-
  Words for memory used by all proofs of this seat: what a call may have changed (Keep), a slice that reads as a list (Rd), a row of the call's own (Own), and the laws of append and of string conversion over them.
-/
import Derived.WalkKit
import Derived.Lib.Hide
import Derived.Maps.AppendAt
import Derived.Deep.AppendLies
import Derived.Deep.Draws
import Derived.Laws.BytesArg
import Derived.Laws.Rows
import Derived.Deep.RegionLaw
import Derived.Lib.SlBytesConst
namespace Go.Proofs.Ytbdencfgiemliaa
open Go.RowKit
theorem ret_eq {a b : Value} (h : a = b) : Ending.returned a = .returned b := by rw [h]
theorem ret_i {k : IntKind} {a b : Int} (h : a = b) : Ending.returned (.int k a) = .returned (.int k b) := by rw [h]
theorem ret_b {a b : Bool} (h : a = b) : Ending.returned (.bool a) = .returned (.bool b) := by rw [h]

/-- A byte as a value. -/
def bv (x : UInt8) : Value := .int .u8 (x.toNat : Int)
/-- A list of bytes as a string. -/
def strB (l : List UInt8) : ByteArray := ⟨l.toArray⟩
theorem strB_inj {a b : List UInt8} : strB a = strB b ↔ a = b := by
  unfold strB
  constructor
  · intro h; injection h with h; injection h
  · intro h; rw [h]
theorem strB_toList (l : List UInt8) : (strB l).data.toList = l := rfl
theorem byte_lt (x : UInt8) : x.toNat < 256 := x.toBitVec.isLt

/-- What is not in S has not turned; nothing has gone. -/
structure Keep (S : Nat → Prop) (w w' : World) : Prop where
  os : w'.os = w.os
  tape : w'.tape = w.tape
  output : w'.output = w.output
  size : w.heap.size ≤ w'.heap.size
  block : ∀ k, k < w.heap.size → ¬ S k → w'.heap[k]? = w.heap[k]?

def Nil : Nat → Prop := fun _ => False
abbrev Keep0 (w w' : World) : Prop := Keep Nil w w'

section
variable {S T : Nat → Prop} {w w' w1 w2 : World}
theorem Keep.refl (S : Nat → Prop) (w : World) : Keep S w w := ⟨rfl, rfl, rfl, Nat.le_refl _, fun _ _ _ => rfl⟩
theorem Keep.trans (h : Keep S w w1) (k : Keep T w1 w2) (hT : ∀ b, b < w.heap.size → T b → S b) : Keep S w w2 :=
  ⟨k.os.trans h.os, k.tape.trans h.tape, k.output.trans h.output, Nat.le_trans h.size k.size, fun b hb hn => (k.block b (Nat.lt_of_lt_of_le hb h.size) (fun ht => hn (hT b hb ht))).trans (h.block b hb hn)⟩
theorem Keep.mono (h : Keep S w w') (hS : ∀ b, b < w.heap.size → S b → T b) : Keep T w w' :=
  ⟨h.os, h.tape, h.output, h.size, fun b hb hn => h.block b hb (fun hs => hn (hS b hb hs))⟩
theorem Keep.andThen (h : Keep S w w1) (k : Keep S w1 w2) : Keep S w w2 := h.trans k fun _ _ hb => hb
theorem Keep.and0 (h : Keep S w w1) (k : Keep0 w1 w2) : Keep S w w2 := h.trans k fun _ _ hb => hb.elim
theorem Keep.of0 (h : Keep0 w w') (S : Nat → Prop) : Keep S w w' := h.mono fun _ _ hb => hb.elim
theorem Keep.drew (w : World) : Keep0 w w.drew := ⟨rfl, rfl, rfl, Nat.le_refl _, fun _ _ _ => rfl⟩
theorem Keep.drewN (w : World) (n : Nat) : Keep0 w (w.drewN n) := ⟨rfl, rfl, rfl, Nat.le_refl _, fun _ _ _ => rfl⟩
theorem Keep.alloc (w : World) (o : Obj) : Keep0 w (w.alloc o) := ⟨rfl, rfl, rfl, by simp, fun k hk _ => Below.heap_alloc w o k hk⟩
theorem Keep.setCell (w : World) (p : Addr) (u : Value) (h : S p.block) : Keep S w (w.setCell p u) :=
  ⟨rfl, rfl, rfl, by simp [World.setCell], fun k _ hn => Below.heap_setCell w p u k (fun e => hn (e ▸ h))⟩
theorem Keep.setNew {w0 : World} (h : Keep S w0 w) (p : Addr) (u : Value) (hp : w0.heap.size ≤ p.block) : Keep S w0 (w.setCell p u) :=
  ⟨h.os, h.tape, h.output, by simpa [World.setCell] using h.size, fun k hk hn => (Below.heap_setCell w p u k (by omega)).trans (h.block k hk hn)⟩
theorem Keep.ofGrown {row : Option Nat} (h : w.grownBy w' row) (hr : ∀ k, row = some k → S k) : Keep S w w' :=
  ⟨h.os, h.tape, h.output, h.size, fun k hk hn => h.block k hk (fun e => hn (hr k e.symm))⟩
theorem Keep.grown {row : Option Nat} (h : Keep S w w1) (hg : w1.grownBy w2 row) (hr : ∀ k, row = some k → S k ∨ w.heap.size ≤ k) : Keep S w w2 :=
  ⟨hg.os.trans h.os, hg.tape.trans h.tape, hg.output.trans h.output, Nat.le_trans h.size hg.size, fun k hk hn => (hg.block k (Nat.lt_of_lt_of_le hk h.size) (fun e => by
    rcases hr k e.symm with h1 | h1
    · exact hn h1
    · omega)).trans (h.block k hk hn)⟩
theorem Keep.alloc' (h : Keep S w w1) (o : Obj) : Keep S w (w1.alloc o) := h.and0 (Keep.alloc w1 o)
theorem Keep.drewN' (h : Keep S w w1) (n : Nat) : Keep S w (w1.drewN n) := h.and0 (Keep.drewN w1 n)
theorem Keep.drew' (h : Keep S w w1) : Keep S w w1.drew := h.and0 (Keep.drew w1)
theorem Keep.set' (h : Keep S w w1) (p : Addr) (u : Value) (hp : S p.block ∨ w.heap.size ≤ p.block) : Keep S w (w1.setCell p u) :=
  ⟨h.os, h.tape, h.output, by simpa [World.setCell] using h.size, fun k hk hn => (Below.heap_setCell w1 p u k (by
    rintro rfl
    rcases hp with h1 | h1
    · exact hn h1
    · omega)).trans (h.block k hk hn)⟩
theorem Keep.ofBelow (h : Below w.heap.size w w') : Keep0 w w' := ⟨h.os, h.tape, h.output, h.size, fun k hk _ => h.block k hk⟩
theorem Keep.toBelow (h : Keep S w w') (hS : ∀ b, b < w.heap.size → ¬ S b) : Below w.heap.size w w' := ⟨h.os, h.tape, h.output, h.size, fun k hk => h.block k hk (hS k hk)⟩
theorem Keep.below0 (h : Keep0 w w') : Below w.heap.size w w' := h.toBelow fun _ _ hb => hb
theorem Keep.cell (h : Keep S w w') {p : Addr} (hp : p.block < w.heap.size) (hn : ¬ S p.block) : w'.cell? p = w.cell? p := World.cell?_of_block (h.block p.block hp hn)
theorem Keep.cell_some (h : Keep S w w') {p : Addr} {u : Value} (hu : w.cell? p = some u) (hn : ¬ S p.block) : w'.cell? p = some u :=
  (h.cell (World.block_lt_of_cell? w p hu) hn).trans hu
end

/-- The slice at the address A holds the cells cs (nothing is said of the address where there are none); its block is in F. -/
def Rd (w : World) (F : Nat → Prop) (A : Option Addr) (cs : List Value) : Prop :=
  cs = [] ∨ ∃ b o, A = some ⟨b, o, none⟩ ∧ F b ∧ ∀ j u, cs[j]? = some u → w.cell? ⟨b, o + j, none⟩ = some u

section
variable {S F G : Nat → Prop} {w w' : World} {A : Option Addr} {cs : List Value}
theorem Rd.nil (w : World) (F : Nat → Prop) (A : Option Addr) : Rd w F A [] := .inl rfl
theorem Rd.keep (h : Rd w F A cs) (hk : Keep S w w') (hd : ∀ b, F b → ¬ S b) : Rd w' F A cs := by
  rcases h with h | ⟨b, o, hA, hF, hc⟩
  · exact .inl h
  · exact .inr ⟨b, o, hA, hF, fun j u hu => hk.cell_some (hc j u hu) (hd b hF)⟩
theorem Rd.keep0 (h : Rd w F A cs) (hk : Keep0 w w') : Rd w' F A cs := h.keep hk fun _ _ hb => hb
theorem Rd.mono (h : Rd w F A cs) (hF : ∀ b, b < w.heap.size → F b → G b) : Rd w G A cs := by
  rcases h with h | ⟨b, o, hA, hb, hc⟩
  · exact .inl h
  · rcases cs with _ | ⟨u, t⟩
    · exact .inl rfl
    · exact .inr ⟨b, o, hA, hF b (World.block_lt_of_cell? w _ (hc 0 u rfl)) hb, hc⟩
theorem Rd.at_ (h : Rd w F A cs) {k : Nat} (hk : k < cs.length) : ∃ b o, A = some ⟨b, o, none⟩ ∧ F b ∧ w.cell? ⟨b, o + k, none⟩ = some cs[k] := by
  rcases h with h | ⟨b, o, hA, hb, hc⟩
  · subst h; simp at hk
  · exact ⟨b, o, hA, hb, hc k _ (List.getElem?_eq_getElem hk)⟩
theorem Rd.take (h : Rd w F A cs) (n : Nat) : Rd w F A (cs.take n) := by
  rcases h with h | ⟨b, o, hA, hb, hc⟩
  · subst h; exact .inl (by simp)
  · refine .inr ⟨b, o, hA, hb, fun j u hu => hc j u ?_⟩
    rw [List.getElem?_take] at hu
    split at hu
    · exact hu
    · cases hu
theorem Rd.news (h : Rd w F A cs) (ad : Addr) (hA : A = some ad) : ∀ j u, cs[j]? = some u → w.cell? (ad.add j) = some u := by
  rcases h with h | ⟨b, o, hA', _, hc⟩
  · subst h; intro j u hu; simp at hu
  · rw [hA'] at hA
    injection hA with hA
    subst hA
    intro j u hu
    rw [show (⟨b, o, none⟩ : Addr).add j = ⟨b, o + j, none⟩ by unfold Addr.add; split <;> simp_all]
    exact hc j u hu
end

/-- A block that is known whole. -/
def Blk (w : World) (g : Nat) (t : TypeId) (cs : Array Value) : Prop := w.heap[g]? = some (.cells cs t (0, 0))
section
variable {S : Nat → Prop} {w w' : World} {g : Nat} {t : TypeId} {cs : Array Value}
theorem Blk.lt (h : Blk w g t cs) : g < w.heap.size := by
  rcases Nat.lt_or_ge g w.heap.size with hlt | hge
  · exact hlt
  · unfold Blk at h; rw [Array.getElem?_eq_none hge] at h; cases h
theorem Blk.cell (h : Blk w g t cs) (i : Nat) : w.cell? ⟨g, i, none⟩ = cs[i]? := cell_of_row w g i cs t (0, 0) h
theorem Blk.frozen (h : Blk w g t cs) (i : Nat) : w.frozen? ⟨g, i, none⟩ = false := by
  unfold Blk at h
  simp [World.frozen?, h]
theorem Blk.new (w : World) (t : TypeId) (cs : Array Value) : Blk (w.alloc (.cells cs t)) w.heap.size t cs := heap_alloc_new w _
theorem Blk.set_ (h : Blk w g t cs) (i : Nat) (u : Value) : Blk (w.setCell ⟨g, i, none⟩ u) g t (cs.setIfInBounds i u) := by
  unfold Blk at h ⊢
  simp [World.setCell, Array.getElem?_modify, h]
theorem Blk.far (h : Blk w g t cs) {p : Addr} (hp : g ≠ p.block) (u : Value) : Blk (w.setCell p u) g t cs := (Below.heap_setCell w p u g hp).trans h
theorem Blk.alloc (h : Blk w g t cs) (o : Obj) : Blk (w.alloc o) g t cs := (Below.heap_alloc w o g h.lt).trans h
theorem Blk.keep (h : Blk w g t cs) (hk : Keep S w w') (hg : ¬ S g) : Blk w' g t cs := (hk.block g h.lt hg).trans h
theorem Blk.keep0 (h : Blk w g t cs) (hk : Keep0 w w') : Blk w' g t cs := h.keep hk fun hb => hb
end

/-- A slice of one-cell elements of the type e, of the call's own: it begins at the head of a row from block base on, or is nil. -/
def Own (w : World) (base : Nat) (e : TypeId) (A : Option Addr) (n c : Nat) (cs : List Value) : Prop := w.ownsRow base e 1 (.slice A n c) n cs
section
variable {S : Nat → Prop} {w w' : World} {base n c : Nat} {e : TypeId} {A : Option Addr} {cs : List Value}
theorem Own.len (h : Own w base e A n c cs) : cs.length = n := by have := h.1; omega
theorem Own.form (h : Own w base e A n c cs) : (A = none ∧ n = 0 ∧ c = 0 ∧ cs = []) ∨ ∃ g cur, A = some ⟨g, 0, none⟩ ∧ base ≤ g ∧ Blk w g e cur ∧ n ≤ c ∧ c ≤ maxLen ∧ cur.size = c ∧ cur.toList.take n = cs := by
  have hl := h.len
  rcases h.2 with ⟨hv, hn⟩ | ⟨g, cap, cur, hv, hb, hg, hc, hm, hs, ht⟩
  · simp only [Value.slice.injEq] at hv
    obtain ⟨rfl, rfl, rfl⟩ := hv
    exact .inl ⟨rfl, rfl, rfl, List.eq_nil_of_length_eq_zero hl⟩
  · simp only [Value.slice.injEq, true_and] at hv
    obtain ⟨rfl, rfl⟩ := hv
    exact .inr ⟨g, cur, rfl, hb, hg, hc, hm, by simpa using hs, by simpa using ht⟩
theorem Own.rd (h : Own w base e A n c cs) : Rd w (fun b => base ≤ b) A cs := by
  rcases h.form with ⟨_, _, _, rfl⟩ | ⟨g, cur, hA, hb, hg, _, _, _, ht⟩
  · exact .inl rfl
  · refine .inr ⟨g, 0, hA, hb, fun j u hu => ?_⟩
    rw [Nat.zero_add, hg.cell j, ← hu, ← ht, List.getElem?_take]
    have hj : j < cs.length := by
      rcases Nat.lt_or_ge j cs.length with h1 | h1
      · exact h1
      · rw [List.getElem?_eq_none h1] at hu; cases hu
    rw [if_pos (by have := h.len; omega)]
    simp
theorem Own.keep (h : Own w base e A n c cs) (hk : Keep S w w') (hd : ∀ b, base ≤ b → b < w.heap.size → ¬ S b) : Own w' base e A n c cs := by
  refine ⟨h.1, ?_⟩
  rcases h.2 with h2 | ⟨g, cap, cur, hv, hb, hg, r⟩
  · exact .inl h2
  · exact .inr ⟨g, cap, cur, hv, hb, Blk.keep (t := e) hg hk (hd g hb (Blk.lt (t := e) hg)), r⟩
theorem Own.keep0 (h : Own w base e A n c cs) (hk : Keep0 w w') : Own w' base e A n c cs := h.keep hk fun _ _ _ hb => hb
theorem Own.mono {base' : Nat} (h : Own w base e A n c cs) (hb : base' ≤ base) : Own w base' e A n c cs := by
  refine ⟨h.1, ?_⟩
  rcases h.2 with h2 | ⟨g, cap, cur, hv, hb', r⟩
  · exact .inl h2
  · exact .inr ⟨g, cap, cur, hv, by omega, r⟩
theorem own_nil (w : World) (base : Nat) (e : TypeId) : Own w base e none 0 0 [] := World.ownsRow_nil w base e 1
theorem ownsRow_form {v : Value} {size : Nat} (h : w.ownsRow base e size v n cs) : ∃ A c, v = .slice A n c := by
  rcases h.2 with ⟨rfl, rfl⟩ | ⟨g, cap, cur, rfl, _⟩
  · exact ⟨none, 0, rfl⟩
  · exact ⟨_, cap, rfl⟩
theorem own_of {v : Value} (h : w.ownsRow base e 1 v n cs) : ∃ A c, v = .slice A n c ∧ Own w base e A n c cs := by
  obtain ⟨A, c, rfl⟩ := ownsRow_form h
  exact ⟨A, c, rfl, h⟩
end

section
variable {P : Program} (w : World)
theorem run_append_nilsrc (base : Nat) (t ty e : TypeId) (i : TypeInfo) (size : Nat) (ht : P.underlying t = some (.slice e)) (hi : P.info? e = some i)
    (v : Value) (n : Nat) (xs : List Value) (hown : w.ownsRow base e size v n xs) (c : Nat) : (Builtin.append_ #[t, t] ty #[v, .slice none 0 c]).run P w = .ok v w := by
  rcases hown.2 with ⟨rfl, rfl⟩ | ⟨g, cap, cur, rfl, _, _, hnc, _⟩
  · simp [Builtin.append_, run_underlying ht, sizeOf, typeInfo, hi, Builtin.lenOf, Builtin.firstCells]
  · simp [Builtin.append_, run_underlying ht, sizeOf, typeInfo, hi, Builtin.lenOf, Builtin.firstCells, hnc, storeCells]

/-- append onto a row of the call's own, from whatever source: nil, empty or not. -/
theorem run_append_rd (base : Nat) (t ty e : TypeId) (i : TypeInfo) (z : Value) (size bytes : Nat) (ht : P.underlying t = some (.slice e)) (hi : P.info? e = some i) (hz : i.zero = some z)
    (hsize : i.size = size) (hby : i.bytes = bytes) (hzs : z.cells.size = size) (hsz : 0 < size)
    (v : Value) (n : Nat) (xs : List Value) (hown : w.ownsRow base e size v n xs)
    (F : Nat → Prop) (A : Option Addr) (m c : Nat) (news : List Value) (hl : news.length = m * size) (hr : Rd w F A news) (h1 : ∀ u ∈ news, u.oneCell' = true)
    (h63 : n + m ≤ maxLen) (hbytes : (n + m) * bytes ≤ 140737488355328) (hbase : base ≤ w.heap.size) :
    ∃ A' c' w', (Builtin.append_ #[t, t] ty #[v, .slice A m c]).run P w = .ok (.slice A' (n + m) c') w' ∧ w'.ownsRow base e size (.slice A' (n + m) c') (n + m) (xs ++ news) ∧ w.grownBy w' v.ownBlock ∧
      ((Value.slice A' (n + m) c').ownBlock = v.ownBlock ∨ (Value.slice A' (n + m) c').ownBlock = some w.heap.size) := by
  rcases A with _ | ad
  · have hm : m = 0 := by
      rcases hr with h0 | ⟨b, o, h, _⟩
      · subst h0
        rcases Nat.eq_zero_or_pos m with h2 | h2
        · exact h2
        · have := Nat.mul_pos h2 hsz; simp at hl; omega
      · cases h
    subst hm
    have hn : news = [] := List.eq_nil_of_length_eq_zero (by simpa using hl)
    subst hn
    obtain ⟨A', c', hv⟩ := ownsRow_form hown
    subst hv
    exact ⟨A', c', w, run_append_nilsrc w base t ty e i size ht hi _ n xs hown c, by simpa using hown, World.grownBy.refl w _, .inl rfl⟩
  · obtain ⟨v', w', hrun, h2, h3, _, h5⟩ := run_append_own_at (P := P) w base t ty e i z size bytes ht hi hz hsize hby hzs hsz v n xs hown ad m c news hl (hr.news ad rfl) h1 h63 hbytes hbase
    obtain ⟨A', c', rfl⟩ := ownsRow_form h2
    exact ⟨A', c', w', hrun, h2, h3, h5⟩

theorem wp_append_rd {o : Oper} {a : Act} {K : Act → World → Prop} {Q : Exit → Act → World → Prop} (s x : Operand) (t : TypeId)
    (ho : o.op = .call { callee := .builtin .append, args := #[s, x], argTypes := #[t, t] })
    (base : Nat) (e : TypeId) (i : TypeInfo) (z : Value) (size bytes : Nat) (ht : P.underlying t = some (.slice e)) (hi : P.info? e = some i) (hz : i.zero = some z)
    (hsize : i.size = size) (hby : i.bytes = bytes) (hzs : z.cells.size = size) (hsz : 0 < size)
    (v : Value) (n : Nat) (xs : List Value) (hs : a.eval s = v) (hown : w.ownsRow base e size v n xs)
    (F : Nat → Prop) (A : Option Addr) (m c : Nat) (news : List Value) (hx : a.eval x = .slice A m c) (hl : news.length = m * size) (hr : Rd w F A news) (h1 : ∀ u ∈ news, u.oneCell' = true)
    (h63 : n + m ≤ maxLen) (hbytes : (n + m) * bytes ≤ 140737488355328) (hbase : base ≤ w.heap.size)
    (h : ∀ A' c' w', w'.ownsRow base e size (.slice A' (n + m) c') (n + m) (xs ++ news) → w.grownBy w' v.ownBlock → ((Value.slice A' (n + m) c').ownBlock = v.ownBlock ∨ (Value.slice A' (n + m) c').ownBlock = some w.heap.size) → K (a.put o.dst (.slice A' (n + m) c')) w') : o.wp P a w K Q := by
  obtain ⟨A', c', w', hrun, h2, h3, h4⟩ := run_append_rd (P := P) w base t o.type e i z size bytes ht hi hz hsize hby hzs hsz v n xs hown F A m c news hl hr h1 h63 hbytes hbase
  unfold Oper.wp execOp
  simp only [ho, resolve, invoke, builtin, Sem.run_bind, Sem.run_pure, Result.andThen_ok, List.map_toArray, List.map_cons, List.map_nil, hs, hx, hrun]
  exact h A' c' w' h2 h3 h4

theorem wpList_append_rd {ops : Array Oper} {rest : List Oper} {o : Oper} {a : Act} {Q : Exit → Act → World → Prop} (hgd : o.guard = none) (s x : Operand) (t : TypeId)
    (ho : o.op = .call { callee := .builtin .append, args := #[s, x], argTypes := #[t, t] })
    (base : Nat) (e : TypeId) (i : TypeInfo) (z : Value) (size bytes : Nat) (ht : P.underlying t = some (.slice e)) (hi : P.info? e = some i) (hz : i.zero = some z)
    (hsize : i.size = size) (hby : i.bytes = bytes) (hzs : z.cells.size = size) (hsz : 0 < size)
    (v : Value) (n : Nat) (xs : List Value) (hs : a.eval s = v) (hown : w.ownsRow base e size v n xs)
    (F : Nat → Prop) (A : Option Addr) (m c : Nat) (news : List Value) (hx : a.eval x = .slice A m c) (hl : news.length = m * size) (hr : Rd w F A news) (h1 : ∀ u ∈ news, u.oneCell' = true)
    (h63 : n + m ≤ maxLen) (hbytes : (n + m) * bytes ≤ 140737488355328) (hbase : base ≤ w.heap.size)
    (h : ∀ A' c' w', w'.ownsRow base e size (.slice A' (n + m) c') (n + m) (xs ++ news) → w.grownBy w' v.ownBlock → ((Value.slice A' (n + m) c').ownBlock = v.ownBlock ∨ (Value.slice A' (n + m) c').ownBlock = some w.heap.size) → wpList P ops Q rest (a.put o.dst (.slice A' (n + m) c')) w') : wpList P ops Q (o :: rest) a w :=
  wpList_plain hgd fun _ hK => wp_append_rd w s x t ho base e i z size bytes ht hi hz hsize hby hzs hsz v n xs hs hown F A m c news hx hl hr h1 h63 hbytes hbase fun A' c' w' h2 h3 h4 => hK _ _ (h A' c' w' h2 h3 h4)

theorem wpList_append_rdg {ops : Array Oper} {rest : List Oper} {o : Oper} {a : Act} {Q : Exit → Act → World → Prop} (hgd : Region.wanted o (yielded ops a.tmps) = true) (s x : Operand) (t : TypeId)
    (ho : o.op = .call { callee := .builtin .append, args := #[s, x], argTypes := #[t, t] })
    (base : Nat) (e : TypeId) (i : TypeInfo) (z : Value) (size bytes : Nat) (ht : P.underlying t = some (.slice e)) (hi : P.info? e = some i) (hz : i.zero = some z)
    (hsize : i.size = size) (hby : i.bytes = bytes) (hzs : z.cells.size = size) (hsz : 0 < size)
    (v : Value) (n : Nat) (xs : List Value) (hs : a.eval s = v) (hown : w.ownsRow base e size v n xs)
    (F : Nat → Prop) (A : Option Addr) (m c : Nat) (news : List Value) (hx : a.eval x = .slice A m c) (hl : news.length = m * size) (hr : Rd w F A news) (h1 : ∀ u ∈ news, u.oneCell' = true)
    (h63 : n + m ≤ maxLen) (hbytes : (n + m) * bytes ≤ 140737488355328) (hbase : base ≤ w.heap.size)
    (h : ∀ A' c' w', w'.ownsRow base e size (.slice A' (n + m) c') (n + m) (xs ++ news) → w.grownBy w' v.ownBlock → ((Value.slice A' (n + m) c').ownBlock = v.ownBlock ∨ (Value.slice A' (n + m) c').ownBlock = some w.heap.size) → wpList P ops Q rest (a.put o.dst (.slice A' (n + m) c')) w') : wpList P ops Q (o :: rest) a w :=
  wpList_step fun _ hK => by
    rw [if_pos hgd]
    exact wp_append_rd w s x t ho base e i z size bytes ht hi hz hsize hby hzs hsz v n xs hs hown F A m c news hx hl hr h1 h63 hbytes hbase fun A' c' w' h2 h3 h4 => hK _ _ (h A' c' w' h2 h3 h4)

theorem step_append_rd {ops : Array Oper} {o : Oper} {a : Act} {K : Act → World → Prop} {Q : Exit → Act → World → Prop} {E : Prop} (hgd : o.guard = none) (s x : Operand) (t : TypeId)
    (ho : o.op = .call { callee := .builtin .append, args := #[s, x], argTypes := #[t, t] })
    (base : Nat) (e : TypeId) (i : TypeInfo) (z : Value) (size bytes : Nat) (ht : P.underlying t = some (.slice e)) (hi : P.info? e = some i) (hz : i.zero = some z)
    (hsize : i.size = size) (hby : i.bytes = bytes) (hzs : z.cells.size = size) (hsz : 0 < size)
    (v : Value) (n : Nat) (xs : List Value) (hs : a.eval s = v) (hown : w.ownsRow base e size v n xs)
    (F : Nat → Prop) (A : Option Addr) (m c : Nat) (news : List Value) (hx : a.eval x = .slice A m c) (hl : news.length = m * size) (hr : Rd w F A news) (h1 : ∀ u ∈ news, u.oneCell' = true)
    (h63 : n + m ≤ maxLen) (hbytes : (n + m) * bytes ≤ 140737488355328) (hbase : base ≤ w.heap.size)
    (h : ∀ A' c' w', w'.ownsRow base e size (.slice A' (n + m) c') (n + m) (xs ++ news) → w.grownBy w' v.ownBlock → ((Value.slice A' (n + m) c').ownBlock = v.ownBlock ∨ (Value.slice A' (n + m) c').ownBlock = some w.heap.size) → K (a.put o.dst (.slice A' (n + m) c')) w') :
    if Region.wanted o (yielded ops a.tmps) = true then Oper.wp P o a w K Q else E := by
  have hw : Region.wanted o (yielded ops a.tmps) = true := by simp [Region.wanted, hgd]
  rw [if_pos hw]
  exact wp_append_rd w s x t ho base e i z size bytes ht hi hz hsize hby hzs hsz v n xs hs hown F A m c news hx hl hr h1 h63 hbytes hbase h
end

theorem one_bv (l : List UInt8) : ∀ u ∈ l.map bv, u.oneCell' = true := by
  intro u hu
  obtain ⟨x, _, rfl⟩ := List.mem_map.1 hu
  rfl

theorem strOf_bytes (l : List UInt8) : strOfNums (l.map fun x => (x.toNat : Int)) = strB l := by
  unfold strOfNums strB
  have h : ∀ l : List UInt8, (l.map fun x => (x.toNat : Int)).map (fun n => UInt8.ofNat n.toNat) = l := by
    intro l
    induction l with
    | nil => rfl
    | cons x t ih => rw [List.map_cons, List.map_cons, ih]; simp
  rw [h l]
/-- string(b), b a slice that reads as bytes. -/
theorem run_str {P : Program} {w : World} {F : Nat → Prop} {A : Option Addr} {l : List UInt8} (h : Rd w F A (l.map bv)) (src e dst : TypeId) (hs : P.underlying src = some (.slice e)) (he : P.underlying e = some (.int .u8)) (hd : P.underlying dst = some .string) (n c : Nat) (hn : n = l.length) (hA : A = none → n = 0) :
    (convert src dst (.slice A n c)).run P w = .ok (.string (strB l)) w := by
  subst hn
  rcases A with _ | ⟨b, o, sp⟩
  · have hl : l = [] := List.eq_nil_of_length_eq_zero (hA rfl)
    subst hl
    exact run_convert_bytes_nil w src e hs he _ c dst hd
  · rcases h with h0 | ⟨b', o', hA', _, hc⟩
    · have hl : l = [] := by simpa using h0
      subst hl
      rw [run_convert_bytes_string w src dst e _ _ c hs he hd]
      have hl : (loadCells ⟨b, o, sp⟩ 0).run P w = .ok (([] : List Int).map (Value.int .u8)).toArray w := by simp [loadCells, loadCellsFrom]
      have hq := run_bytesToString w _ 0 c [] hl
      exact hq
    · injection hA' with hA'
      injection hA' with e1 e2 e3
      subst e1; subst e2; subst e3
      have hx := run_convert_bytes_arg (P := P) w src e hs he b o l.length c (l.map fun x => (x.toNat : Int)) (by simp) (fun i hi => by
        rw [hc i (bv l[i]) (by simp [hi])]
        simp [bv, hi]) dst hd
      rw [hx]
      rw [strOf_bytes]
/-- A slice of bytes, nil let in: it reads as the list l; its block is in F. -/
structure Sl (w : World) (F : Nat → Prop) (A : Option Addr) (n c : Nat) (l : List UInt8) : Prop where
  len : l.length = n
  cap : n ≤ c
  max : c ≤ maxLen
  nil : A = none → n = 0 ∧ c = 0
  rd : Rd w F A (l.map bv)
section
variable {S F G : Nat → Prop} {w w' : World} {A : Option Addr} {l : List UInt8} {n c base : Nat}
theorem Sl.keep (h : Sl w F A n c l) (hk : Keep S w w') (hd : ∀ b, F b → ¬ S b) : Sl w' F A n c l := ⟨h.len, h.cap, h.max, h.nil, h.rd.keep hk hd⟩
theorem Sl.keep0 (h : Sl w F A n c l) (hk : Keep0 w w') : Sl w' F A n c l := h.keep hk fun _ _ hb => hb
theorem Sl.mono (h : Sl w F A n c l) (hF : ∀ b, b < w.heap.size → F b → G b) : Sl w G A n c l := ⟨h.len, h.cap, h.max, h.nil, h.rd.mono hF⟩
theorem Own.sl (h : Own w base 5 A n c (l.map bv)) : Sl w (fun b => base ≤ b) A n c l := by
  have hl := h.len
  have hr := h.rd
  rcases h.form with ⟨rfl, rfl, rfl, _⟩ | ⟨g, cur, hA, _, _, hc, hm, _, _⟩
  · exact ⟨by simpa using hl, Nat.le_refl _, Nat.zero_le _, fun _ => ⟨rfl, rfl⟩, hr⟩
  · exact ⟨by simpa using hl, hc, hm, (fun e => by rw [hA] at e; cases e), hr⟩
theorem Sl.str {P : Program} (h : Sl w F A n c l) (src e dst : TypeId) (hs : P.underlying src = some (.slice e)) (he : P.underlying e = some (.int .u8)) (hd : P.underlying dst = some .string) :
    (convert src dst (.slice A n c)).run P w = .ok (.string (strB l)) w := run_str h.rd src e dst hs he hd n c h.len.symm fun hA => (h.nil hA).1
theorem sl_nil (w : World) (F : Nat → Prop) : Sl w F none 0 0 [] := ⟨rfl, Nat.le_refl _, Nat.zero_le _, fun _ => ⟨rfl, rfl⟩, .inl rfl⟩
end
theorem Own.row {w : World} {base n c : Nat} {e : TypeId} {A : Option Addr} {cs : List Value} (h : Own w base e A n c cs) : ∀ k, (Value.slice A n c).ownBlock = some k → base ≤ k ∧ k < w.heap.size := by
  intro k hk
  rcases h.form with ⟨rfl, _⟩ | ⟨g, cur, rfl, hb, hg, _⟩
  · simp [Value.ownBlock] at hk
  · simp [Value.ownBlock] at hk; subst hk; exact ⟨hb, hg.lt⟩
/-- A store into a slice of the call's own. -/
theorem Own.set_ {w : World} {base n c : Nat} {e : TypeId} {A : Option Addr} {cs : List Value} (h : Own w base e A n c cs) {k : Nat} (hk : k < n) :
    ∃ g, A = some ⟨g, 0, none⟩ ∧ base ≤ g ∧ g < w.heap.size ∧ (∃ u, w.cell? ⟨g, k, none⟩ = some u ∧ cs[k]? = some u) ∧ w.frozen? ⟨g, k, none⟩ = false ∧ ∀ u, Own (w.setCell ⟨g, k, none⟩ u) base e A n c (cs.set k u) := by
  have hl := h.len
  have hO := h
  rcases h.form with ⟨_, rfl, _⟩ | ⟨g, cur, rfl, hb, hg, hnc, hm, hs, ht⟩
  · omega
  · refine ⟨g, rfl, hb, hg.lt, ⟨cs[k], ?_, List.getElem?_eq_getElem (by omega)⟩, hg.frozen k, fun u => (World.ownsRow.stored hO k u).1⟩
    rw [hg.cell k, ← List.getElem?_eq_getElem (by omega : k < cs.length), ← ht, List.getElem?_take, if_pos hk]
    simp
/-- A new row of bytes, written out ('[]byte("..")'). -/
theorem sl_lit (w : World) (cs : Array Value) (l : List UInt8) (t : TypeId) (fr : Nat × Nat) (n : Nat) (h : cs.toList = l.map bv) (hn : l.length = n) (hm : n ≤ maxLen) : Sl (w.alloc (.cells cs t fr)) (fun b => w.heap.size ≤ b) (some ⟨w.heap.size, 0, none⟩) n n l := by
  refine ⟨hn, Nat.le_refl _, hm, (fun h => by cases h), .inr ⟨_, _, rfl, Nat.le_refl _, fun j u hu => ?_⟩⟩
  rw [Nat.zero_add, World.cell?_alloc_mark, ← hu, ← h]
  simp
end Go.Proofs.Ytbdencfgiemliaa
