/-
  A part of a proof: N8 U14 U18 U11 U12 U19 U10.
-/
import Derived.Test.YtkfjenbfbendhaaGreatDoorLk01
import Derived.Test.YtkfjenbfbendhaaGreatDoorLk07
import Derived.Test.YtkfjenbfbendhaaGreatDoorLk14
import Derived.Test.YtkfjenbfbendhaaGreatDoorLk23
import Derived.Test.YtkfjenbfbendhaaGreatDoorLk29
import Derived.Shelf.SlIter.Nil
import Derived.Shelf.SortM.Plain
import Derived.Shelf.SortM.SortNone
import Derived.Tactics
import Derived.Tactics2
import Derived.Laws.Pointers
import Derived.WalkKit
import Derived.Lib.UnsafeStr
import Derived.Lib.Builder
import Derived.Shelf.Strings.Builder1
import Derived.Defers
import Derived.Recover
set_option linter.unusedSimpArgs false
set_option linter.unusedVariables false
section
set_option maxHeartbeats 4000000
namespace Go.V
open Go Go.Proofs
attribute [local irreducible] W bO WD aO yl aS bW
section
variable (Γ:Glo Tryz.prog)
attribute [local simp] veq bP ei V.del kW oD jA
def kQ (c:Int):Bool:=decide (97≤c)&&decide (c≤122)
def jw (c:Int):Bool:=decide (48≤c)&&decide (c≤57)
def vE (c:Int):Bool:=kQ c||(jw c||decide (c=95))
theorem f218 (c:Int):PureOk Tryz.prog Γ 218 [.int .u8 c] (.bool (kQ c)):=by
 by_cases h1:97≤c
 ·
  have e:kQ c=decide (c≤122):=by simp[kQ,h1]
  rw[e]
  refine Y1 9 Tryz.func218 rfl rfl fun a hl g0=>?_
  repeat' first|refine G1 ?_|(refine G2 ?_ ?_<;>intro hc hd<;>try exact hd.elim)|fail
  all_goals exact⟨by simp,.bool (decide (c≤122)),1,by simp[Tryz.f218, *],rfl⟩
 ·
  have e:kQ c=false:=by simp[kQ,h1]
  rw[e]
  refine Y1 9 Tryz.func218 rfl rfl fun a hl g0=>?_
  repeat' first|refine G1 ?_|(refine G2 ?_ ?_<;>intro hc hd<;>try exact hd.elim)|fail
  all_goals exact⟨by simp,.bool false,1,by simp[Tryz.f218, *],rfl⟩
theorem f222 (c:Int):PureOk Tryz.prog Γ 222 [.int .u8 c] (.bool (jw c)):=by
 by_cases h1:48≤c
 ·
  have e:jw c=decide (c≤57):=by simp[jw,h1]
  rw[e]
  refine Y1 9 Tryz.func222 rfl rfl fun a hl g0=>?_
  repeat' first|refine G1 ?_|(refine G2 ?_ ?_<;>intro hc hd<;>try exact hd.elim)|fail
  all_goals exact⟨by simp,.bool (decide (c≤57)),1,by simp[Tryz.f222, *],rfl⟩
 ·
  have e:jw c=false:=by simp[jw,h1]
  rw[e]
  refine Y1 9 Tryz.func222 rfl rfl fun a hl g0=>?_
  repeat' first|refine G1 ?_|(refine G2 ?_ ?_<;>intro hc hd<;>try exact hd.elim)|fail
  all_goals exact⟨by simp,.bool false,1,by simp[Tryz.f222, *],rfl⟩
theorem f219 (c:Int):PureOk Tryz.prog Γ 219 [.int .u8 c] (.bool (vE c)):=by
 have k1:=f218 Γ c
 have k2:=f222 Γ c
 unfold vE
 generalize kQ c=p at *
 generalize jw c=q at *
 cases p
 ·
  cases q
  ·
   refine Y1 13 Tryz.func219 rfl rfl fun a hl g0=>?_
   repeat' first|refine G1 ?_|(refine G2 ?_ ?_<;>intro hc hd<;>try exact hd.elim)|fail
   all_goals (try (refine aC k1 ?_))
   repeat' first|refine G1 ?_|(refine G2 ?_ ?_<;>intro hc hd<;>try exact hd.elim)|fail
   all_goals (try (refine aC k2 ?_))
   repeat' first|refine G1 ?_|(refine G2 ?_ ?_<;>intro hc hd<;>try exact hd.elim)|fail
   all_goals exact⟨by simp,.bool (decide (c=95)),1,by simp[Tryz.f219, *],rfl⟩
  ·
   refine Y1 13 Tryz.func219 rfl rfl fun a hl g0=>?_
   repeat' first|refine G1 ?_|(refine G2 ?_ ?_<;>intro hc hd<;>try exact hd.elim)|fail
   all_goals (try (refine aC k1 ?_))
   repeat' first|refine G1 ?_|(refine G2 ?_ ?_<;>intro hc hd<;>try exact hd.elim)|fail
   all_goals (try (refine aC k2 ?_))
   repeat' first|refine G1 ?_|(refine G2 ?_ ?_<;>intro hc hd<;>try exact hd.elim)|fail
   all_goals exact⟨by simp,.bool true,1,by simp[Tryz.f219, *],rfl⟩
 ·
  refine Y1 13 Tryz.func219 rfl rfl fun a hl g0=>?_
  repeat' first|refine G1 ?_|(refine G2 ?_ ?_<;>intro hc hd<;>try exact hd.elim)|fail
  all_goals (try (refine aC k1 ?_))
  repeat' first|refine G1 ?_|(refine G2 ?_ ?_<;>intro hc hd<;>try exact hd.elim)|fail
  all_goals exact⟨by simp,.bool true,1,by simp[Tryz.f219, *],rfl⟩
def preB:Str→Str→Bool
 |_,[]=>true
 |a::x,b::y=>Nat.beq a.toNat b.toNat&&preB x y
 |[],_::_=>false
theorem pN:∀(s p:Str),preB s p=true↔p.length≤s.length∧s.take p.length=p
 |s,[]=>by simp[preB]
 |[],b::y=>by simp[preB]
 |a::x,b::y=>by
  rw[preB,Bool.and_eq_true,pN x y]
  have:(Nat.beq a.toNat b.toNat=true)↔a=b:=⟨fun h=>UInt8.toNat_inj.1 (Nat.eq_of_beq_eq_true h),fun h=>by subst h;exact Nat.beq_refl _⟩
  rw[this]
  simp
  constructor
  ·
   rintro⟨rfl,h1,h2⟩;exact⟨h1,rfl,h2⟩
  ·
   rintro⟨h1,rfl,h2⟩;exact⟨rfl,h1,h2⟩
theorem f281 (s p:Str):PureOk Tryz.prog Γ 281 [.str s,.str p] (.bool (preB s p)):=by
 by_cases h1:p.length≤s.length
 ·
  have e:preB s p=decide (s.take p.length=p):=by
   rw[Bool.eq_iff_iff,pN,decide_eq_true_eq]
   exact⟨fun h=>h.2,fun h=>⟨h1,h⟩⟩
  rw[e]
  have h2:(p.length:Int)≤s.length:=by omega
  refine Y2 18 Tryz.func281 rfl rfl fun a hl g0 g1=>?_
  repeat' first|refine G1 ?_|(refine G2 ?_ ?_<;>intro hc hd<;>try exact hd.elim)|fail
  all_goals exact⟨by simp,.bool (decide (s.take p.length=p)),1,by simp[Tryz.f281, *],rfl⟩
 ·
  have e:preB s p=false:=by
   cases h:preB s p with
   |false=>rfl
   |true=>exact absurd ((pN s p).1 h).1 h1
  rw[e]
  have h2:¬(p.length:Int)≤s.length:=by omega
  refine Y2 18 Tryz.func281 rfl rfl fun a hl g0 g1=>?_
  repeat' first|refine G1 ?_|(refine G2 ?_ ?_<;>intro hc hd<;>try exact hd.elim)|fail
  all_goals exact⟨by simp,.bool false,1,by simp[Tryz.f281, *],rfl⟩
theorem f221 (s p:Str):PureOk Tryz.prog Γ 221 [.str s,.str p] (.bool (preB s p)):=by
 have k:=f281 Γ s p
 generalize preB s p=q at *
 refine Y2 8 Tryz.func221 rfl rfl fun a hl g0 g1=>?_
 repeat' first|refine G1 ?_|(refine G2 ?_ ?_<;>intro hc hd<;>try exact hd.elim)|fail
 all_goals (try (refine aC k ?_))
 repeat' first|refine G1 ?_|(refine G2 ?_ ?_<;>intro hc hd<;>try exact hd.elim)|fail
 all_goals exact⟨by simp,.bool q,1,by simp[Tryz.f221, *],rfl⟩
end
end Go.V
end
section
namespace Go.V
open Go Go.Proofs
def kS (f:FuncId)(vs:List Val):Option Val:=match f,vs with
 |31,[.ag t]=>match dTy 20 t with
  |some t=>match decide (wT t<big) with
   |true=>some (.ag (cTy t))
   |false=>none
  |_=>none
 |33,[.ag s]=>match dSt s with
  |some s=>match decide (wRs s.res+wD s.doc<big) with
   |true=>some (.ag (cSt s))
   |false=>none
  |_=>none
 |79,[.ag s]=>match xt s with
  |some s=>match decide (wR s<big) with
   |true=>some (.ag (ac s))
   |false=>none
  |_=>none
 |109,[l]=>match dSl 16 (tC 20) l with
  |some l=>match decide (wNs l<big) with
   |true=>some (sls aK l)
   |false=>none
  |_=>none
 |9,[.ag t,l]=>match dTy 20 t,dSl 16 (tC 20) l with
  |some t,some l=>match decide (wT t<big)&&decide (wNs l<30000000000) with
   |true=>some (i8 (bC t l).1 (bC t l).2.1 (bC t l).2.2)
   |false=>none
  |_,_=>none
 |10,[.ag t,l,.int .i64 e,.bool bk,.ag s]=>match dTy 20 t,dSl 16 (tC 20) l,dSt s with
  |some t,some l,some s=>match decide (wT t<big)&&(decide (wNs l<30000000000)&&decide (wRs s.res+wD s.doc<20000000000)) with
   |true=>(goB t l e bk s).map fun p=>.tp [.ag (cSt p.1),.int .i64 p.2]
   |false=>none
  |_,_,_=>none
 |32,[.ag t,l,.int .i64 e,.bool bk,.ag s]=>match dTy 20 t,dSl 16 (tC 20) l,dSt s with
  |some t,some l,some s=>match decide (wT t<big)&&(decide (wNs l<30000000000)&&decide (wRs s.res+wD s.doc<20000000000)) with
   |true=>(mN t l e bk s).map fun p=>goV p.1 p.2.1 p.2.2
   |false=>none
  |_,_,_=>none
 |11,[.ag t,.ag d]=>match dTy 20 t,tB 20 d with
  |some t,some d=>match decide (wT t<big)&&decide (wD d<big) with
   |true=>some (.bool (cQ t d))
   |false=>none
  |_,_=>none
 |13,[.ag t,.ag d]=>match dSt t,dSt d with
  |some t,some d=>match decide (wRs t.res+wD t.doc<big)&&decide (wRs d.res+wD d.doc<big) with
   |true=>some (.bool (eqS t d))
   |false=>none
  |_,_=>none
 |22,[.ag t,.ag d]=>match dTy 20 t,dTy 20 d with
  |some t,some d=>match decide (wT t<big)&&decide (wT d<big) with
   |true=>some (.bool (eqT t d))
   |false=>none
  |_,_=>none
 |27,[.ag t]=>match dTy 20 t with
  |some t=>match decide (wT t<big) with
   |true=>some (.bool (bq t))
   |false=>none
  |_=>none
 |75,[l]=>match dSl 8 xt l with
  |some l=>match decide (wRs l<big) with
   |true=>some (.bool (br l))
   |false=>none
  |_=>none
 |240,[l,.str s]=>match dSl 1 xD l with
  |some l=>match decide (l.length<big) with
   |true=>some (.bool (l.contains s))
   |false=>none
  |_=>none
 |107,[.str s]=>match decide (s.length<big) with
  |true=>some (.bool (d8 s))
  |false=>none
 |218,[.int .u8 c]=>some (.bool (kQ c))
 |222,[.int .u8 c]=>some (.bool (jw c))
 |219,[.int .u8 c]=>some (.bool (vE c))
 |281,[.str s,.str p]=>some (.bool (preB s p))
 |221,[.str s,.str p]=>some (.bool (preB s p))
 |_,_=>none
theorem Dp:∀f vs r,kS f vs=some r→PureOk Tryz.prog ΓT f vs r:=by
 intro f vs r h
 unfold kS at h
 split at h
 ·
  rename_i t0
  split at h
  ·
   rename_i t q0
   split at h
   ·
    rename_i hc
    simp only[Bool.and_eq_true,decide_eq_true_eq] at hc
    cases h
    exact(f31 ΓT t hc).arg ⟨Wk.ag (iQ _ _ _ q0),trivial⟩
   ·
    cases h
  ·
   cases h
 ·
  rename_i s0
  split at h
  ·
   rename_i s q0
   split at h
   ·
    rename_i hc
    simp only[Bool.and_eq_true,decide_eq_true_eq] at hc
    cases h
    exact(f33 ΓT s hc).arg ⟨Wk.ag (ob _ _ q0),trivial⟩
   ·
    cases h
  ·
   cases h
 ·
  rename_i s0
  split at h
  ·
   rename_i s q0
   split at h
   ·
    rename_i hc
    simp only[Bool.and_eq_true,decide_eq_true_eq] at hc
    cases h
    exact(f79 ΓT s hc).arg ⟨Wk.ag (ru _ _ q0),trivial⟩
   ·
    cases h
  ·
   cases h
 ·
  rename_i l0
  split at h
  ·
   rename_i l q0
   split at h
   ·
    rename_i hc
    simp only[Bool.and_eq_true,decide_eq_true_eq] at hc
    cases h
    exact(f109' ΓT l hc).arg ⟨fS (lu 20) q0,trivial⟩
   ·
    cases h
  ·
   cases h
 ·
  rename_i t0 l0
  split at h
  ·
   rename_i t l q0 q1
   split at h
   ·
    rename_i hc
    simp only[Bool.and_eq_true,decide_eq_true_eq] at hc
    cases h
    exact(f9 ΓT yT t l hc.1 hc.2).arg ⟨Wk.ag (iQ _ _ _ q0),fS (lu 20) q1,trivial⟩
   ·
    cases h
  ·
   cases h
 ·
  rename_i t0 l0 e bk s0
  split at h
  ·
   rename_i t l s q0 q1 q2
   split at h
   ·
    rename_i hc
    simp only[Bool.and_eq_true,decide_eq_true_eq] at hc
    obtain⟨p,h1,rfl⟩:=map_some h
    exact(f10 ΓT xok yT t l e bk s p.1 p.2 hc.1 hc.2.1 hc.2.2 h1).1.arg ⟨Wk.ag (iQ _ _ _ q0),fS (lu 20) q1,Wk.refl _,Wk.refl _,Wk.ag (ob _ _ q2),trivial⟩
   ·
    cases h
  ·
   cases h
 ·
  rename_i t0 l0 e bk s0
  split at h
  ·
   rename_i t l s q0 q1 q2
   split at h
   ·
    rename_i hc
    simp only[Bool.and_eq_true,decide_eq_true_eq] at hc
    obtain⟨p,h1,rfl⟩:=map_some h
    exact(f32 ΓT xok yT t l e bk s p.1 p.2.1 p.2.2 hc.1 hc.2.1 hc.2.2 h1).1.arg ⟨Wk.ag (iQ _ _ _ q0),fS (lu 20) q1,Wk.refl _,Wk.refl _,Wk.ag (ob _ _ q2),trivial⟩
   ·
    cases h
  ·
   cases h
 ·
  rename_i t0 d0
  split at h
  ·
   rename_i t d q0 q1
   split at h
   ·
    rename_i hc
    simp only[Bool.and_eq_true,decide_eq_true_eq] at hc
    cases h
    exact(yT t d hc.1 hc.2).arg ⟨Wk.ag (iQ _ _ _ q0),Wk.ag (ln _ _ _ q1),trivial⟩
   ·
    cases h
  ·
   cases h
 ·
  rename_i t0 d0
  split at h
  ·
   rename_i t d q0 q1
   split at h
   ·
    rename_i hc
    simp only[Bool.and_eq_true,decide_eq_true_eq] at hc
    cases h
    exact(f13 ΓT t d hc.1 hc.2).arg ⟨Wk.ag (ob _ _ q0),Wk.ag (ob _ _ q1),trivial⟩
   ·
    cases h
  ·
   cases h
 ·
  rename_i t0 d0
  split at h
  ·
   rename_i t d q0 q1
   split at h
   ·
    rename_i hc
    simp only[Bool.and_eq_true,decide_eq_true_eq] at hc
    cases h
    exact(f22 ΓT t d hc.1 hc.2).arg ⟨Wk.ag (iQ _ _ _ q0),Wk.ag (iQ _ _ _ q1),trivial⟩
   ·
    cases h
  ·
   cases h
 ·
  rename_i t0
  split at h
  ·
   rename_i t q0
   split at h
   ·
    rename_i hc
    simp only[Bool.and_eq_true,decide_eq_true_eq] at hc
    cases h
    exact(f27 ΓT t hc).arg ⟨Wk.ag (iQ _ _ _ q0),trivial⟩
   ·
    cases h
  ·
   cases h
 ·
  rename_i l0
  split at h
  ·
   rename_i l q0
   split at h
   ·
    rename_i hc
    simp only[Bool.and_eq_true,decide_eq_true_eq] at hc
    cases h
    exact(f75 ΓT l hc).arg ⟨fS ru q0,trivial⟩
   ·
    cases h
  ·
   cases h
 ·
  rename_i l0 s
  split at h
  ·
   rename_i l q0
   split at h
   ·
    rename_i hc
    simp only[Bool.and_eq_true,decide_eq_true_eq] at hc
    cases h
    exact(f240 ΓT l s hc).arg ⟨fS oI q0,Wk.refl _,trivial⟩
   ·
    cases h
  ·
   cases h
 ·
  split at h
  ·
   rename_i hc
   cases h
   exact f107 ΓT _ (by simpa using hc)
  ·
   cases h
 ·
  cases h;exact f218 ΓT _
 ·
  cases h;exact f222 ΓT _
 ·
  cases h;exact f219 ΓT _
 ·
  cases h;exact f281 ΓT _ _
 ·
  cases h;exact f221 ΓT _ _
 ·
  cases h
end Go.V
end
section
namespace Go.Proofs
open Go.RowKit Go.Maps Go.Sort Go.Shelf
set_option maxHeartbeats 1000000 in
theorem Tryz.sorted319 {H:Type}(b1 b nn:Nat)(D0:DataW H)(R:Value→Option (DataW H×List MemPlace))(w:World)(hb1:b1<w.heap.size)(hc:w.cell? ⟨b1,0,none⟩=some (.map (some b)))(hown:w.ownsMap Tryz.prog 9 R b nn D0)(hmax:Maps.size D0≤maxLen)(hbytes:Maps.size D0*16≤140737488355328) :
  Calls Tryz.prog 200 #[.func (.func 319) #[] #[.pointer (some ⟨b1,0,none⟩)]] w fun e w'=>∃(v:Value) (ss:List (List UInt8)),e=.returned v∧ss.Perm (strKeys D0)∧
   w'.ownsRow w.heap.size 9 1 v ss.length ((ss.mergeSort (fun x y=>decide (x≤y))).map encStr)∧(v=.slice none 0 0↔ss=[])∧Below w.heap.size w w':=by
 have hseq:SeqGives Fence.wide 2 Tryz.prog 319 #[.pointer (some ⟨b1,0,none⟩)] encStr (fun ss=>ss.Perm (strKeys D0)) (Maps.size D0) w:=
  AnyZ.keys_gives (ρ:=Tryz.keys285_ren) {Tryz.keys285 with} Fence.wide _ trivial rfl (by omega) b1 b nn D0 _ hb1 hc hown
 exact(callsIn_wide (n:=5)).1 (AnyZ.sorted_in Tryz.sorted200 Fence.wide 5 trivial trivial trivial trivial rfl (by omega) (Tryz.sorts200 _) (enters_of Tryz.func270 (by kernel_rfl) rfl) 319 #[.pointer (some ⟨b1,0,none⟩)] trivial (enters_of Tryz.func319 (by kernel_rfl) rfl) _ _ hmax hbytes _ hseq)
end Go.Proofs
namespace Go.V
open Go Go.Proofs Go.Maps Go.MapKept Go.WideElems Go.RowKit Go.Lib Go.Sort
theorem mO {F:Fro}{ρ:Pl}:∀(f:Flds)(es:List (Val×Val)){xs:List MapEntry},(es.map (·.1)=f.map fun p=>Val.str p.1)→MapRel F ρ es xs→xs.map (·.key)=f.map fun p=>str p.1
 |[],es,xs,he,h=>by
  obtain rfl:es=[]:=by simpa using he
  have:xs=[]:=h
  subst this;rfl
 |p::f,[],xs,he,h=>by cases he
 |p::f,(k,v)::es,xs,he,h=>by
  obtain⟨y,ys,rfl,h1,_,_,h4⟩:=h
  simp only[List.map_cons,List.cons.injEq] at he
  rw[List.map_cons,List.map_cons,mO f es he.2 h4]
  have h1':Rel F ρ (.str p.1) y.key:=by rw[←he.1];exact h1
  rw[show y.key=str p.1 from h1']
variable (Γ:Glo Tryz.prog)
theorem lY (g:FuncId)(t:TypeId)
  (hcon:∀(b1 b nn:Nat) (D0:DataW Unit) (R:Value→Option (DataW Unit×List MemPlace)) (w:World) (_:b1<w.heap.size) (_:w.cell? ⟨b1,0,none⟩=some (.map (some b))) (_:w.ownsMap Tryz.prog 9 R b nn D0) (_:Maps.size D0≤maxLen) (_:Maps.size D0*16≤140737488355328),
   Calls Tryz.prog 200 #[.func (.func g) #[] #[.pointer (some ⟨b1,0,none⟩)]] w fun e w'=>∃(v:Value) (ss:List (List UInt8)),e=.returned v∧ss.Perm (strKeys D0)∧
    w'.ownsRow w.heap.size 9 1 v ss.length ((ss.mergeSort (fun x y=>decide (x≤y))).map encStr)∧(v=.slice none 0 0↔ss=[])∧Below w.heap.size w w')
  (es:List (Val×Val)) (f:Flds) (hes:es.map (·.1)=f.map fun p=>Val.str p.1) (hn:bl f) (hb:wF f<100000000000) (h:Heap) (iq cq N:Nat) (hgi:get h iq=some (.map es)) (hgc:get h cq=some (.cells [.mp iq] t false)):CallOk Tryz.prog Γ 200 [.fn g [] [.pr cq 0]] h N true (sls aW ((bz f).map (·.1))) h N:=by
 refine⟨Nat.le_refl _,fun F ρ w0 O w xs hG m hf hv=>?_⟩
 obtain⟨L0,x0,h1,h2,h3,ents,clock,rfl,hm,hborn⟩:=m.own iq (.map es) hgi
 obtain⟨L1,x1,k1,k2,k3,c,rfl,k5,k6,k7,k8⟩:=m.own cq (.cells [.mp iq] t false) hgc
 simp only[RelL,Rel] at hv
 obtain⟨y0,ys0,hxs,⟨us,vs,rfl,e1,z0,zs0,e2,⟨L1',q1,rfl⟩,rfl⟩,rfl⟩:=hv
 rw[k1] at q1;cases q1
 have e1':us=#[]:=Array.toList_eq_nil_iff.1 e1
 subst e1'
 have e2':vs=#[.pointer (some ⟨L1.b,0,none⟩)]:=Array.ext' e2
 subst e2'
 have hxs':xs=#[.func (.func g) #[] #[.pointer (some ⟨L1.b,0,none⟩)]]:=Array.ext' hxs
 subst hxs'
 have hlt:∀b (o:Obj),w.heap[b]?=some o→b<w.heap.size:=fun b o h=>by
  rcases Nat.lt_or_ge b w.heap.size with h'|h'
  ·
   exact h'
  ·
   rw[Array.getElem?_eq_none h'] at h;cases h
 have hcell:w.cell? ⟨L1.b,0,none⟩=some (.map (some L0.b)):=by
  unfold World.cell?
  simp only[k3]
  simp only[RelL,Rel,List.length_cons,List.length_nil,Nat.zero_add] at k7
  obtain⟨y,ys,e3,⟨L',q1,rfl⟩,rfl⟩:=k7
  rw[h1] at q1;cases q1
  cases hc:c.toList with
  |nil=>rw[hc] at e3;cases e3
  |cons z zs=>
   rw[hc] at e3
   simp only[List.take_succ_cons,List.take_zero,List.cons.injEq,and_true] at e3
   subst e3
   rw[show c[(⟨L1.b,0,none⟩:Addr).off]?=c.toList[0]? by rw[Array.getElem?_toList],hc]
   rfl
 have hkeys:=mO f es hes hm
 have hlen:ents.toList.length=f.length:=by
  have:=congrArg List.length hkeys
  simpa using this
 have hwl:=qA f
 have hkey:∀x∈ents.toList,∃s:Str,x.key=str s∧s.length<wF f:=fun x hx=>by
  have:x.key∈ents.toList.map (·.key):=List.mem_map.2 ⟨x,hx,rfl⟩
  rw[hkeys] at this
  obtain⟨p,hp,e⟩:=List.mem_map.1 this
  exact⟨p.1,e.symm,zc hp⟩
 have hu9:Tryz.prog.underlying 9=some .string:=by kernel_rfl
 have hrd:∀x∈ents.toList,∃s:Str,x.key=str s∧rd Tryz.prog 9 RU x=some (.string s,.lit (.bool true)):=fun x hx=>by
  obtain⟨s,hs,hsl⟩:=hkey x hx
  refine⟨s,hs,?_⟩
  obtain⟨xk,xv,xb⟩:=x
  simp only at hs
  subst hs
  have:=Go.WideMaps.keyOf_string_mk (P:=Tryz.prog) (k:=9) hu9 (s:=⟨s.toArray⟩) (by show s.toArray.size≤maxLen;unfold maxLen;simp;omega)
  exact rd_mk (R:=RU) this rfl
 have hst:Stamped ents clock:=by
  refine⟨hborn.1,hborn.2,?_⟩
  rw[hkeys]
  unfold bl at hn
  rw[show(f.map fun p=>str p.1)=(f.map (·.1)).map str by rw[List.map_map];rfl]
  rw[List.Nodup,List.pairwise_map]
  exact hn.imp fun hne e=>hne (oR e)
 have hown:w.ownsMap Tryz.prog 9 RU L0.b ents.size (.map ((ents.toList.map (rg Tryz.prog 9 RU)).foldr DataW.insert [])):=
  ⟨ents,clock,h3,⟨by unfold maxLen;rw[←Array.length_toList];omega,hst,fun x hx=>let ⟨_,_,h⟩:=hrd x hx;⟨_,h⟩⟩,Nat.le_refl _,rfl⟩
 have hD:=jW (ents.toList.map (rg Tryz.prog 9 RU))
 have hsz:Maps.size (DataW.map ((ents.toList.map (rg Tryz.prog 9 RU)).foldr DataW.insert []))=f.length:=by
  show List.length _=_
  rw[hD.length_eq,List.length_map,hlen]
 have hsk:(strKeys (DataW.map ((ents.toList.map (rg Tryz.prog 9 RU)).foldr DataW.insert []))).Perm (f.map (·.1)):=by
  show(List.map _ _).Perm _
  refine(hD.map _).trans ?_
  rw[List.map_map]
  have:ents.toList.map ((fun p:Lit×DataW Unit=>Go.strOf p.1) ∘ rg Tryz.prog 9 RU)=f.map (·.1):=by
   refine(List.map_inj_right fun a b h=>oR h).1 (?_:_=(f.map (·.1)).map str)
   have e0:(f.map (·.1)).map str=f.map fun p=>str p.1:=by rw[List.map_map];exact List.map_congr_left fun _ _=>rfl
   rw[e0,←hkeys,List.map_map]
   apply List.map_congr_left
   intro x hx
   obtain⟨s,hs,hr⟩:=hrd x hx
   rw[Function.comp_apply,Function.comp_apply,rg_of hr,hs]
   rfl
  rw[this]
 refine(hcon L1.b L0.b ents.size _ RU w (hlt _ _ k3) hcell hown (by rw[hsz];unfold maxLen;omega) (by rw[hsz];omega)).mono ?_
 rintro e w' ⟨v,ss,rfl,hss,hrow,hnil,hbel⟩
 have hkf:=nf hn (hss.trans hsk)
 rw[hkf] at hrow
 have hsl:ss.length=f.length:=by rw[(hss.trans hsk).length_eq,List.length_map]
 have hkl:((bz f).map (·.1)).length=ss.length:=by rw[←hkf];exact List.length_mergeSort _
 generalize (bz f).map (·.1)=ks at *
 have hw0:w0.heap.size≤w.heap.size:=m.fr.size
 have old:∀b c,F b=some c→b<w.heap.size:=fun b c hb=>by
  obtain⟨e5,fr,h9⟩:=m.fro b c hb
  exact hlt _ _ h9
 have hfr:Fr w0 O w':=by
  refine⟨hbel.os.trans m.fr.os,hbel.tape.trans m.fr.tape,hbel.output.trans m.fr.output,Nat.le_trans m.fr.size hbel.size,fun i hi ho=>?_⟩
  rw[hbel.block i (by omega)]
  exact m.fr.block i hi ho
 have hmem:∀F':Fro,FLe F F'→FOk F' w'→(∀b,b<w.heap.size→F' b=F b)→Mem Tryz.prog F' ρ h w0 O w':=by
  intro F' hle hfo hno
  refine⟨hfo,fun i blk hg=>?_,m.inj,m.ours,hfr⟩
  obtain⟨L,x,p1,p2,p3,p4⟩:=m.own i blk hg
  exact⟨L,x,p1,(hno _ (hlt _ _ p3)).trans p2,by rw[hbel.block _ (hlt _ _ p3)];exact p3,BRel.mono Tryz.prog hle (PLe.refl ρ) p4⟩
 obtain⟨_,hrow⟩:=hrow
 rcases hrow with ⟨rfl,hz⟩|⟨gb,cap,cur,rfl,hbase,hgb,r1,r2,r3,r4⟩
 ·
  have hks:ks=[]:=List.eq_nil_of_length_eq_zero (by omega)
  subst hks
  refine⟨F,ρ,_,rfl,Ext.refl F ρ w0 O N N,.inl ⟨.inl rfl,rfl,rfl,(fun _ h=>by cases h)⟩,hmem F (FLe.refl F) (fun b c hb=>?_) (fun _ _=>rfl)⟩
  obtain⟨e5,fr,h9⟩:=m.fro b c hb
  exact⟨e5,fr,by rw[hbel.block _ (hlt _ _ h9)];exact h9⟩
 ·
  obtain⟨F',hF'⟩:∃F':Fro,F'=fun b=>if b=gb then some cur else F b:=⟨_,rfl⟩
  have hle:FLe F F':=fun b c hb=>by
   rw[hF']
   show(if b=gb then some cur else F b)=some c
   have:=old b c hb
   rw[if_neg (by omega)];exact hb
  have hgF:F' gb=some cur:=by rw[hF'];show(if gb=gb then some cur else F gb)=_;rw[if_pos rfl]
  have hb0:=hlt _ _ h3
  refine⟨F',ρ,_,rfl,⟨hle,PLe.refl ρ,fun b c hb=>?_,fun _ _=>rfl⟩,.inr ⟨gb,0,cur,cap,by rw[hkl],by rw[hkl];exact r1,(fun _ h=>by cases h),hgF,?_⟩,hmem F' hle (fun b c hb=>?_) ?_⟩
  ·
   rw[hF'] at hb
   simp only at hb
   split at hb
   ·
    rename_i e;subst e;right;right;omega
   ·
    left;exact hb
  ·
   rw[List.drop_zero,fl,hkl]
   rw[Nat.mul_one] at r4
   rw[r4]
   exact pS ks
  ·
   rw[hF'] at hb
   simp only at hb
   split at hb
   ·
    rename_i e;subst e;cases hb;exact⟨_,_,hgb⟩
   ·
    obtain⟨e5,fr,h9⟩:=m.fro b c hb
    exact⟨e5,fr,by rw[hbel.block _ (hlt _ _ h9)];exact h9⟩
  ·
   intro b hb
   rw[hF']
   show(if b=gb then some cur else F b)=F b
   rw[if_neg (by omega)]
end Go.V
end
section
namespace Go.V
open Go Go.Proofs Go.Shelf
theorem td:∃j,Tryz.prog.info? 184=some j∧j.size=2:=by
 have h:(Tryz.prog.info? 184).map (·.size)=some 2:=by kernel_rfl
 obtain⟨j,h1,h2⟩:=Option.map_eq_some_iff.1 h
 exact⟨j,h1,h2⟩
set_option maxRecDepth 100000 in
theorem xB (b:Nat)(w:World)(h0:w.cell? ⟨b,0,none⟩=some (.pointer (some ⟨b,0,none⟩))) :
  Calls Tryz.prog 174 #[.pointer (some ⟨b,0,none⟩)] w fun e w'=>e=.returned (.tuple #[])∧w'=w:=by
 obtain⟨j,hj,_⟩:=td
 go_enter Tryz.func174,Tryz.ntmps174
 go_wp2
 rw[Lib.run_neq_ptr_same w _ Tryz.underlying181 hj]
 go_wp2
 go_end0
 exact⟨rfl,rfl⟩
set_option maxRecDepth 100000 in
theorem xA (b:Nat)(w:World)(h0:w.cell? ⟨b,0,none⟩=some (.pointer none))(hsh:w.shape? b=some (184,2))(hfz:w.frozen? ⟨b,0,none⟩=false) :
  Calls Tryz.prog 174 #[.pointer (some ⟨b,0,none⟩)] w fun e w'=>e=.returned (.tuple #[])∧w'=w.setCell ⟨b,0,none⟩ (.pointer (some ⟨b,0,none⟩)):=by
 obtain⟨j,hj,hjs⟩:=td
 go_enter Tryz.func174,Tryz.ntmps174
 go_wp2
 rw[Lib.run_to_unsafe w ⟨b,0,none⟩ Tryz.underlying181 Tryz.underlying276 hj (by rw[hjs];decide) hsh (Nat.zero_lt_succ 1)]
 simp only[Result.andThen]
 rw[Oper.upon_value]
 go_wp2
 rw[run_callFunc_extern Tryz.func250 (by kernel_rfl) (by kernel_rfl) (by kernel_rfl) (e:=Extern.AbiNoEscape.same) (by kernel_rfl)]
 rw[Lib.run_noEscape]
 simp only[Result.andThen]
 rw[Oper.upon_value]
 go_wp2
 rw[Lib.run_from_unsafe w ⟨b,0,none⟩ Tryz.underlying276 Tryz.underlying181 hj hsh (by kernel_rfl)]
 simp only[Result.andThen]
 rw[Oper.upon_value]
 go_wp2
 go_end0
 exact⟨rfl,rfl⟩
set_option maxRecDepth 100000 in
theorem xW (b g cap:Nat)(p:Value)(cur:Array Value)(l:List UInt8)(w:World)(h0:l≠[])(hbk:w.heap[b]?=some (.cells #[p,.slice (some ⟨g,0,none⟩) l.length cap] 184 (0,0)))(hg:w.heap[g]?=some (.cells cur 5 (0,0)))
  (hn:l.length≤cur.size) (h63:l.length≤9223372036854775807) (hc0:cap≠0) (hcs:∀(j:Nat) (x:UInt8),l[j]?=some x→cur[j]?=some (.int .u8 x.toNat)) :
  Calls Tryz.prog 114 #[.pointer (some ⟨b,0,none⟩)] w fun e w'=>e=.returned (.string ⟨l.toArray⟩)∧w'=w.drew.freeze ⟨g,0,none⟩ l.length:=by
 have c1:w.drew.cell? ⟨b,1,none⟩=some (.slice (some ⟨g,0,none⟩) l.length cap):=by
  have:w.drew.heap[b]?=some (.cells #[p,.slice (some ⟨g,0,none⟩) l.length cap] 184 (0,0)):=hbk
  rw[Lib.cell_of_heap this];rfl
 have hSD:(Builtin.unsafeSliceData_ #[182] 244 #[.slice (some ⟨g,0,none⟩) l.length cap]).run Tryz.prog w.drew=.ok (.pointer (some ⟨g,0,none⟩)) w.drew:=
  Lib.run_unsafeSliceData_row _ _ _ _ _ _ (by omega)
 have hUS:(Builtin.unsafeString_ #[244,3] 9 #[.pointer (some ⟨g,0,none⟩),.int .i64 l.length]).run Tryz.prog w.drew=.ok (.string ⟨l.toArray⟩) (w.drew.freeze ⟨g,0,none⟩ l.length):=by
  refine Lib.run_unsafeString_row w.drew 244 3 9 5 Tryz.underlying244 (by kernel_rfl) g cur.size (by have hg':w.drew.heap[g]?=some (.cells cur 5 (0,0)):=hg;simp[World.shape?,hg']) l h0 hn h63 ?_
  intro j x hx
  have hg':w.drew.heap[g]?=some (.cells cur 5 (0,0)):=hg
  rw[Addr.add_lit,Nat.zero_add]
  simp only[World.cell?,hg']
  simpa using hcs j x hx
 have mixed:Tryz.prog.follows .mixedOrders=true:=by kernel_rfl
 go_enter Tryz.func114,Tryz.ntmps114
 go_wp2
 go_region_o
 all_goals (go_wp2;go_ret;exact⟨rfl,rfl⟩)
end Go.V
end
section
namespace Go.V
open Go Go.Proofs
theorem Mem.lose {P:Program}{F:Fro}{ρ:Pl}{h h':Heap}{w0 w w':World}{O:Nat→Prop}(m:Mem P F ρ h w0 O w){i:Nat}{L:Loc}(hi:(get h i).isSome)(hL:ρ i=some L)(hh:∀j b,get h' j=some b→get h j=some b∧j≠i)
  (hs:w'.heap.size=w.heap.size) (hk:∀k,k≠L.b→w'.heap[k]?=w.heap[k]?) (ho:w'.os=w.os) (ht:w'.tape=w.tape) (hu:w'.output=w.output):Mem P F ρ h' w0 O w':=by
 have hFi:F L.b=none:=by
  cases hg:get h i with
  |none=>simp[hg] at hi
  |some b=>obtain⟨M,_,h1,h2,_⟩:=m.own i b hg;rw[hL] at h1;cases h1;exact h2
 have some':∀j,(get h' j).isSome→(get h j).isSome:=by
  intro j hj
  obtain⟨b,hb⟩:=Option.isSome_iff_exists.1 hj
  rw[(hh j b hb).1];rfl
 refine⟨fun b c hb=>?_,fun j b hj=>?_,fun j k Lj Lk hj hk'=>m.inj j k Lj Lk (some' j hj) (some' k hk'),fun j M hj=>m.ours j M (some' j hj),?_⟩
 ·
  obtain⟨e,fr,h1⟩:=m.fro b c hb
  have:b≠L.b:=fun e=>by subst e;rw[hFi] at hb;cases hb
  exact⟨e,fr,by rw[hk b this];exact h1⟩
 ·
  obtain⟨g1,g2⟩:=hh j b hj
  obtain⟨M,y,h1,h2,h3,h4⟩:=m.own j b g1
  have hne:M.b≠L.b:=fun he=>g2 (m.inj i j L M hi (by simp[g1]) hL h1 he.symm).symm
  exact⟨M,y,h1,h2,by rw[hk _ hne];exact h3,h4⟩
 ·
  refine⟨ho.trans m.fr.os,ht.trans m.fr.tape,hu.trans m.fr.output,by rw[hs];exact m.fr.size,fun k hk' hO=>?_⟩
  by_cases e:k=L.b
  ·
   subst e
   rcases m.ours i L hi hL with h1|h1
   ·
    exact(hO h1).elim
   ·
    omega
  ·
   rw[hk k e];exact m.fr.block k hk' hO
def rm:List Val→Option (List UInt8)
 |[]=>some []
 |.int .u8 z::r=>if 0≤z∧z<256 then (rm r).map (UInt8.ofNat z.toNat :: ·) else none
 |_=>none
theorem qZ:∀{cs:List Val}{l:List UInt8},rm cs=some l→l.length=cs.length∧∀(j:Nat)(x:UInt8),l[j]?=some x→cs[j]?=some (.int .u8 x.toNat)
 |[],l,h=>by cases h;simp
 |v::r,l,h=>by
  unfold rm at h
  split at h
  ·
   rename_i e;cases e
  ·
   rename_i z r' e
   cases e
   split at h
   ·
    rename_i hz
    obtain⟨l',h1,rfl⟩:=map_some h
    obtain⟨q1,q2⟩:=qZ h1
    refine⟨by simp[q1],fun j x hx=>?_⟩
    cases j with
    |zero=>
     simp only[List.getElem?_cons_zero,Option.some.injEq] at hx ⊢
     subst hx
     have:(UInt8.ofNat z.toNat).toNat=z.toNat:=by simp[UInt8.toNat_ofNat];omega
     rw[this]
     congr 1
     omega
    |succ j=>simpa using q2 j x (by simpa using hx)
   ·
    cases h
  ·
   cases h
def tI (f:FuncId)(vs:List Val)(h:Heap)(N:Nat):Option (Val×Heap×Nat):=match f,vs with
 |174,[.pr i 0]=>match get h i with
  |some (.cells [.nilp,b] 184 false)=>if gq b=true then some (.tp [],put h i (.cells [.pr i 0,b] 184 false),N) else none
  |some (.cells [.pr j 0,b] 184 false)=>if j=i then some (.tp [],h,N) else none
  |_=>none
 |114,[.pr i 0]=>match get h i with
  |some (.cells [_,.so b 0 n c] 184 false)=>match get h b with
   |some (.cells cs 5 o)=>match rm (cs.take n) with
    |some l=>if n≠0∧l.length=n∧n<1000000 then some (.str l,del h b,N) else none
    |none=>none
   |_=>none
  |_=>none
 |_,_=>none
theorem yk {F:Fro}{ρ:Pl}{u v:Val}{xs:List Value}(h:RelL F ρ [u,v] xs):∃x y,xs=[x,y]∧Rel F ρ u x∧Rel F ρ v y:=by
 simp only[RelL] at h
 obtain⟨x,ys,rfl,h1,y,zs,rfl,h2,rfl⟩:=h
 exact⟨x,y,rfl,h1,h2⟩
theorem EJ {Γ:Glo Tryz.prog}:∀f vs h N r h' N',tI f vs h N=some (r,h',N')→CallOk Tryz.prog Γ f vs h N true r h' N':=by
 intro f vs h N r h' N' hx
 unfold tI at hx
 split at hx
 ·
  rename_i i
  split at hx
  ·
   rename_i b hg
   split at hx
   ·
    rename_i hb
    cases hx
    refine⟨Nat.le_refl _,fun F ρ w0 O w xs hG m hf ha=>?_⟩
    simp only[RelL,Rel] at ha
    obtain⟨y,ys,e1,⟨L,hL,rfl⟩,rfl⟩:=ha
    obtain rfl:xs=#[.pointer (some ⟨L.b,0,none⟩)]:=by cases xs;simp_all
    obtain⟨L',x,h1,h2,h3,c,rfl,h5,h6,h7,h8⟩:=m.own i _ hg
    rw[hL] at h1;cases h1
    have hsz:c.size=2:=h5.trans (h8 rfl).symm
    rw[List.take_of_length_le (by simp[hsz])] at h7
    obtain⟨x0,x1,e2,r0,r1⟩:=yk h7
    obtain rfl:c=#[x0,x1]:=by cases c;simp_all
    simp only[Rel] at r0
    subst r0
    refine(xA L.b w (by simp[World.cell?,h3]) (by simp[World.shape?,h3]) (by simp[World.frozen?,h3])).mono ?_
    rintro e w' ⟨rfl,rfl⟩
    refine⟨F,ρ,_,rfl,Ext.refl F ρ w0 O N N,by simp[Rel,RelL],?_⟩
    refine m.set (L:=L) (by simp[hg]) hL (x:=.cells #[.pointer (some ⟨L.b,0,none⟩),x1] 184 (0,0)) ⟨_,rfl,by simpa using h5,h6,?_,fun _=>by simpa using h8 rfl⟩ ?_ ?_ ?_ rfl rfl rfl
    ·
     simp only[List.length_cons,List.length_nil,List.take,RelL]
     exact⟨_,_,rfl,by rw[Rel];exact⟨L,hL,rfl⟩,_,_,rfl,r1,rfl⟩
    ·
     unfold World.setCell
     simp[Array.getElem?_modify,h3]
    ·
     unfold World.setCell
     simp
    ·
     intro k hk
     unfold World.setCell
     simp only[Array.getElem?_modify]
     rw[if_neg (fun e=>hk e.symm)]
   ·
    cases hx
  ·
   rename_i j b hg
   split at hx
   ·
    rename_i hj
    subst hj
    cases hx
    refine⟨Nat.le_refl _,fun F ρ w0 O w xs hG m hf ha=>?_⟩
    simp only[RelL,Rel] at ha
    obtain⟨y,ys,e1,⟨L,hL,rfl⟩,rfl⟩:=ha
    obtain rfl:xs=#[.pointer (some ⟨L.b,0,none⟩)]:=by cases xs;simp_all
    obtain⟨L',x,h1,h2,h3,c,rfl,h5,h6,h7,h8⟩:=m.own _ _ hg
    rw[hL] at h1;cases h1
    have hsz:c.size=2:=h5.trans (h8 rfl).symm
    rw[List.take_of_length_le (by simp[hsz])] at h7
    obtain⟨x0,x1,e2,r0,r1⟩:=yk h7
    obtain rfl:c=#[x0,x1]:=by cases c;simp_all
    simp only[Rel] at r0
    obtain⟨L2,hL2,rfl⟩:=r0
    rw[hL] at hL2;cases hL2
    refine(xB L.b w (by simp[World.cell?,h3])).mono ?_
    rintro e w' ⟨rfl,rfl⟩
    exact⟨F,ρ,_,rfl,Ext.refl F ρ w0 O N N,by simp[Rel,RelL],m⟩
   ·
    cases hx
  ·
   cases hx
 ·
  rename_i i
  split at hx
  ·
   rename_i p b n cp hg
   split at hx
   ·
    rename_i cs o hgb
    split at hx
    ·
     rename_i l hl
     split at hx
     ·
      rename_i hc
      obtain⟨hn0,hln,hn1⟩:=hc
      cases hx
      refine⟨Nat.le_refl _,fun F ρ w0 O w xs hG m hf ha=>?_⟩
      simp only[RelL,Rel] at ha
      obtain⟨y,ys,e1,⟨L,hL,rfl⟩,rfl⟩:=ha
      obtain rfl:xs=#[.pointer (some ⟨L.b,0,none⟩)]:=by cases xs;simp_all
      obtain⟨L',x,h1,h2,h3,c,rfl,h5,h6,h7,h8⟩:=m.own i _ hg
      rw[hL] at h1;cases h1
      have hsz:c.size=2:=h5.trans (h8 rfl).symm
      rw[List.take_of_length_le (by simp[hsz])] at h7
      obtain⟨x0,x1,e2,r0,r1⟩:=yk h7
      obtain rfl:c=#[x0,x1]:=by cases c;simp_all
      simp only[Rel] at r1
      obtain⟨M,k,hM,rfl,hk1,_,_⟩:=r1
      obtain⟨M',z,q1,q2,q3,cur,rfl,q5,q6,q7,q8⟩:=m.own b _ hgb
      rw[hM] at q1;cases q1
      obtain⟨b1,b2⟩:=qZ hl
      have hcl:n≤cs.length:=by rw[List.length_take] at b1;omega
      have hcu:cs.length≤cur.size:=by have:=q7.length;simp at this;omega
      subst hln
      refine(xW L.b M.b k x0 cur l w (fun e=>hn0 (by simp[e])) h3 q3 (by omega) (by omega) (by omega) ?_).mono ?_
      ·
       intro j x hj
       have h9:=b2 j x hj
       rw[List.getElem?_take] at h9
       split at h9
       ·
        obtain⟨y,hy,hr⟩:=q7.get h9
        rw[List.getElem?_take] at hy
        split at hy
        ·
         simp only[Rel] at hr
         subst hr
         simpa using hy
        ·
         cases hy
       ·
        cases h9
      ·
       rintro e w' ⟨rfl,rfl⟩
       refine⟨F,ρ,_,rfl,Ext.refl F ρ w0 O N N,by simp[Rel,str],?_⟩
       have eo:∀(w:World) (a:Addr) (n:Nat),(w.freeze a n).os=w.os∧(w.freeze a n).tape=w.tape∧(w.freeze a n).output=w.output:=fun w a n=>by unfold World.freeze;split<;>exact⟨rfl,rfl,rfl⟩
       refine m.lose (i:=b) (L:=M) (by simp[hgb]) hM (fun j b' hj=>?_) ?_ ?_ (eo _ _ _).1 (eo _ _ _).2.1 (eo _ _ _).2.2
       ·
        rw[mM] at hj
        split at hj
        ·
         cases hj
        ·
         rename_i hne;exact⟨hj,fun e=>hne e.symm⟩
       ·
        unfold World.freeze
        rw[if_neg hn0]
        show(w.heap.modify _ _).size=_
        rw[Array.size_modify]
       ·
        intro q hq
        unfold World.freeze
        rw[if_neg hn0]
        show(w.heap.modify _ _)[q]?=_
        rw[Array.getElem?_modify,if_neg (fun e=>hq e.symm)]
     ·
      cases hx
    ·
     cases hx
   ·
    cases hx
  ·
   cases hx
 ·
  cases hx
end Go.V
end
section
namespace Go.V
open Go Go.Proofs
theorem CallOk.sub {P:Program}{Γ:Glo P}{f:FuncId}{vs:List Val}{h1 h h2:Heap}{N N':Nat}{all:Bool}{r:Val}(hk:CallOk P Γ f vs h1 N all r h2 N')(hs:∀i b,get h1 i=some b→get h i=some b):CallOk P Γ f vs h N all r h2 N':=
 ⟨hk.1,fun F ρ w0 O w xs hG m hf ha=>hk.2 F ρ w0 O w xs hG (m.sub hs) hf ha⟩
def tf:List (Val×Val)→Option (List Str)
 |[]=>some []
 |(.str s,_)::r=>(tf r).map (s :: ·)
 |_=>none
def pI:List Str→Bool
 |[]=>true
 |s::r=>!r.contains s&&pI r
def asF (ks:List Str):Flds:=ks.map fun k=>(k,zeroDoc)
theorem rE:∀{l:List Str},pI l=true→l.Nodup
 |[],_=>List.nodup_nil
 |s::r,h=>by
  rw[pI,Bool.and_eq_true] at h
  rw[List.nodup_cons]
  exact⟨by simpa using h.1,rE h.2⟩
theorem tg:∀{es:List (Val×Val)}{ks:List Str},tf es=some ks→es.map (·.1)=(asF ks).map (fun p=>Val.str p.1)
 |[],ks,h=>by cases h;rfl
 |(k,v)::r,ks,h=>by
  unfold tf at h
  split at h
  ·
   rename_i e;cases e
  ·
   rename_i s v' r' e
   cases e
   obtain⟨ks',h1,rfl⟩:=map_some h
   have q1:=tg h1
   simp[asF] at q1 ⊢
   exact q1
  ·
   cases h
theorem vQ {Γ:Glo Tryz.prog}(g:FuncId)(t:TypeId)(hgt:(g=271∧t=203)∨(g=314∧t=202)∨(g=319∧t=305)){es:List (Val×Val)}{ks:List Str}(hk:tf es=some ks)(hn:pI ks=true)(hw:wF (asF ks)<100000000000)(h:Heap)(i c N:Nat)(hgi:get h i=some (.map es))(hgc:get h c=some (.cells [.mp i] t false)) :
  CallOk Tryz.prog Γ 200 [.fn g [] [.pr c 0]] h N true (sls aW ((bz (asF ks)).map (·.1))) h N:=by
 have q1:=tg hk
 have hnd:bl (asF ks):=by
  unfold bl
  have:(asF ks).map (·.1)=ks:=by simp[asF,Function.comp_def]
  rw[this]
  exact rE hn
 rcases hgt with ⟨rfl,rfl⟩|⟨rfl,rfl⟩|⟨rfl,rfl⟩
 ·
  exact lY Γ 271 203 Tryz.sorted271 es (asF ks) q1 hnd hw h i c N hgi hgc
 ·
  exact lY Γ 314 202 Tryz.sorted314 es (asF ks) q1 hnd hw h i c N hgi hgc
 ·
  exact lY Γ 319 305 Tryz.sorted319 es (asF ks) q1 hnd hw h i c N hgi hgc
def gOk (g:FuncId)(t:TypeId):Bool:=(Nat.beq g 271&&Nat.beq t 203)||((Nat.beq g 314&&Nat.beq t 202)||(Nat.beq g 319&&Nat.beq t 305))
def tI2 (f:FuncId)(vs:List Val)(h:Heap)(N:Nat):Option (Val×Heap×Nat):=match f,vs with
 |200,[.fn g [] [.pr c 0]]=>match get h c with
  |some (.cells [.mp i] t false)=>match get h i with
   |some (.map es)=>match tf es with
    |some ks=>match gOk g t&&(pI ks&&decide (wF (asF ks)<100000000000)) with
     |true=>some (sls aW ((bz (asF ks)).map (·.1)),h,N)
     |false=>none
    |none=>none
   |_=>none
  |_=>none
 |_,_=>tI f vs h N
theorem C5 {Γ:Glo Tryz.prog}:∀f vs h N r h' N',tI2 f vs h N=some (r,h',N')→CallOk Tryz.prog Γ f vs h N true r h' N':=by
 intro f vs h N r h' N' hx
 unfold tI2 at hx
 split at hx
 ·
  rename_i g c
  split at hx
  ·
   rename_i i t hc
   split at hx
   ·
    rename_i es hi
    split at hx
    ·
     rename_i ks hk
     split at hx
     ·
      rename_i hb
      simp only[Bool.and_eq_true,decide_eq_true_eq,Bool.not_eq_true',gOk,Bool.or_eq_true] at hb
      obtain⟨h1,h2,h4⟩:=hb
      cases hx
      refine vQ g t ?_ hk h2 h4 h i c N hi hc
      rcases h1 with h1|h1|h1
      ·
       exact .inl ⟨Nat.eq_of_beq_eq_true h1.1,Nat.eq_of_beq_eq_true h1.2⟩
      ·
       exact .inr (.inl ⟨Nat.eq_of_beq_eq_true h1.1,Nat.eq_of_beq_eq_true h1.2⟩)
      ·
       exact .inr (.inr ⟨Nat.eq_of_beq_eq_true h1.1,Nat.eq_of_beq_eq_true h1.2⟩)
     ·
      cases hx
    ·
     cases hx
   ·
    cases hx
  ·
   cases hx
 ·
  exact EJ f vs h N r h' N' hx
end Go.V
end
section
namespace Go.V
open Go Go.Proofs
theorem iL {w:World}{a:Addr}{v:Value}(h:w.cell? a=some v):w.setCell a v=w:=by
 unfold World.cell? at h
 split at h
 ·
  rename_i c e fr hb
  split at h
  ·
   cases h
  ·
   rename_i hsp
   have key:(w.setCell a v).heap=w.heap:=by
    unfold World.setCell
    apply Array.ext_getElem?
    intro i
    rw[Array.getElem?_modify]
    split
    ·
     rename_i hi
     rw[←hi,hb]
     simp only[Option.map_some]
     congr 2
     apply Array.ext_getElem?
     intro j
     rw[Array.getElem?_setIfInBounds]
     split
     ·
      rename_i hj
      rw[←hj]
      have hlt:a.off<c.size:=by
       rcases Nat.lt_or_ge a.off c.size with hh|hh
       ·
        exact hh
       ·
        rw[Array.getElem?_eq_none hh] at h;cases h
      rw[if_pos hlt,h]
     ·
      rfl
    ·
     rfl
   have e0:w.setCell a v={w with heap:=(w.setCell a v).heap}:=rfl
   rw[e0,key]
 ·
  cases h
theorem A4 (p:Addr)(w:World) :
  CallsD Tryz.prog 224 #[.pointer (some p)] .returning w fun e u' w'=>e=.returned (.tuple #[])∧u'=.returning∧w'=w:=by
 refine callsD_of_wpS Tryz.func224 rfl fun c₀ cs hu=>?_
 apply wpS_seq
 apply wpS_region
 simp[wpOpsS,go_sem,recoverD,hu,Tryz.ntmps224,Exit.thenS]
 apply wpS_seq
 apply wpS_region
 simp[wpOpsS,go_sem,recoverD,hu,Exit.thenS]
 refine wpS_cond (t:=false) (by simp[Go.Act.eval,Array.replicate]) ?_
 simp only[Bool.false_eq_true,if_false]
 refine wpS_of_wp (wp_skip ?_)
 cases c₀
 simp_all[bodyPostS,results,Tryz.results224]
theorem zR (g:FuncId)(us vs:Array Value)(w:World)(R:Value→World→Prop)(hg:∀args w,(callFunc g args).run Tryz.prog w=.ok (.enter g args) w)
  (h:Calls Tryz.prog g (us++vs) (w.alloc (.cells #[.int .i64 0,.int .i64 0] 232)) fun e w'=>∃x,e=.returned x∧w'.heap[w.heap.size]?=some (.cells #[.int .i64 0,.int .i64 0] 232 (0,0))∧R x w') :
  Calls Tryz.prog 152 #[.func (.func g) us vs] w fun e w'=>e=.returned (.agg #[.int .i64 0,.int .i64 0])∧∃x,R x w':=by
 have hmf:∀(fn:Fn) (first cap:Array Value) (w:World),(Instr.makeFunc fn first cap).run Tryz.prog w=.ok (.func fn first cap) w:=fun _ _ _ _=>rfl
 go_enter_defers Tryz.func152,Tryz.ntmps152
 go_wp2
 refine h.mono ?_
 rintro e w' ⟨x,rfl,hb,hR⟩
 have hc0:w'.cell? ⟨w.heap.size,0,none⟩=some (.int .i64 0):=by simp[World.cell?,hb]
 have hc1:w'.cell? ⟨w.heap.size,1,none⟩=some (.int .i64 0):=by simp[World.cell?,hb]
 have hz:∀o s,w'.frozen? ⟨w.heap.size,o,s⟩=false:=fun o s=>by simp[World.frozen?,hb]
 go_wp2
 rw[iL hc0,iL hc1]
 refine leaves_cons (f:=224) (args:=#[.pointer (some ⟨w.heap.size,0,none⟩)]) (by simp) (by simp[go_sem]) ?_
 refine(A4 ⟨w.heap.size,0,none⟩ _).mono ?_
 rintro e u' w'' ⟨rfl,rfl,rfl⟩
 simp[Leaves,settle,results,Tryz.results152,go_sem,hc0,hc1]
 exact⟨_,hR⟩
theorem A0 (p:Addr)(w:World) :
  CallsD Tryz.prog 157 #[.pointer (some p)] .returning w fun e u' w'=>e=.returned (.tuple #[])∧u'=.returning∧w'=w:=by
 refine callsD_of_wpS Tryz.func157 rfl fun c₀ cs hu=>?_
 apply wpS_seq
 apply wpS_region
 simp[wpOpsS,go_sem,recoverD,hu,Tryz.ntmps157,Exit.thenS]
 apply wpS_seq
 apply wpS_region
 simp[wpOpsS,go_sem,recoverD,hu,Exit.thenS]
 refine wpS_cond (t:=false) (by simp[Go.Act.eval,Array.replicate]) ?_
 simp only[Bool.false_eq_true,if_false]
 refine wpS_of_wp (wp_skip ?_)
 cases c₀
 simp_all[bodyPostS,results,Tryz.results157]
theorem BF (g:FuncId)(us vs:Array Value)(w:World)(R:Value→World→Prop)(hg:∀args w,(callFunc g args).run Tryz.prog w=.ok (.enter g args) w)
  (h:Calls Tryz.prog g (us++vs) (w.alloc (.cells #[.int .i64 0,.int .i64 0] 164)) fun e w'=>∃x,e=.returned x∧w'.heap[w.heap.size]?=some (.cells #[.int .i64 0,.int .i64 0] 164 (0,0))∧R x w') :
  Calls Tryz.prog 97 #[.func (.func g) us vs] w fun e w'=>e=.returned (.agg #[.int .i64 0,.int .i64 0])∧∃x,R x w':=by
 have hmf:∀(fn:Fn) (first cap:Array Value) (w:World),(Instr.makeFunc fn first cap).run Tryz.prog w=.ok (.func fn first cap) w:=fun _ _ _ _=>rfl
 go_enter_defers Tryz.func97,Tryz.ntmps97
 go_wp2
 refine h.mono ?_
 rintro e w' ⟨x,rfl,hb,hR⟩
 have hc0:w'.cell? ⟨w.heap.size,0,none⟩=some (.int .i64 0):=by simp[World.cell?,hb]
 have hc1:w'.cell? ⟨w.heap.size,1,none⟩=some (.int .i64 0):=by simp[World.cell?,hb]
 have hz:∀o s,w'.frozen? ⟨w.heap.size,o,s⟩=false:=fun o s=>by simp[World.frozen?,hb]
 go_wp2
 rw[iL hc0,iL hc1]
 refine leaves_cons (f:=157) (args:=#[.pointer (some ⟨w.heap.size,0,none⟩)]) (by simp) (by simp[go_sem]) ?_
 refine(A0 ⟨w.heap.size,0,none⟩ _).mono ?_
 rintro e u' w'' ⟨rfl,rfl,rfl⟩
 simp[Leaves,settle,results,Tryz.results97,go_sem,hc0,hc1]
 exact⟨_,hR⟩
theorem A3 (p:Addr)(w:World) :
  CallsD Tryz.prog 161 #[.pointer (some p)] .returning w fun e u' w'=>e=.returned (.tuple #[])∧u'=.returning∧w'=w:=by
 refine callsD_of_wpS Tryz.func161 rfl fun c₀ cs hu=>?_
 apply wpS_seq
 apply wpS_region
 simp[wpOpsS,go_sem,recoverD,hu,Tryz.ntmps161,Exit.thenS]
 refine wpS_of_wp ?_
 go_wp2
 cases c₀
 simp_all[bodyPostS,results,Tryz.results161]
theorem zQ (g:FuncId)(us vs:Array Value)(w:World)(R:Value→World→Prop)(hg:∀args w,(callFunc g args).run Tryz.prog w=.ok (.enter g args) w)
  (h:Calls Tryz.prog g (us++vs) (w.alloc (.cells #[.int .i64 0,.int .i64 0] 173)) fun e w'=>∃x,e=.returned x∧w'.heap[w.heap.size]?=some (.cells #[.int .i64 0,.int .i64 0] 173 (0,0))∧R x w') :
  Calls Tryz.prog 102 #[.func (.func g) us vs] w fun e w'=>e=.returned (.agg #[.int .i64 0,.int .i64 0])∧∃x,R x w':=by
 have hmf:∀(fn:Fn) (first cap:Array Value) (w:World),(Instr.makeFunc fn first cap).run Tryz.prog w=.ok (.func fn first cap) w:=fun _ _ _ _=>rfl
 go_enter_defers Tryz.func102,Tryz.ntmps102
 go_wp2
 refine h.mono ?_
 rintro e w' ⟨x,rfl,hb,hR⟩
 have hc0:w'.cell? ⟨w.heap.size,0,none⟩=some (.int .i64 0):=by simp[World.cell?,hb]
 have hc1:w'.cell? ⟨w.heap.size,1,none⟩=some (.int .i64 0):=by simp[World.cell?,hb]
 have hz:∀o s,w'.frozen? ⟨w.heap.size,o,s⟩=false:=fun o s=>by simp[World.frozen?,hb]
 go_wp2
 rw[iL hc0,iL hc1]
 refine leaves_cons (f:=161) (args:=#[.pointer (some ⟨w.heap.size,0,none⟩)]) (by simp) (by simp[go_sem]) ?_
 refine(A3 ⟨w.heap.size,0,none⟩ _).mono ?_
 rintro e u' w'' ⟨rfl,rfl,rfl⟩
 simp[Leaves,settle,results,Tryz.results102,go_sem,hc0,hc1]
 exact⟨_,hR⟩
theorem sL {P:Program}{g:FuncId}(hp:bL P g=true)(args:Array Value)(w:World):(callFunc g args).run P w=.ok (.enter g args) w:=by
 unfold bL at hp
 split at hp
 ·
  rename_i fn hfn
  simp only[Bool.and_eq_true] at hp
  have hb:¬fn.body=none:=by intro e;simp[e] at hp
  have hn:¬fn.name= "runtime.NumGoroutine":=by simpa using hp.2
  simp[callFunc,hfn,hn,hb]
 ·
  cases hp
theorem pf {Γ:Glo Tryz.prog}(f:FuncId)(ty:TypeId)(hsz:Tryz.prog.cellsOf ty=2)
  (ht:∀(g:FuncId) (us vs:Array Value) (w:World) (R:Value→World→Prop),(∀args w,(callFunc g args).run Tryz.prog w=.ok (.enter g args) w)→
   Calls Tryz.prog g (us++vs) (w.alloc (.cells #[.int .i64 0,.int .i64 0] ty)) (fun e w'=>∃x,e=.returned x∧w'.heap[w.heap.size]?=some (.cells #[.int .i64 0,.int .i64 0] ty (0,0))∧R x w')→
   Calls Tryz.prog f #[.func (.func g) us vs] w fun e w'=>e=.returned (.agg #[.int .i64 0,.int .i64 0])∧∃x,R x w')
  {g:FuncId} {first cap:List Val} {h h':Heap} {N N':Nat} {q:Val} (hp:bL Tryz.prog g=true) (hk:CallOk Tryz.prog Γ g (first++cap) h N true q h' N') :
  CallOk Tryz.prog Γ f [.fn g first cap] h N true (.ag [.int .i64 0,.int .i64 0]) h' N':=by
 refine⟨hk.1,fun F ρ w0 O w xs hG m hfr ha=>?_⟩
 simp only[RelL,Rel] at ha
 obtain⟨y,ys,e1,⟨us,vs,rfl,hu,hv⟩,rfl⟩:=ha
 obtain rfl:xs=#[.func (.func g) us vs]:=by cases xs;simp_all
 have hen:∀args w,(callFunc g args).run Tryz.prog w=.ok (.enter g args) w:=sL hp
 have hlt:∀(b:Nat) (o:Obj),w.heap[b]?=some o→b<w.heap.size:=fun b o hb=>by
  rcases Nat.lt_or_ge b w.heap.size with h|h
  ·
   exact h
  ·
   rw[Array.getElem?_eq_none h] at hb;cases hb
 have hal:∀(b:Nat) (o:Obj),w.heap[b]?=some o→(w.alloc (.cells #[.int .i64 0,.int .i64 0] ty)).heap[b]?=some o:=fun b o hb=>by
  show(w.heap.push _)[b]?=_
  rw[Array.getElem?_push_lt (hlt b o hb)]
  rw[Array.getElem?_eq_getElem (hlt b o hb)] at hb
  exact hb
 have m1:Mem Tryz.prog F ρ h (w.alloc (.cells #[.int .i64 0,.int .i64 0] ty)) (cL h ρ) (w.alloc (.cells #[.int .i64 0,.int .i64 0] ty)):=by
  refine⟨fun b c hb=>?_,fun i blk hi=>?_,m.inj,fun i L hi hL=>.inl ⟨i,L,hi,hL,rfl⟩,Fr.refl _ _⟩
  ·
   obtain⟨e,fr,h1⟩:=m.fro b c hb
   exact⟨e,fr,hal _ _ h1⟩
  ·
   obtain⟨L,x,h1,h2,h3,h4⟩:=m.own i blk hi
   exact⟨L,x,h1,h2,hal _ _ h3,h4⟩
 refine(ht g us vs w (fun x w'=>∃F' ρ',Ext F F' ρ ρ' w0 O N N'∧Mem Tryz.prog F' ρ' h' w0 O w') hen ?_).mono ?_
 ·
  refine(hk.2 F ρ _ _ _ _ hG m1 hfr (by rw[Array.toList_append];exact hu.append hv)).mono ?_
  rintro e w' ⟨F',ρ',x,rfl,hx,_,m2⟩
  have hOlt:∀b:Nat,cL h ρ b→b<w.heap.size:=fun b ⟨i,L,hi,hL,hb⟩=>by
   obtain⟨blk,hg⟩:=Option.isSome_iff_exists.1 hi
   obtain⟨L',x,h1,h2,h3,h4⟩:=m.own i blk hg
   rw[hL] at h1;cases h1
   subst hb
   exact hlt _ _ h3
  have hOO:∀b:Nat,cL h ρ b→O b∨w0.heap.size≤b:=fun b ⟨i,L,hi,hL,hb⟩=>by subst hb;exact m.ours i L hi hL
  have hsz1:(w.alloc (.cells #[.int .i64 0,.int .i64 0] ty)).heap.size=w.heap.size+1:=by
   show(w.heap.push _).size=_
   simp
  refine⟨x,rfl,?_,F',ρ',?_,?_⟩
  ·
   rw[m2.fr.block w.heap.size (by rw[hsz1];omega) (fun hb=>by have:=hOlt _ hb;omega)]
   show(w.heap.push _)[w.heap.size]?=_
   simp
  ·
   refine⟨hx.f,hx.p,fun b c hb=>?_,hx.out⟩
   rcases hx.new b c hb with h1|h1|h1
   ·
    exact .inl h1
   ·
    exact .inr (hOO b h1)
   ·
    rw[hsz1] at h1
    exact .inr (.inr (by have:=m.fr.size;omega))
  ·
   refine⟨m2.fro,m2.own,m2.inj,fun i L hi hL=>?_,?_⟩
   ·
    rcases m2.ours i L hi hL with h1|h1
    ·
     exact hOO _ h1
    ·
     rw[hsz1] at h1
     exact .inr (by have:=m.fr.size;omega)
   ·
    refine m.fr.trans (O':=cL h ρ) ?_ hOO
    refine⟨m2.fr.os,m2.fr.tape,m2.fr.output,by have:=m2.fr.size;rw[hsz1] at this;omega,fun b hb hn=>?_⟩
    rw[m2.fr.block b (by rw[hsz1];omega) hn]
    obtain⟨o,ho⟩:∃o,w.heap[b]?=some o:=⟨w.heap[b],by simp[hb]⟩
    rw[ho]
    exact hal b o ho
 ·
  rintro e w' ⟨rfl,x,F',ρ',hx,m2⟩
  exact⟨F',ρ',_,rfl,hx,by simp[Rel,RelL],m2⟩
theorem nK {Γ:Glo Tryz.prog}(f:FuncId)(hf:f=97∨f=102∨f=152){g:FuncId}{first cap:List Val}{h h':Heap}{N N':Nat}{q:Val}(hp:bL Tryz.prog g=true)(hk:CallOk Tryz.prog Γ g (first++cap) h N true q h' N') :
  CallOk Tryz.prog Γ f [.fn g first cap] h N true (.ag [.int .i64 0,.int .i64 0]) h' N':=by
 rcases hf with rfl|rfl|rfl
 ·
  exact pf 97 164 (by kernel_rfl) BF hp hk
 ·
  exact pf 102 173 (by kernel_rfl) zQ hp hk
 ·
  exact pf 152 232 (by kernel_rfl) zR hp hk
end Go.V
end
