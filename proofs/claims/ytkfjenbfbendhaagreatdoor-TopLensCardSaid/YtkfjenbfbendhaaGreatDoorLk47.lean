/-
  A part of a proof: U1 U2.
-/
import Derived.Test.YtkfjenbfbendhaaGreatDoorLk09
import Derived.Test.YtkfjenbfbendhaaGreatDoorLk29
import Derived.ChangeArms
import GoSem.ClaimJoined
import Derived.OpenShut
set_option linter.unusedSimpArgs false
set_option linter.unusedVariables false
section
namespace Go.V
open Go Go.Proofs
def dF (w:World):Fro:=fun b=>match w.heap[b]? with
 |some (.cells c _ _)=>some c
 |_=>none
theorem yK (w:World):FOk (dF w) w:=by
 intro b c h
 unfold dF at h
 split at h
 ·
  rename_i c' e fr hb
  cases h
  exact⟨e,fr,hb⟩
 ·
  cases h
section
variable {H:Type} {enc:TypeId×Value→H} {w:World} {base:Nat} {held:Bool}
theorem sx {a:Addr}{k:Nat}{ci:List Value}(hk:0<k)(h:w.cells? base a k=some ci):∃b o c,a=⟨b,o,none⟩∧dF w b=some c∧ci=(c.toList.drop o).take k:=by
 unfold World.cells? at h
 split at h
 ·
  have hl:ci.length=k:=by simpa using mapM_some_length h
  have hg:=fun i (hi:i<k)=>mapM_some_get h i i (by simp[hi])
  obtain⟨b,o,sp⟩:=a
  obtain⟨v,hv⟩:∃v,ci[0]?=some v:=⟨ci[0],by simp⟩
  have h0:=hg 0 hk
  rw[hv] at h0
  simp only[Addr.add,if_true,World.cell?] at h0
  split at h0
  ·
   rename_i c e fr hb
   split at h0
   ·
    cases h0
   ·
    rename_i hs
    have hsp:sp=none:=by cases sp with|none=>rfl|some n=>simp at hs
    subst hsp
    refine⟨b,o,c,rfl,by simp[dF,hb],?_⟩
    apply List.ext_getElem?
    intro i
    rw[List.getElem?_take]
    split
    ·
     rename_i hi
     have h1:=hg i hi
     rw[←h1,List.getElem?_drop]
     have e1:(⟨b,o,none⟩:Addr).add i=⟨b,o+i,none⟩:=by unfold Addr.add;split<;>simp_all
     rw[e1]
     simp[World.cell?,hb]
    ·
     rw[List.getElem?_eq_none (by omega)]
  ·
   cases h0
 ·
  cases h
theorem Br (b o n:Nat):(⟨b,o,none⟩:Addr).add n=⟨b,o+n,none⟩:=by unfold Addr.add;split<;>simp_all
theorem B4 {α:Type}{c:α→List Val}{k:Nat}(hc:∀a,(c a).length=k):∀l:List α,(row c l).length=l.length*k
 |[]=>by simp[row]
 |a::l=>by rw[row,List.length_append,hc,B4 hc l,List.length_cons,Nat.add_mul,Nat.one_mul,Nat.add_comm]
theorem gv {P:Program}:∀{ts:List TypeId}{ds:List (DataW H)}{i:Nat}{t:TypeId}{d:DataW H},ts[i]?=some t→ds[i]?=some d→∀n∈d.weights P t,n∈DataW.weightsEach P ts ds
 |[],_,i,t,d,h,_=>by simp at h
 |_::_,[],i,t,d,_,h=>by simp at h
 |t'::ts,d'::ds,0,t,d,h1,h2=>by
  simp only[List.getElem?_cons_zero,Option.some.injEq] at h1 h2
  subst h1;subst h2
  intro n hn
  rw[DataW.weightsEach]
  exact List.mem_append_left _ hn
 |t'::ts,d'::ds,i+1,t,d,h1,h2=>by
  simp only[List.getElem?_cons_succ] at h1 h2
  intro n hn
  rw[DataW.weightsEach]
  exact List.mem_append_right _ (gv h1 h2 n hn)
theorem kY {P:Program}{e:TypeId}:∀{l:List (DataW H)}{d:DataW H},d∈l→∀n∈d.weights P e,n∈DataW.weightsAll P e l
 |d'::l,d,h=>by
  intro n hn
  rw[DataW.weightsAll]
  rcases List.mem_cons.1 h with rfl|h
  ·
   exact List.mem_append_left _ hn
  ·
   exact List.mem_append_right _ (kY h n hn)
theorem kP {P:Program}{α:Type}(Q:α→Prop)(c:α→List Val){t e:TypeId}{k:Nat}(hc:∀a,(c a).length=k)(hk:0<k)(ht:P.underlying t=some (.slice e))(hs:P.cellsOf e=k){fuel:Nat}{cs:List Value}{x:DataW H×List MemPlace}
  (he:∀n cs y,n<fuel→(∀k∈y.1.weights P e,k∈x.1.weights P t)→DataW.trod enc P w base (fun _=>true) held n e cs=some y→∃a,Q a∧RelL (dF w) (fun _=>none) (c a) cs)
  (h:DataW.trod enc P w base (fun _=>true) held fuel t cs=some x):∃l:List α,(∀a∈l,Q a)∧RelL (dF w) (fun _=>none) [sls c l] cs:=by
 rcases DataW.trod_slice ht h with ⟨rfl,_⟩|⟨a,len,cap,elems,rest,n,rfl,rfl,rfl,_,hl,hm,hel,h1,h2,_⟩
 ·
  refine⟨[],by simp,?_⟩
  simp only[RelL]
  exact⟨_,_,rfl,by rw[Rel];exact .inl ⟨.inl rfl,rfl,rfl,by simp⟩,rfl⟩
 ·
  rw[hs] at h1 h2
  by_cases hz:cap=0
  ·
   subst hz
   obtain rfl:len=0:=by omega
   refine⟨[],by simp,?_⟩
   simp only[RelL]
   exact⟨_,_,rfl,by rw[Rel];exact .inl ⟨.inr ⟨a,rfl⟩,rfl,rfl,by simp⟩,rfl⟩
  ·
   obtain⟨b,o,cl,rfl,hb,_⟩:∃b o cl,a=⟨b,o,none⟩∧dF w b=some cl∧True:=by
    have key:∀y:Option (DataW H×List MemPlace),y.isSome=true→(w.cells? base (a.add (0*k)) k).bind (DataW.trod enc P w base (fun _=>true) held n e)=y→∃b o cl,a=⟨b,o,none⟩∧dF w b=some cl∧True:=by
     intro y hy he
     rw[Nat.zero_mul] at he
     have e0:a.add 0=a:=by simp[Addr.add]
     rw[e0] at he
     cases hq:w.cells? base a k with
     |none=>rw[hq] at he;simp at he;subst he;cases hy
     |some ci=>
      obtain⟨b,o,cl,q1,q2,_⟩:=sx hk hq
      exact⟨b,o,cl,q1,q2,trivial⟩
    by_cases hz2:len=0
    ·
     obtain⟨r1,r2⟩:=h2 rfl
     have:=r2 0 (by omega)
     rw[hz2] at this
     refine key _ ?_ this
     rw[List.getElem?_eq_getElem (by omega)]
     rfl
    ·
     refine key _ ?_ (h1 0 (by omega))
     rw[List.getElem?_eq_getElem (by omega)]
     rfl
   have key:∀m,m≤len→∃l:List α,l.length=m∧(∀a∈l,Q a)∧RelL (dF w) (fun _=>none) (row c l) ((cl.toList.drop o).take (m*k)):=by
    intro m
    induction m with
    |zero=>intro _;exact⟨[],rfl,by simp,by simp[row,RelL]⟩
    |succ m ih=>
     intro hm'
     obtain⟨l,hl1,hlq,hl2⟩:=ih (by omega)
     have h3:=h1 m (by omega)
     rw[List.getElem?_eq_getElem (by omega)] at h3
     cases hq:w.cells? base (Addr.add ⟨b,o,none⟩ (m*k)) k with
     |none=>rw[hq] at h3;cases h3
     |some ci=>
      rw[hq] at h3
      simp only[Option.bind_some] at h3
      rw[Br] at hq
      obtain⟨b',o',c',q1,q2,q3⟩:=sx hk hq
      cases q1
      rw[hb] at q2
      cases q2
      have hwm:∀k∈(elems[m]'(by omega)).1.weights P e,k∈(DataW.slice (elems.map (·.1)) (rest.map (·.1))).weights P t:=by
       intro k hk
       simp only[DataW.weights,ht]
       refine List.mem_cons_of_mem _ (List.mem_append_left _ (kY (List.mem_map.2 ⟨_,List.getElem_mem (by omega),rfl⟩) k hk))
      obtain⟨a',hqa,ha'⟩:=he n _ _ (by omega) hwm h3
      refine⟨l++[a'],by simp[hl1],(fun y hy=>by rcases List.mem_append.1 hy with h|h;exact hlq y h;cases List.mem_singleton.1 h;exact hqa),?_⟩
      rw[bd,Nat.add_mul,Nat.one_mul,List.take_add]
      refine hl2.append ?_
      rw[List.drop_drop]
      simp only[row,List.append_nil]
      rw[←q3]
      exact ha'
   obtain⟨l,hl1,hlq,hl2⟩:=key len (Nat.le_refl _)
   refine⟨l,hlq,?_⟩
   simp only[RelL]
   refine⟨_,_,rfl,?_,rfl⟩
   rw[Rel]
   exact .inr ⟨b,o,cl,cap,by rw[hl1],by omega,by simp,hb,by rw[B4 hc,hl1];exact hl2⟩
theorem gO {P:Program}{α:Type}(c:α→List Val){t e:TypeId}{k:Nat}(hc:∀a,(c a).length=k)(hk:0<k)(ht:P.underlying t=some (.slice e))(hs:P.cellsOf e=k){fuel:Nat}{cs:List Value}{x:DataW H×List MemPlace}
  (he:∀n cs x,n<fuel→DataW.trod enc P w base (fun _=>true) held n e cs=some x→∃a,RelL (dF w) (fun _=>none) (c a) cs)
  (h:DataW.trod enc P w base (fun _=>true) held fuel t cs=some x):∃l:List α,RelL (dF w) (fun _=>none) [sls c l] cs:=by
 obtain⟨l,_,hl⟩:=kP (fun _=>True) c hc hk ht hs (fun n cs y hn _ h=>by obtain⟨a,ha⟩:=he n cs y hn h;exact⟨a,trivial,ha⟩) h
 exact⟨l,hl⟩
theorem eY {P:Program}{t:TypeId}{k:IntKind}(ht:P.underlying t=some (.int k)){F:Fro}{ρ:Pl}{sp:Nat→Bool}{fuel:Nat}{cs:List Value}{x:DataW H×List MemPlace}(h:DataW.trod enc P w base sp held fuel t cs=some x):∃n:Int,RelL F ρ [.int k n] cs:=by
 obtain⟨n,rfl,_⟩:=DataW.trod_int ht h
 exact⟨n,by simp[RelL,Rel]⟩
theorem rl {P:Program}{t:TypeId}(ht:P.underlying t=some .bool){F:Fro}{ρ:Pl}{sp:Nat→Bool}{fuel:Nat}{cs:List Value}{x:DataW H×List MemPlace}(h:DataW.trod enc P w base sp held fuel t cs=some x):∃n:Bool,RelL F ρ [.bool n] cs:=by
 obtain⟨n,rfl,_⟩:=DataW.trod_bool ht h
 exact⟨n,by simp[RelL,Rel]⟩
theorem jf {P:Program}{t:TypeId}(ht:P.underlying t=some .string){F:Fro}{ρ:Pl}{sp:Nat→Bool}{fuel:Nat}{cs:List Value}{x:DataW H×List MemPlace}(h:DataW.trod enc P w base sp held fuel t cs=some x):∃n:Str,x.1=.lit (.string n)∧RelL F ρ (aW n) cs:=by
 obtain⟨n,rfl,rfl,hn⟩:=DataW.trod_string ht h
 exact⟨n.data.toList,rfl,by simp[RelL,Rel,aW,str]⟩
theorem ii {P:Program}{t:TypeId}(ht:P.underlying t=some .string){F:Fro}{ρ:Pl}{sp:Nat→Bool}{fuel:Nat}{cs:List Value}{x:DataW H×List MemPlace}(h:DataW.trod enc P w base sp held fuel t cs=some x):∃n:Str,RelL F ρ (aW n) cs:=by
 obtain⟨n,_,hn⟩:=jf (F:=F) (ρ:=ρ) ht h
 exact⟨n,hn⟩
end
end Go.V
end
section
namespace Go.V
open Go Go.Proofs
theorem c3:Tryz.prog.cellsOf 3=1:=by kernel_rfl
theorem c4:Tryz.prog.cellsOf 4=1:=by kernel_rfl
theorem c9:Tryz.prog.cellsOf 9=1:=by kernel_rfl
theorem c22:Tryz.prog.cellsOf 22=1:=by kernel_rfl
theorem c23:Tryz.prog.cellsOf 23=1:=by kernel_rfl
theorem c24:Tryz.prog.cellsOf 24=1:=by kernel_rfl
theorem c27:Tryz.prog.cellsOf 27=1:=by kernel_rfl
theorem c28:Tryz.prog.cellsOf 28=1:=by kernel_rfl
theorem FR:Tryz.prog.cellsOf 120=1:=by kernel_rfl
theorem c26:Tryz.prog.cellsOf 26=6:=by kernel_rfl
theorem c30:Tryz.prog.cellsOf 30=5:=by kernel_rfl
theorem DC:Tryz.prog.cellsOf 112=8:=by kernel_rfl
theorem Bv:Tryz.prog.cellsOf 122=16:=by kernel_rfl
theorem DD:Tryz.prog.cellsOf 243=2:=by kernel_rfl
section
variable {H:Type} {enc:TypeId×Value→H} {w:World} {base:Nat} {held:Bool}
theorem iD {P:Program}{t:TypeId}{fs:Array Field}{fuel:Nat}{cs:List Value}{x:DataW H×List MemPlace}(ht:P.underlying t=some (.struct fs))(h:DataW.trod enc P w base (fun _=>true) held fuel t cs=some x) :
  ∃n,fuel=n+1∧cs.length=P.cellsOf t∧∀(i:Nat) (f:Field) (k:Nat),fs[i]?=some f→P.cellsOf f.type=k→∃y,DataW.trod enc P w base (fun _=>true) held n f.type ((cs.drop f.offset).take k)=some y∧∀k∈y.1.weights P f.type,k∈x.1.weights P t:=by
 obtain⟨xs,n,h1,rfl,h2,h3,h4⟩:=DataW.trod_struct ht h
 refine⟨n,h1,h2,fun i f k hf hk=>?_⟩
 have:=h4 i f hf
 rw[hk] at this
 have hi:i<fs.size:=by
  rcases Nat.lt_or_ge i fs.size with hh|hh
  ·
   exact hh
  ·
   rw[Array.getElem?_eq_none hh] at hf;cases hf
 rw[List.getElem?_eq_getElem (by omega)] at this
 refine⟨_,this,fun k hk=>?_⟩
 simp only[DataW.weights,ht]
 exact gv (i:=i) (t:=f.type) (by simp[hf]) (by rw[List.getElem?_map,List.getElem?_eq_getElem (by omega)];rfl) k hk
theorem Aj (fuel:Nat)(cs:List Value)(x:DataW H×List MemPlace)(h:DataW.trod enc Tryz.prog w base (fun _=>true) held fuel 243 cs=some x):∃p:Int×Int,RelL (dF w) (fun _=>none) (bx p) cs:=by
 obtain⟨xs,n,h1,_,h2,h3,h4⟩:=DataW.trod_array Tryz.underlying243 h
 rw[DD] at h2
 rw[c3] at h4
 obtain⟨a0,cs,rfl⟩:=List.exists_cons_of_length_eq_add_one h2
 obtain⟨a1,cs,rfl⟩:=List.exists_cons_of_length_eq_add_one (Nat.succ.inj h2)
 obtain rfl:=List.eq_nil_of_length_eq_zero (Nat.succ.inj (Nat.succ.inj h2))
 have e0:=h4 0 (by omega)
 have e1:=h4 1 (by omega)
 rw[List.getElem?_eq_getElem (by omega)] at e0 e1
 obtain⟨p,r0⟩:=eY (F:=dF w) (ρ:=fun _=>none) Tryz.underlying3 e0
 obtain⟨q,r1⟩:=eY (F:=dF w) (ρ:=fun _=>none) Tryz.underlying3 e1
 exact⟨(p,q),r0.append r1⟩
theorem xz:∀(fuel:Nat)(cs:List Value)(x:DataW H×List MemPlace),DataW.trod enc Tryz.prog w base (fun _=>true) held fuel 30 cs=some x→∃d:Doc,RelL (dF w) (fun _=>none) (aH d) cs:=by
 intro fuel
 induction fuel using Nat.strongRecOn with
 |ind fuel ih=>
 intro cs x h
 obtain⟨n,rfl,hl,hp⟩:=iD Tryz.underlying30 h
 rw[c30] at hl
 obtain⟨a0,cs,rfl⟩:=List.exists_cons_of_length_eq_add_one hl
 obtain⟨a1,cs,rfl⟩:=List.exists_cons_of_length_eq_add_one (Nat.succ.inj hl)
 obtain⟨a2,cs,rfl⟩:=List.exists_cons_of_length_eq_add_one (Nat.succ.inj (Nat.succ.inj hl))
 obtain⟨a3,cs,rfl⟩:=List.exists_cons_of_length_eq_add_one (Nat.succ.inj (Nat.succ.inj (Nat.succ.inj hl)))
 obtain⟨a4,cs,rfl⟩:=List.exists_cons_of_length_eq_add_one (Nat.succ.inj (Nat.succ.inj (Nat.succ.inj (Nat.succ.inj hl))))
 obtain rfl:cs=[]:=List.eq_nil_of_length_eq_zero (by simpa using hl)
 obtain⟨y0,h0,_⟩:=hp 0 _ 1 rfl c3
 obtain⟨y1,h1,_⟩:=hp 1 _ 1 rfl c3
 obtain⟨y2,h2,_⟩:=hp 2 _ 1 rfl c9
 obtain⟨y3,h3,_⟩:=hp 3 _ 1 rfl c22
 obtain⟨y4,h4,_⟩:=hp 4 _ 1 rfl c28
 obtain⟨v0,r0⟩:=eY (F:=dF w) (ρ:=fun _=>none) Tryz.underlying3 h0
 obtain⟨v1,r1⟩:=eY (F:=dF w) (ρ:=fun _=>none) Tryz.underlying3 h1
 obtain⟨v2,r2⟩:=ii (F:=dF w) (ρ:=fun _=>none) Tryz.underlying9 h2
 obtain⟨v3,r3⟩:=gO aW (fun _=>rfl) (by decide) Tryz.underlying22 c9 (fun n cs x _ h=>ii Tryz.underlying9 h) h3
 obtain⟨v4,r4⟩:=gO aH bS (by decide) Tryz.underlying28 c30 (fun m cs x hm h=>ih m (by omega) cs x h) h4
 refine⟨.mk v0 v1 v2 v3 v4,?_⟩
 rw[db]
 exact r0.append (r1.append (r2.append (r3.append r4)))
theorem CH {fuel:Nat}(ih:∀m,m<fuel→∀(cs:List Value)(x:DataW H×List MemPlace),DataW.trod enc Tryz.prog w base (fun _=>true) held m 26 cs=some x→∃d:Ty,RelL (dF w) (fun _=>none) (cTy d) cs)(cs:List Value)(x:DataW H×List MemPlace)(h:DataW.trod enc Tryz.prog w base (fun _=>true) held fuel 112 cs=some x) :
  ∃d:Fld,RelL (dF w) (fun _=>none) (aZ d) cs:=by
 obtain⟨n,rfl,hl,hp⟩:=iD Tryz.underlying112 h
 rw[DC] at hl
 obtain⟨a0,cs,rfl⟩:=List.exists_cons_of_length_eq_add_one hl
 obtain⟨a1,cs,rfl⟩:=List.exists_cons_of_length_eq_add_one (Nat.succ.inj hl)
 have hl6:cs.length=6:=by simpa using hl
 obtain⟨y0,h0,_⟩:=hp 0 _ 1 rfl c9
 obtain⟨y1,h1,_⟩:=hp 1 _ 1 rfl c4
 obtain⟨y2,h2,_⟩:=hp 2 _ 6 rfl c26
 obtain⟨v0,r0⟩:=ii (F:=dF w) (ρ:=fun _=>none) Tryz.underlying9 h0
 obtain⟨v1,r1⟩:=rl (F:=dF w) (ρ:=fun _=>none) Tryz.underlying4 h1
 obtain⟨v2,r2⟩:=ih n (by omega) _ _ h2
 refine⟨.mk v0 v1 v2,?_⟩
 rw[dR]
 have e:cs=List.take 6 cs:=(List.take_of_length_le (by omega)).symm
 rw[e]
 exact r0.append (r1.append r2)
theorem Bg:∀(fuel:Nat)(cs:List Value)(x:DataW H×List MemPlace),DataW.trod enc Tryz.prog w base (fun _=>true) held fuel 26 cs=some x→∃d:Ty,RelL (dF w) (fun _=>none) (cTy d) cs:=by
 intro fuel
 induction fuel using Nat.strongRecOn with
 |ind fuel ih=>
 intro cs x h
 obtain⟨n,rfl,hl,hp⟩:=iD Tryz.underlying26 h
 rw[c26] at hl
 obtain⟨a0,cs,rfl⟩:=List.exists_cons_of_length_eq_add_one hl
 obtain⟨a1,cs,rfl⟩:=List.exists_cons_of_length_eq_add_one (Nat.succ.inj hl)
 obtain⟨a2,cs,rfl⟩:=List.exists_cons_of_length_eq_add_one (Nat.succ.inj (Nat.succ.inj hl))
 obtain⟨a3,cs,rfl⟩:=List.exists_cons_of_length_eq_add_one (Nat.succ.inj (Nat.succ.inj (Nat.succ.inj hl)))
 obtain⟨a4,cs,rfl⟩:=List.exists_cons_of_length_eq_add_one (Nat.succ.inj (Nat.succ.inj (Nat.succ.inj (Nat.succ.inj hl))))
 obtain⟨a5,cs,rfl⟩:=List.exists_cons_of_length_eq_add_one (Nat.succ.inj (Nat.succ.inj (Nat.succ.inj (Nat.succ.inj (Nat.succ.inj hl)))))
 obtain rfl:cs=[]:=List.eq_nil_of_length_eq_zero (by simpa using hl)
 obtain⟨y0,h0,_⟩:=hp 0 _ 1 rfl c3
 obtain⟨y1,h1,_⟩:=hp 1 _ 1 rfl c3
 obtain⟨y2,h2,_⟩:=hp 2 _ 1 rfl c3
 obtain⟨y3,h3,_⟩:=hp 3 _ 1 rfl c22
 obtain⟨y4,h4,_⟩:=hp 4 _ 1 rfl c23
 obtain⟨y5,h5,_⟩:=hp 5 _ 1 rfl c24
 obtain⟨v0,r0⟩:=eY (F:=dF w) (ρ:=fun _=>none) Tryz.underlying3 h0
 obtain⟨v1,r1⟩:=eY (F:=dF w) (ρ:=fun _=>none) Tryz.underlying3 h1
 obtain⟨v2,r2⟩:=eY (F:=dF w) (ρ:=fun _=>none) Tryz.underlying3 h2
 obtain⟨v3,r3⟩:=gO aW (fun _=>rfl) (by decide) Tryz.underlying22 c9 (fun n cs x _ h=>ii Tryz.underlying9 h) h3
 obtain⟨v4,r4⟩:=gO aZ iP (by decide) Tryz.underlying23 DC (fun m cs x hm h=>CH (fun q hq=>ih q (by omega)) cs x h) h4
 obtain⟨v5,r5⟩:=gO cTy bH (by decide) Tryz.underlying24 c26 (fun m cs x hm h=>ih m (by omega) cs x h) h5
 refine⟨.mk v0 v1 v2 v3 v4 v5,?_⟩
 rw[fA]
 exact r0.append (r1.append (r2.append (r3.append (r4.append r5))))
theorem CO:∀(fuel:Nat)(cs:List Value)(x:DataW H×List MemPlace),(∀k∈x.1.weights Tryz.prog 122,k≤reachBytes)→DataW.trod enc Tryz.prog w base (fun _=>true) held fuel 122 cs=some x→∃d:Lns,Short d∧RelL (dF w) (fun _=>none) (aK d) cs:=by
 intro fuel
 induction fuel using Nat.strongRecOn with
 |ind fuel ih=>
 intro cs x hwt h
 obtain⟨n,rfl,hl,hp⟩:=iD Tryz.underlying122 h
 rw[Bv] at hl
 obtain⟨y0,h0,m0⟩:=hp 0 _ 1 rfl c3
 obtain⟨y1,h1,m1⟩:=hp 1 _ 1 rfl c9
 obtain⟨y2,h2,m2⟩:=hp 2 _ 1 rfl c9
 obtain⟨y3,h3,m3⟩:=hp 3 _ 6 rfl c26
 obtain⟨y4,h4,m4⟩:=hp 4 _ 5 rfl c30
 obtain⟨y5,h5,m5⟩:=hp 5 _ 1 rfl FR
 obtain⟨y6,h6,m6⟩:=hp 6 _ 1 rfl c27
 obtain⟨v0,r0⟩:=eY (F:=dF w) (ρ:=fun _=>none) Tryz.underlying3 h0
 obtain⟨v1,b1,r1⟩:=jf (F:=dF w) (ρ:=fun _=>none) Tryz.underlying9 h1
 obtain⟨v2,b2,r2⟩:=jf (F:=dF w) (ρ:=fun _=>none) Tryz.underlying9 h2
 obtain⟨v3,r3⟩:=Bg _ _ _ h3
 obtain⟨v4,r4⟩:=xz _ _ _ h4
 obtain⟨v5,r5⟩:=gO bx mt (by decide) Tryz.underlying120 DD (fun n cs x _ h=>Aj n cs x h) h5
 obtain⟨v6,b6,r6⟩:=kP Short aK eR (by decide) Tryz.underlying27 Bv (fun m cs y hm hy h=>ih m (by omega) cs y (fun k hk=>hwt k (m6 k (hy k hk))) h) h6
 refine⟨.mk v0 v1 v2 v3 v4 v5 v6,.mk (by have:=hwt v1.length (m1 _ (by rw[b1];simp[DataW.weights]));unfold reachBytes at this;simp only[Lns.a];omega) (by have:=hwt v2.length (m2 _ (by rw[b2];simp[DataW.weights]));unfold reachBytes at this;simp only[Lns.b];omega) b6,?_⟩
 rw[eN]
 have e:cs=(cs.drop 0).take 1++((cs.drop 1).take 1++((cs.drop 2).take 1++((cs.drop 3).take 6++((cs.drop 9).take 5++((cs.drop 14).take 1++(cs.drop 15).take 1))))):=by
  have e1:∀(l:List Value) (i k:Nat),l.drop i=(l.drop i).take k++l.drop (i+k):=fun l i k=>by rw[←List.drop_drop,List.take_append_drop]
  conv=>lhs;rw[←List.drop_zero (l:=cs),e1 cs 0 1,e1 cs (0+1) 1,e1 cs (0+1+1) 1,e1 cs (0+1+1+1) 6,e1 cs (0+1+1+1+6) 5,e1 cs (0+1+1+1+6+5) 1,e1 cs (0+1+1+1+6+5+1) 1,List.drop_eq_nil_of_le (i:=0+1+1+1+6+5+1+1) (by omega)]
  simp
 rw[e]
 exact r0.append (r1.append (r2.append (r3.append (r4.append (r5.append r6)))))
theorem Aa (fuel:Nat)(cs:List Value)(x:DataW H×List MemPlace)(hwt:∀k∈x.1.weights Tryz.prog 27,k≤reachBytes)(h:DataW.trod enc Tryz.prog w base (fun _=>true) held fuel 27 cs=some x):∃l:List Lns,(∀s∈l,Short s)∧RelL (dF w) (fun _=>none) [sls aK l] cs:=
 kP Short aK eR (by decide) Tryz.underlying27 Bv (fun m cs y _ hy h=>CO m cs y (fun k hk=>hwt k (hy k hk)) h) h
end
end Go.V
end
