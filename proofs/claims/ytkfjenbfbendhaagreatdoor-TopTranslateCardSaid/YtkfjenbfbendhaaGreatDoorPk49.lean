/-
  A part of a proof: M16 U1 U2 T1 T5 T6.
-/
import Derived.Test.YtkfjenbfbendhaaGreatDoorPk09
import Derived.Test.YtkfjenbfbendhaaGreatDoorPk22
import Derived.Test.YtkfjenbfbendhaaGreatDoorPk27
import Derived.Test.YtkfjenbfbendhaaGreatDoorPk46
import Derived.Test.YtkfjenbfbendhaaGreatDoorPk48
import Derived.ChangeArms
import GoSem.ClaimJoined
import Derived.OpenShut
import Derived.Test.YtkfjenbfbendhaaGreatDoorTie
import Derived.Test.YtkfjenbfbendhaaGreatDoorCards
import Derived.ChangeSame
import Derived.ChangeVars
import Derived.JoinedOf
import Derived.RowKit
import Derived.RowKitTokens
import Derived.LaidLaws
import Derived.Lib.LaidTab
import Derived.Below
import Derived.Carry
import Derived.SevenTiedAt
import Derived.LaidSub
set_option linter.unusedSimpArgs false
set_option linter.unusedVariables false
section
set_option maxHeartbeats 4000000
namespace Go.V
open Go Go.Proofs
attribute [local irreducible] W bM WD aO yl aU bU
section
variable (Γ:Glo Tryz.prog)
attribute [local simp] veq bD eD V.del
theorem Fa {r:Reg}(h:pb r=true):FewR r:=by
 unfold pb at h;simp only[Bool.and_eq_true,decide_eq_true_eq,List.all_eq_true] at h;obtain⟨⟨⟨h1,h2⟩,h3⟩,h4⟩:=h;refine⟨by omega,by omega,fun n hm=>⟨trivial,?_⟩,fun j hm=>?_⟩
 ·have:=f6_small (h3 n hm);unfold big;omega
 ·have h5:=Bg 13 j.lens (h4 j hm);have h6:=zj 13 j.lens;omega
theorem wn (s:St):eqS s s=true:=by
 have hrefl:∀l:List Res,vG l l=true:=fun l=>by
  induction l with
  |nil=>rfl
  |cons a l ih=>rw[vG,ih,(m8 a.doc a.doc).2 rfl];have:dP a a=0:=(by rw[kY];exact(iE.zero _ _).2 rfl);simp[this]
 rw[eqS,hrefl,(m8 s.doc s.doc).2 rfl];rfl
theorem f4 (X:XOk Γ)(H:fQ Γ)(k5:PureOk Tryz.prog Γ 5 [] (.bool true))(r:Reg)(a0 b0 c0:Int)(d:Doc)(hsh:∀j∈r.joins,∀s∈j.lens,Short s) :
  PureOk Tryz.prog Γ 4 [.ag (bN r),.int .i64 a0,.int .i64 b0,.int .i64 c0,.ag (aJ d)] (.bool true):=by
 have k14:=(f14 Γ r d hsh).arg (vs:=[.ag (bN r),.ag (aJ d++[.nils])]) ⟨Wk.refl _,Wk.ag (AK d),trivial⟩;have hvb:=AR d;by_cases c1:(pb r&&decide (0<fE 20 d))=true;case neg=>
  have e1:(pb r&&decide (0<fE 20 d))=false:=(by simpa using c1);rw[e1] at k14;clear X H hsh c1 e1;refine Y5 153 Tryz.func4 rfl rfl fun a hl g0 g1 g2 g3 g4=>?_
  refine GG ?_;all_goals (try (refine aC k5 ?_))
  refine GG ?_;all_goals (try (refine aC k14 ?_))
  refine GG ?_;exact⟨by simp,.bool true,1,by simp[Tryz.f4, *],rfl⟩
 rw[c1] at k14;simp only[Bool.and_eq_true,decide_eq_true_eq] at c1;have hf:=Fa c1.1;have hd:=f8_small c1.2;obtain⟨s,e,hS,hz,hok⟩:=BD r a0 b0 c0 d hd;have k15:=f15 Γ X H r hf a0 d s e hS;unfold stV at k15;by_cases c2:e=0;case neg=>
  have:=hz c2;subst this;have hz0:bu.res=[]:=rfl;clear X H hsh c1 hf hd hS hz hok;refine Y5 153 Tryz.func4 rfl rfl fun a hl g0 g1 g2 g3 g4=>?_
  refine GG ?_;all_goals (try (refine aC k5 ?_))
  refine GG ?_;all_goals (try (refine aC k14 ?_))
  refine GG ?_;all_goals (try (refine aC k15 ?_))
  refine GG ?_;exact⟨by simp,.bool true,1,by simp[Tryz.f4, *],rfl⟩
 subst c2;obtain⟨hta,hsd,hso,hm,hfa,hfb,hva,x,f,hG,hxo,hfn,hf0⟩:=hok rfl;rw[←hsd] at hfb;have k16:=f16 Γ X H r hf a0 s hm hso hfa hfb;have k12:=f12 Γ s.doc d (by rw[hsd];unfold big;omega) (by unfold big;omega);rw[(m8 s.doc d).2 hsd] at k12;have k17:=f17 Γ X H r hf a0 b0 s x f hG;have k18:=f18 Γ H r hf a0 b0;obtain⟨n1,m1,x1,post1,rfl,l1,d1,t1,i1,rfl⟩:=jr hta;have k11:=H x1.ty d (hf.n x1 i1).2 (by unfold big;omega);rw[t1] at hva;rw[hva] at k11;have l2:(n1:Int)<r.schemas.length:=by omega
 have l5:n1*7≤r.schemas.length*7:=by omega
 have b1:1≤7+post1.length*7:=by omega
 have f1:List.take 6 (cNm x1++row cNm post1).tail=cTy x1.ty:=by show List.take 6 (cTy x1.ty++row cNm post1)=_;exact ed (bG _)
 unfold stV at k17;unfold zy at k18;by_cases c3:f=0;case neg=>
  obtain⟨hp,hq⟩:=hfn c3;rw[hp] at k18;generalize (hZ r (n1:Int) b0).1=w at *
  clear X H hsh c1 hf hd hS hz hok hta hso hm hfa hfb hva hG hxo hfn hf0 t1 i1 hp hsd;rcases hq with rfl|rfl
  ·refine Y5 153 Tryz.func4 rfl rfl fun a hl g0 g1 g2 g3 g4=>?_
   refine GG ?_;all_goals (try (refine aC k5 ?_))
   refine GG ?_;all_goals (try (refine aC k14 ?_))
   refine GG ?_;all_goals (try (refine aC k15 ?_))
   refine GG ?_;refine aM k12 ?_;refine GG ?_;refine aM k16 ?_;refine GG ?_;refine aM k11 ?_;refine GG ?_;all_goals (try (refine aC k17 ?_))
   refine GG ?_;all_goals (try (refine aC k18 ?_))
   refine GG ?_;exact⟨by simp,.bool true,1,by simp[Tryz.f4, *],rfl⟩
  ·refine Y5 153 Tryz.func4 rfl rfl fun a hl g0 g1 g2 g3 g4=>?_
   refine GG ?_;all_goals (try (refine aC k5 ?_))
   refine GG ?_;all_goals (try (refine aC k14 ?_))
   refine GG ?_;all_goals (try (refine aC k15 ?_))
   refine GG ?_;refine aM k12 ?_;refine GG ?_;refine aM k16 ?_;refine GG ?_;refine aM k11 ?_;refine GG ?_;all_goals (try (refine aC k17 ?_))
   refine GG ?_;all_goals (try (refine aC k18 ?_))
   refine GG ?_;exact⟨by simp,.bool true,1,by simp[Tryz.f4, *],rfl⟩
 subst c3;obtain⟨htb,hvb2,hback,u,h,hu1,hu2,huo⟩:=hf0 rfl;have k17b:=f17 Γ X H r hf b0 (n1:Int) x s 0 hback;have k17c:=f17 Γ X H r hf (n1:Int) c0 s u h hu1;have k17d:=f17 Γ X H r hf b0 c0 x u h hu2;unfold okS lim at hso hxo huo;have hso':=of_decide_eq_true hso;have hxo':=of_decide_eq_true hxo;have huo':=of_decide_eq_true huo;have k13:=f13 Γ s s (by unfold big;omega) (by unfold big;omega);rw[wn] at k13;have k13u:=f13 Γ u u (by unfold big;omega) (by unfold big;omega);rw[wn] at k13u;obtain⟨n2,m2,x2,post2,rfl,l3,d2,t2,i2,rfl⟩:=jr htb;have k11b:=H x2.ty x.doc (hf.n x2 i2).2 (by unfold big;omega);rw[t2] at hvb2;rw[hvb2] at k11b;have l4:(n2:Int)<r.schemas.length:=by omega
 have l6:n2*7≤r.schemas.length*7:=by omega
 have b2:1≤7+post2.length*7:=by omega
 have f2:List.take 6 (cNm x2++row cNm post2).tail=cTy x2.ty:=by show List.take 6 (cTy x2.ty++row cNm post2)=_;exact ed (bG _)
 unfold stV at k17b k17c k17d;clear X H hsh c1 hf hd hS hz hok hta hso hm hfa hfb hva hG hxo hfn hf0 t1 i1 htb hback hu1 hu2 huo t2 i2 hvb2 k18 hso' hxo' huo' hsd;refine Y5 153 Tryz.func4 rfl rfl fun a hl g0 g1 g2 g3 g4=>?_
 refine GG ?_;all_goals (try (refine aC k5 ?_))
 refine GG ?_;all_goals (try (refine aC k14 ?_))
 refine GG ?_;all_goals (try (refine aC k15 ?_))
 refine GG ?_;refine aM k12 ?_;refine GG ?_;refine aM k16 ?_;refine GG ?_;refine aM k11 ?_;refine GG ?_;all_goals (try (refine aC k17 ?_))
 refine GG ?_;all_goals (try (refine aC k17b ?_))
 refine GG ?_;refine aM k13 ?_;refine GG ?_;refine aM k11b ?_;refine GG ?_;all_goals (try (refine aC k17c ?_))
 refine GG ?_;all_goals (try (refine aC k17d ?_))
 refine GG ?_;all_goals (try (refine aC k13u ?_))
 refine GG ?_;exact⟨by simp,.bool true,1,by simp[Tryz.f4, *],rfl⟩
end
end Go.V
end
section
namespace Go.V
open Go Go.Proofs
def cP (w:World):Fro:=fun b=>match w.heap[b]? with
 |some (.cells c _ _)=>some c
 |_=>none
theorem Bn (w:World):FOk (cP w) w:=by
 intro b c h;unfold cP at h;split at h
 ·rename_i c' e fr hb;cases h;exact⟨e,fr,hb⟩
 ·cases h
section
variable {H:Type} {enc:TypeId×Value→H} {w:World} {base:Nat} {held:Bool}
theorem wX {a:Addr}{k:Nat}{ci:List Value}(hk:0<k)(h:w.cells? base a k=some ci):∃b o c,a=⟨b,o,none⟩∧cP w b=some c∧ci=(c.toList.drop o).take k:=by
 unfold World.cells? at h;split at h
 ·have hl:ci.length=k:=(by simpa using mapM_some_length h);have hg:=fun i (hi:i<k)=>mapM_some_get h i i (by simp[hi])
  obtain⟨b,o,sp⟩:=a;obtain⟨v,hv⟩:∃v,ci[0]?=some v:=⟨ci[0],by simp⟩;have h0:=hg 0 hk;rw[hv] at h0;simp only[Addr.add,if_true,World.cell?] at h0;split at h0
  ·rename_i c e fr hb;split at h0
   ·cases h0
   ·rename_i hs;have hsp:sp=none:=(by cases sp with|none=>rfl|some n=>simp at hs);subst hsp;refine⟨b,o,c,rfl,by simp[cP,hb],?_⟩;apply List.ext_getElem?;intro i;rw[List.getElem?_take];split
    ·rename_i hi;have h1:=hg i hi;rw[←h1,List.getElem?_drop];have e1:(⟨b,o,none⟩:Addr).add i=⟨b,o+i,none⟩:=(by unfold Addr.add;split<;>simp_all);rw[e1];simp[World.cell?,hb]
    ·rw[List.getElem?_eq_none (by omega)]
  ·cases h0
 ·cases h
theorem FQ (b o n:Nat):(⟨b,o,none⟩:Addr).add n=⟨b,o+n,none⟩:=by unfold Addr.add;split<;>simp_all
theorem Et {α:Type}{c:α→List Val}{k:Nat}(hc:∀a,(c a).length=k):∀l:List α,(row c l).length=l.length*k
 |[]=>by simp[row]
 |a::l=>by rw[row,List.length_append,hc,Et hc l,List.length_cons,Nat.add_mul,Nat.one_mul,Nat.add_comm]
theorem jF {P:Program}:∀{ts:List TypeId}{ds:List (DataW H)}{i:Nat}{t:TypeId}{d:DataW H},ts[i]?=some t→ds[i]?=some d→∀n∈d.weights P t,n∈DataW.weightsEach P ts ds
 |[],_,i,t,d,h,_=>by simp at h
 |_::_,[],i,t,d,_,h=>by simp at h
 |t'::ts,d'::ds,0,t,d,h1,h2=>by simp only[List.getElem?_cons_zero,Option.some.injEq] at h1 h2;subst h1;subst h2;intro n hn;rw[DataW.weightsEach];exact List.mem_append_left _ hn
 |t'::ts,d'::ds,i+1,t,d,h1,h2=>by simp only[List.getElem?_cons_succ] at h1 h2;intro n hn;rw[DataW.weightsEach];exact List.mem_append_right _ (jF h1 h2 n hn)
theorem mS {P:Program}{e:TypeId}:∀{l:List (DataW H)}{d:DataW H},d∈l→∀n∈d.weights P e,n∈DataW.weightsAll P e l
 |d'::l,d,h=>by
  intro n hn;rw[DataW.weightsAll];rcases List.mem_cons.1 h with rfl|h
  ·exact List.mem_append_left _ hn
  ·exact List.mem_append_right _ (mS h n hn)
theorem jz {P:Program}{α:Type}(Q:α→Prop)(c:α→List Val){t e:TypeId}{k:Nat}(hc:∀a,(c a).length=k)(hk:0<k)(ht:P.underlying t=some (.slice e))(hs:P.cellsOf e=k){fuel:Nat}{cs:List Value}{x:DataW H×List MemPlace}
  (he:∀n cs y,n<fuel→(∀k∈y.1.weights P e,k∈x.1.weights P t)→DataW.trod enc P w base (fun _=>true) held n e cs=some y→∃a,Q a∧RelL (cP w) (fun _=>none) (c a) cs)
  (h:DataW.trod enc P w base (fun _=>true) held fuel t cs=some x):∃l:List α,(∀a∈l,Q a)∧RelL (cP w) (fun _=>none) [sls c l] cs:=by
 rcases DataW.trod_slice ht h with ⟨rfl,_⟩|⟨a,len,cap,elems,rest,n,rfl,rfl,rfl,_,hl,hm,hel,h1,h2,_⟩
 ·refine⟨[],by simp,?_⟩;simp only[RelL];exact⟨_,_,rfl,by rw[Rel];exact .inl ⟨.inl rfl,rfl,rfl,by simp⟩,rfl⟩
 ·rw[hs] at h1 h2;by_cases hz:cap=0
  ·subst hz;obtain rfl:len=0:=(by omega);refine⟨[],by simp,?_⟩;simp only[RelL];exact⟨_,_,rfl,by rw[Rel];exact .inl ⟨.inr ⟨a,rfl⟩,rfl,rfl,by simp⟩,rfl⟩
  ·obtain⟨b,o,cl,rfl,hb,_⟩:∃b o cl,a=⟨b,o,none⟩∧cP w b=some cl∧True:=by
    have key:∀y:Option (DataW H×List MemPlace),y.isSome=true→(w.cells? base (a.add (0*k)) k).bind (DataW.trod enc P w base (fun _=>true) held n e)=y→∃b o cl,a=⟨b,o,none⟩∧cP w b=some cl∧True:=by
     intro y hy he;rw[Nat.zero_mul] at he;have e0:a.add 0=a:=(by simp[Addr.add]);rw[e0] at he;cases hq:w.cells? base a k with
     |none=>rw[hq] at he;simp at he;subst he;cases hy
     |some ci=>obtain⟨b,o,cl,q1,q2,_⟩:=wX hk hq;exact⟨b,o,cl,q1,q2,trivial⟩
    by_cases hz2:len=0
    ·obtain⟨r1,r2⟩:=h2 rfl;have:=r2 0 (by omega);rw[hz2] at this;refine key _ ?_ this;rw[List.getElem?_eq_getElem (by omega)];rfl
    ·refine key _ ?_ (h1 0 (by omega));rw[List.getElem?_eq_getElem (by omega)];rfl
   have key:∀m,m≤len→∃l:List α,l.length=m∧(∀a∈l,Q a)∧RelL (cP w) (fun _=>none) (row c l) ((cl.toList.drop o).take (m*k)):=by
    intro m;induction m with
    |zero=>intro _;exact⟨[],rfl,by simp,by simp[row,RelL]⟩
    |succ m ih=>
     intro hm';obtain⟨l,hl1,hlq,hl2⟩:=ih (by omega);have h3:=h1 m (by omega);rw[List.getElem?_eq_getElem (by omega)] at h3;cases hq:w.cells? base (Addr.add ⟨b,o,none⟩ (m*k)) k with
     |none=>rw[hq] at h3;cases h3
     |some ci=>rw[hq] at h3;simp only[Option.bind_some] at h3;rw[FQ] at hq;obtain⟨b',o',c',q1,q2,q3⟩:=wX hk hq;cases q1;rw[hb] at q2;cases q2;have hwm:∀k∈(elems[m]'(by omega)).1.weights P e,k∈(DataW.slice (elems.map (·.1)) (rest.map (·.1))).weights P t:=(by intro k hk;simp only[DataW.weights,ht];refine List.mem_cons_of_mem _ (List.mem_append_left _ (mS (List.mem_map.2 ⟨_,List.getElem_mem (by omega),rfl⟩) k hk)));obtain⟨a',hqa,ha'⟩:=he n _ _ (by omega) hwm h3;refine⟨l++[a'],by simp[hl1],(fun y hy=>by rcases List.mem_append.1 hy with h|h;exact hlq y h;cases List.mem_singleton.1 h;exact hqa),?_⟩;rw[bf,Nat.add_mul,Nat.one_mul,List.take_add];refine hl2.append ?_;rw[List.drop_drop];simp only[row,List.append_nil];rw[←q3];exact ha'
   obtain⟨l,hl1,hlq,hl2⟩:=key len (Nat.le_refl _);refine⟨l,hlq,?_⟩;simp only[RelL];refine⟨_,_,rfl,?_,rfl⟩;rw[Rel];exact .inr ⟨b,o,cl,cap,by rw[hl1],by omega,by simp,hb,by rw[Et hc,hl1];exact hl2⟩
theorem gi {P:Program}{α:Type}(c:α→List Val){t e:TypeId}{k:Nat}(hc:∀a,(c a).length=k)(hk:0<k)(ht:P.underlying t=some (.slice e))(hs:P.cellsOf e=k){fuel:Nat}{cs:List Value}{x:DataW H×List MemPlace}
  (he:∀n cs x,n<fuel→DataW.trod enc P w base (fun _=>true) held n e cs=some x→∃a,RelL (cP w) (fun _=>none) (c a) cs)
  (h:DataW.trod enc P w base (fun _=>true) held fuel t cs=some x):∃l:List α,RelL (cP w) (fun _=>none) [sls c l] cs:=by
 obtain⟨l,_,hl⟩:=jz (fun _=>True) c hc hk ht hs (fun n cs y hn _ h=>by obtain⟨a,ha⟩:=he n cs y hn h;exact⟨a,trivial,ha⟩) h;exact⟨l,hl⟩
theorem dO {P:Program}{t:TypeId}{k:IntKind}(ht:P.underlying t=some (.int k)){F:Fro}{ρ:Pl}{sp:Nat→Bool}{fuel:Nat}{cs:List Value}{x:DataW H×List MemPlace}(h:DataW.trod enc P w base sp held fuel t cs=some x):∃n:Int,RelL F ρ [.int k n] cs:=by obtain⟨n,rfl,_⟩:=DataW.trod_int ht h;exact⟨n,by simp[RelL,Rel]⟩
theorem uy {P:Program}{t:TypeId}(ht:P.underlying t=some .bool){F:Fro}{ρ:Pl}{sp:Nat→Bool}{fuel:Nat}{cs:List Value}{x:DataW H×List MemPlace}(h:DataW.trod enc P w base sp held fuel t cs=some x):∃n:Bool,RelL F ρ [.bool n] cs:=by obtain⟨n,rfl,_⟩:=DataW.trod_bool ht h;exact⟨n,by simp[RelL,Rel]⟩
theorem lI {P:Program}{t:TypeId}(ht:P.underlying t=some .string){F:Fro}{ρ:Pl}{sp:Nat→Bool}{fuel:Nat}{cs:List Value}{x:DataW H×List MemPlace}(h:DataW.trod enc P w base sp held fuel t cs=some x):∃n:Str,x.1=.lit (.string n)∧RelL F ρ (aZ n) cs:=by obtain⟨n,rfl,rfl,hn⟩:=DataW.trod_string ht h;exact⟨n.data.toList,rfl,by simp[RelL,Rel,aZ,str]⟩
theorem iu {P:Program}{t:TypeId}(ht:P.underlying t=some .string){F:Fro}{ρ:Pl}{sp:Nat→Bool}{fuel:Nat}{cs:List Value}{x:DataW H×List MemPlace}(h:DataW.trod enc P w base sp held fuel t cs=some x):∃n:Str,RelL F ρ (aZ n) cs:=by obtain⟨n,_,hn⟩:=lI (F:=F) (ρ:=ρ) ht h;exact⟨n,hn⟩
end
theorem c3:Tryz.prog.cellsOf 3=1:=by kernel_rfl
theorem c4:Tryz.prog.cellsOf 4=1:=by kernel_rfl
theorem c9:Tryz.prog.cellsOf 9=1:=by kernel_rfl
theorem c22:Tryz.prog.cellsOf 22=1:=by kernel_rfl
theorem c23:Tryz.prog.cellsOf 23=1:=by kernel_rfl
theorem c24:Tryz.prog.cellsOf 24=1:=by kernel_rfl
theorem c27:Tryz.prog.cellsOf 27=1:=by kernel_rfl
theorem c28:Tryz.prog.cellsOf 28=1:=by kernel_rfl
theorem Jr:Tryz.prog.cellsOf 120=1:=by kernel_rfl
theorem c26:Tryz.prog.cellsOf 26=6:=by kernel_rfl
theorem c30:Tryz.prog.cellsOf 30=5:=by kernel_rfl
theorem Gt:Tryz.prog.cellsOf 112=8:=by kernel_rfl
theorem FU:Tryz.prog.cellsOf 122=16:=by kernel_rfl
theorem Gu:Tryz.prog.cellsOf 243=2:=by kernel_rfl
section
variable {H:Type} {enc:TypeId×Value→H} {w:World} {base:Nat} {held:Bool}
theorem fY {P:Program}{t:TypeId}{fs:Array Field}{fuel:Nat}{cs:List Value}{x:DataW H×List MemPlace}(ht:P.underlying t=some (.struct fs))(h:DataW.trod enc P w base (fun _=>true) held fuel t cs=some x) :
  ∃n,fuel=n+1∧cs.length=P.cellsOf t∧∀(i:Nat) (f:Field) (k:Nat),fs[i]?=some f→P.cellsOf f.type=k→∃y,DataW.trod enc P w base (fun _=>true) held n f.type ((cs.drop f.offset).take k)=some y∧∀k∈y.1.weights P f.type,k∈x.1.weights P t:=by
 obtain⟨xs,n,h1,rfl,h2,h3,h4⟩:=DataW.trod_struct ht h;refine⟨n,h1,h2,fun i f k hf hk=>?_⟩;have:=h4 i f hf;rw[hk] at this;have hi:i<fs.size:=by
  rcases Nat.lt_or_ge i fs.size with hh|hh
  ·exact hh
  ·rw[Array.getElem?_eq_none hh] at hf;cases hf
 rw[List.getElem?_eq_getElem (by omega)] at this;refine⟨_,this,fun k hk=>?_⟩;simp only[DataW.weights,ht];exact jF (i:=i) (t:=f.type) (by simp[hf]) (by rw[List.getElem?_map,List.getElem?_eq_getElem (by omega)];rfl) k hk
theorem EG (fuel:Nat)(cs:List Value)(x:DataW H×List MemPlace)(h:DataW.trod enc Tryz.prog w base (fun _=>true) held fuel 243 cs=some x):∃p:Int×Int,RelL (cP w) (fun _=>none) (cO p) cs:=by obtain⟨xs,n,h1,_,h2,h3,h4⟩:=DataW.trod_array Tryz.underlying243 h;rw[Gu] at h2;rw[c3] at h4;obtain⟨a0,cs,rfl⟩:=List.exists_cons_of_length_eq_add_one h2;obtain⟨a1,cs,rfl⟩:=List.exists_cons_of_length_eq_add_one (Nat.succ.inj h2);obtain rfl:=List.eq_nil_of_length_eq_zero (Nat.succ.inj (Nat.succ.inj h2));have e0:=h4 0 (by omega);have e1:=h4 1 (by omega);rw[List.getElem?_eq_getElem (by omega)] at e0 e1;obtain⟨p,r0⟩:=dO (F:=cP w) (ρ:=fun _=>none) Tryz.underlying3 e0;obtain⟨q,r1⟩:=dO (F:=cP w) (ρ:=fun _=>none) Tryz.underlying3 e1;exact⟨(p,q),r0.append r1⟩
theorem Bb:∀(fuel:Nat)(cs:List Value)(x:DataW H×List MemPlace),DataW.trod enc Tryz.prog w base (fun _=>true) held fuel 30 cs=some x→∃d:Doc,RelL (cP w) (fun _=>none) (aJ d) cs:=by
 intro fuel;induction fuel using Nat.strongRecOn with
 |ind fuel ih=>
 intro cs x h;obtain⟨n,rfl,hl,hp⟩:=fY Tryz.underlying30 h;rw[c30] at hl;obtain⟨a0,cs,rfl⟩:=List.exists_cons_of_length_eq_add_one hl;obtain⟨a1,cs,rfl⟩:=List.exists_cons_of_length_eq_add_one (Nat.succ.inj hl);obtain⟨a2,cs,rfl⟩:=List.exists_cons_of_length_eq_add_one (Nat.succ.inj (Nat.succ.inj hl));obtain⟨a3,cs,rfl⟩:=List.exists_cons_of_length_eq_add_one (Nat.succ.inj (Nat.succ.inj (Nat.succ.inj hl)));obtain⟨a4,cs,rfl⟩:=List.exists_cons_of_length_eq_add_one (Nat.succ.inj (Nat.succ.inj (Nat.succ.inj (Nat.succ.inj hl))));obtain rfl:cs=[]:=List.eq_nil_of_length_eq_zero (by simpa using hl);obtain⟨y0,h0,_⟩:=hp 0 _ 1 rfl c3;obtain⟨y1,h1,_⟩:=hp 1 _ 1 rfl c3;obtain⟨y2,h2,_⟩:=hp 2 _ 1 rfl c9;obtain⟨y3,h3,_⟩:=hp 3 _ 1 rfl c22;obtain⟨y4,h4,_⟩:=hp 4 _ 1 rfl c28;obtain⟨v0,r0⟩:=dO (F:=cP w) (ρ:=fun _=>none) Tryz.underlying3 h0;obtain⟨v1,r1⟩:=dO (F:=cP w) (ρ:=fun _=>none) Tryz.underlying3 h1;obtain⟨v2,r2⟩:=iu (F:=cP w) (ρ:=fun _=>none) Tryz.underlying9 h2;obtain⟨v3,r3⟩:=gi aZ (fun _=>rfl) (by decide) Tryz.underlying22 c9 (fun n cs x _ h=>iu Tryz.underlying9 h) h3;obtain⟨v4,r4⟩:=gi aJ b8 (by decide) Tryz.underlying28 c30 (fun m cs x hm h=>ih m (by omega) cs x h) h4;refine⟨.mk v0 v1 v2 v3 v4,?_⟩;rw[eF];exact r0.append (r1.append (r2.append (r3.append r4)))
theorem Fc {fuel:Nat}(ih:∀m,m<fuel→∀(cs:List Value)(x:DataW H×List MemPlace),DataW.trod enc Tryz.prog w base (fun _=>true) held m 26 cs=some x→∃d:Ty,RelL (cP w) (fun _=>none) (cTy d) cs)(cs:List Value)(x:DataW H×List MemPlace)(h:DataW.trod enc Tryz.prog w base (fun _=>true) held fuel 112 cs=some x) :
  ∃d:Fld,RelL (cP w) (fun _=>none) (ad d) cs:=by
 obtain⟨n,rfl,hl,hp⟩:=fY Tryz.underlying112 h;rw[Gt] at hl;obtain⟨a0,cs,rfl⟩:=List.exists_cons_of_length_eq_add_one hl;obtain⟨a1,cs,rfl⟩:=List.exists_cons_of_length_eq_add_one (Nat.succ.inj hl);have hl6:cs.length=6:=by simpa using hl
 obtain⟨y0,h0,_⟩:=hp 0 _ 1 rfl c9;obtain⟨y1,h1,_⟩:=hp 1 _ 1 rfl c4;obtain⟨y2,h2,_⟩:=hp 2 _ 6 rfl c26;obtain⟨v0,r0⟩:=iu (F:=cP w) (ρ:=fun _=>none) Tryz.underlying9 h0;obtain⟨v1,r1⟩:=uy (F:=cP w) (ρ:=fun _=>none) Tryz.underlying4 h1;obtain⟨v2,r2⟩:=ih n (by omega) _ _ h2;refine⟨.mk v0 v1 v2,?_⟩;rw[dw];have e:cs=List.take 6 cs:=(List.take_of_length_le (by omega)).symm;rw[e];exact r0.append (r1.append r2)
theorem FF:∀(fuel:Nat)(cs:List Value)(x:DataW H×List MemPlace),DataW.trod enc Tryz.prog w base (fun _=>true) held fuel 26 cs=some x→∃d:Ty,RelL (cP w) (fun _=>none) (cTy d) cs:=by
 intro fuel;induction fuel using Nat.strongRecOn with
 |ind fuel ih=>
 intro cs x h;obtain⟨n,rfl,hl,hp⟩:=fY Tryz.underlying26 h;rw[c26] at hl;obtain⟨a0,cs,rfl⟩:=List.exists_cons_of_length_eq_add_one hl;obtain⟨a1,cs,rfl⟩:=List.exists_cons_of_length_eq_add_one (Nat.succ.inj hl);obtain⟨a2,cs,rfl⟩:=List.exists_cons_of_length_eq_add_one (Nat.succ.inj (Nat.succ.inj hl));obtain⟨a3,cs,rfl⟩:=List.exists_cons_of_length_eq_add_one (Nat.succ.inj (Nat.succ.inj (Nat.succ.inj hl)));obtain⟨a4,cs,rfl⟩:=List.exists_cons_of_length_eq_add_one (Nat.succ.inj (Nat.succ.inj (Nat.succ.inj (Nat.succ.inj hl))));obtain⟨a5,cs,rfl⟩:=List.exists_cons_of_length_eq_add_one (Nat.succ.inj (Nat.succ.inj (Nat.succ.inj (Nat.succ.inj (Nat.succ.inj hl)))));obtain rfl:cs=[]:=List.eq_nil_of_length_eq_zero (by simpa using hl);obtain⟨y0,h0,_⟩:=hp 0 _ 1 rfl c3;obtain⟨y1,h1,_⟩:=hp 1 _ 1 rfl c3;obtain⟨y2,h2,_⟩:=hp 2 _ 1 rfl c3;obtain⟨y3,h3,_⟩:=hp 3 _ 1 rfl c22;obtain⟨y4,h4,_⟩:=hp 4 _ 1 rfl c23;obtain⟨y5,h5,_⟩:=hp 5 _ 1 rfl c24;obtain⟨v0,r0⟩:=dO (F:=cP w) (ρ:=fun _=>none) Tryz.underlying3 h0;obtain⟨v1,r1⟩:=dO (F:=cP w) (ρ:=fun _=>none) Tryz.underlying3 h1;obtain⟨v2,r2⟩:=dO (F:=cP w) (ρ:=fun _=>none) Tryz.underlying3 h2;obtain⟨v3,r3⟩:=gi aZ (fun _=>rfl) (by decide) Tryz.underlying22 c9 (fun n cs x _ h=>iu Tryz.underlying9 h) h3;obtain⟨v4,r4⟩:=gi ad jb (by decide) Tryz.underlying23 Gt (fun m cs x hm h=>Fc (fun q hq=>ih q (by omega)) cs x h) h4;obtain⟨v5,r5⟩:=gi cTy bG (by decide) Tryz.underlying24 c26 (fun m cs x hm h=>ih m (by omega) cs x h) h5;refine⟨.mk v0 v1 v2 v3 v4 v5,?_⟩;rw[fC];exact r0.append (r1.append (r2.append (r3.append (r4.append r5))))
theorem Fk:∀(fuel:Nat)(cs:List Value)(x:DataW H×List MemPlace),(∀k∈x.1.weights Tryz.prog 122,k≤reachBytes)→DataW.trod enc Tryz.prog w base (fun _=>true) held fuel 122 cs=some x→∃d:Lns,Short d∧RelL (cP w) (fun _=>none) (aL d) cs:=by
 intro fuel;induction fuel using Nat.strongRecOn with
 |ind fuel ih=>
 intro cs x hwt h;obtain⟨n,rfl,hl,hp⟩:=fY Tryz.underlying122 h;rw[FU] at hl;obtain⟨y0,h0,m0⟩:=hp 0 _ 1 rfl c3;obtain⟨y1,h1,m1⟩:=hp 1 _ 1 rfl c9;obtain⟨y2,h2,m2⟩:=hp 2 _ 1 rfl c9;obtain⟨y3,h3,m3⟩:=hp 3 _ 6 rfl c26;obtain⟨y4,h4,m4⟩:=hp 4 _ 5 rfl c30;obtain⟨y5,h5,m5⟩:=hp 5 _ 1 rfl Jr;obtain⟨y6,h6,m6⟩:=hp 6 _ 1 rfl c27;obtain⟨v0,r0⟩:=dO (F:=cP w) (ρ:=fun _=>none) Tryz.underlying3 h0;obtain⟨v1,b1,r1⟩:=lI (F:=cP w) (ρ:=fun _=>none) Tryz.underlying9 h1;obtain⟨v2,b2,r2⟩:=lI (F:=cP w) (ρ:=fun _=>none) Tryz.underlying9 h2;obtain⟨v3,r3⟩:=FF _ _ _ h3;obtain⟨v4,r4⟩:=Bb _ _ _ h4;obtain⟨v5,r5⟩:=gi cO oo (by decide) Tryz.underlying120 Gu (fun n cs x _ h=>EG n cs x h) h5;obtain⟨v6,b6,r6⟩:=jz Short aL fB (by decide) Tryz.underlying27 FU (fun m cs y hm hy h=>ih m (by omega) cs y (fun k hk=>hwt k (m6 k (hy k hk))) h) h6;refine⟨.mk v0 v1 v2 v3 v4 v5 v6,.mk (by have:=hwt v1.length (m1 _ (by rw[b1];simp[DataW.weights]));unfold reachBytes at this;simp only[Lns.a];omega) (by have:=hwt v2.length (m2 _ (by rw[b2];simp[DataW.weights]));unfold reachBytes at this;simp only[Lns.b];omega) b6,?_⟩;rw[ey];have e:cs=(cs.drop 0).take 1++((cs.drop 1).take 1++((cs.drop 2).take 1++((cs.drop 3).take 6++((cs.drop 9).take 5++((cs.drop 14).take 1++(cs.drop 15).take 1))))):=by
  have e1:∀(l:List Value) (i k:Nat),l.drop i=(l.drop i).take k++l.drop (i+k):=fun l i k=>by rw[←List.drop_drop,List.take_append_drop]
  conv=>lhs;rw[←List.drop_zero (l:=cs),e1 cs 0 1,e1 cs (0+1) 1,e1 cs (0+1+1) 1,e1 cs (0+1+1+1) 6,e1 cs (0+1+1+1+6) 5,e1 cs (0+1+1+1+6+5) 1,e1 cs (0+1+1+1+6+5+1) 1,List.drop_eq_nil_of_le (i:=0+1+1+1+6+5+1+1) (by omega)]
  simp
 rw[e];exact r0.append (r1.append (r2.append (r3.append (r4.append (r5.append r6)))))
theorem Dx (fuel:Nat)(cs:List Value)(x:DataW H×List MemPlace)(hwt:∀k∈x.1.weights Tryz.prog 27,k≤reachBytes)(h:DataW.trod enc Tryz.prog w base (fun _=>true) held fuel 27 cs=some x):∃l:List Lns,(∀s∈l,Short s)∧RelL (cP w) (fun _=>none) [sls aL l] cs:=
 jz Short aL fB (by decide) Tryz.underlying27 FU (fun m cs y _ hy h=>Fk m cs y (fun k hk=>hwt k (hy k hk)) h) h
end
theorem c55:Tryz.prog.cellsOf 55=7:=by kernel_rfl
theorem Gs:Tryz.prog.cellsOf 108=3:=by kernel_rfl
theorem c47:Tryz.prog.cellsOf 47=1:=by kernel_rfl
theorem c48:Tryz.prog.cellsOf 48=1:=by kernel_rfl
theorem c50:Tryz.prog.cellsOf 50=2:=by kernel_rfl
theorem Jx {α:Type}(l:List α)(h:l.length=3):l=(l.drop 0).take 1++((l.drop 1).take 1++(l.drop 2).take 1):=by
 match l,h with
 |[a,b,c],_=>rfl
theorem Jw {α:Type}(l:List α)(h:l.length=2):l=(l.drop 0).take 1++(l.drop 1).take 1:=by
 match l,h with
 |[a,b],_=>rfl
section
variable {H:Type} {enc:TypeId×Value→H} {w:World} {base:Nat} {held:Bool}
theorem ID (fuel:Nat)(cs:List Value)(x:DataW H×List MemPlace)(h:DataW.trod enc Tryz.prog w base (fun _=>true) held fuel 55 cs=some x):∃d:Nm,RelL (cP w) (fun _=>none) (cNm d) cs:=by
 obtain⟨n,rfl,hl,hp⟩:=fY Tryz.underlying55 h;rw[c55] at hl;obtain⟨y0,h0,m0⟩:=hp 0 _ 1 rfl c9;obtain⟨y1,h1,m1⟩:=hp 1 _ 6 rfl c26;obtain⟨v0,r0⟩:=iu (F:=cP w) (ρ:=fun _=>none) Tryz.underlying9 h0;obtain⟨v1,r1⟩:=FF _ _ _ h1;refine⟨⟨v0,v1⟩,?_⟩;have e:cs=(cs.drop 0).take 1++(cs.drop 1).take 6:=by rw[List.drop_zero,List.take_of_length_le (l:=cs.drop 1) (by simp;omega),List.take_append_drop]
 rw[e];exact r0.append r1
theorem IB (fuel:Nat)(cs:List Value)(x:DataW H×List MemPlace)(hwt:∀k∈x.1.weights Tryz.prog 108,k≤reachBytes)(h:DataW.trod enc Tryz.prog w base (fun _=>true) held fuel 108 cs=some x):∃d:Jn,(∀s∈d.lens,Short s)∧RelL (cP w) (fun _=>none) (cJn d) cs:=by obtain⟨n,rfl,hl,hp⟩:=fY Tryz.underlying108 h;rw[Gs] at hl;obtain⟨y0,h0,m0⟩:=hp 0 _ 1 rfl c3;obtain⟨y1,h1,m1⟩:=hp 1 _ 1 rfl c3;obtain⟨y2,h2,m2⟩:=hp 2 _ 1 rfl c27;obtain⟨v0,r0⟩:=dO (F:=cP w) (ρ:=fun _=>none) Tryz.underlying3 h0;obtain⟨v1,r1⟩:=dO (F:=cP w) (ρ:=fun _=>none) Tryz.underlying3 h1;obtain⟨v2,b2,r2⟩:=Dx _ _ _ (fun k hk=>hwt k (m2 k hk)) h2;refine⟨⟨v0,v1,v2⟩,b2,?_⟩;rw[Jx cs hl];exact r0.append (r1.append r2)
theorem Fy (fuel:Nat)(cs:List Value)(x:DataW H×List MemPlace)(hwt:∀k∈x.1.weights Tryz.prog 50,k≤reachBytes)(h:DataW.trod enc Tryz.prog w base (fun _=>true) held fuel 50 cs=some x):∃d:Reg,(∀j∈d.joins,∀s∈j.lens,Short s)∧RelL (cP w) (fun _=>none) (bN d) cs:=by obtain⟨n,rfl,hl,hp⟩:=fY Tryz.underlying50 h;rw[c50] at hl;obtain⟨y0,h0,m0⟩:=hp 0 _ 1 rfl c47;obtain⟨y1,h1,m1⟩:=hp 1 _ 1 rfl c48;obtain⟨v0,r0⟩:=gi cNm vA (by decide) Tryz.underlying47 c55 (fun m cs y _ h=>ID m cs y h) h0;obtain⟨v1,b1,r1⟩:=jz (fun j:Jn=>∀s∈j.lens,Short s) cJn qK (by decide) Tryz.underlying48 Gs (fun m cs y _ hy h=>IB m cs y (fun k hk=>hwt k (m1 k (hy k hk))) h) h1;refine⟨⟨v0,v1⟩,b1,?_⟩;rw[Jw cs hl];exact r0.append r1
end
end Go.V
namespace Go.Proofs.YtkfjenbfbendhaaGreatDoor
open Go Go.ChangeShapes Go.WideShapes Go.RowKit Go.V
theorem own:ownKnob Tryz.prog.godebug=none:=by kernel_rfl
theorem oI:laidOutB Tryz.prog=true:=by kernel_rfl
noncomputable def uG (os:Os):World:=
 let N:=(World.settled Tryz.prog os).heap.size
 let w0:=World.holding Tryz.prog os ⟨#[.cells #[.string ⟨#[118,97,108,117,101,32,111,117,116,32,111,102,32,114,97,110,103,101]⟩] 388,.cells #[.string ⟨#[105,110,118,97,108,105,100,32,115,121,110,116,97,120]⟩] 388,.cells (([9,13,1,32,133,101,160,5760,5600,8192,8202,1,8232,8233,1,8239,8287,48,12288,12288,1]:List Int).map fun z=>Value.int .u16 z).toArray 381,.cells #[.slice (some ⟨N+2,0,none⟩) 7 7,.slice none 0 0,.int .i64 2] 378],#[],[]⟩
 let put (h:Array Obj) (g:Nat) (cs:Array Value):Array Obj:=h.modify g fun
  |.cells _ t frozen=>.cells cs t frozen
  |o=>o
 let h1:=put w0.heap 1 (Lib.pow10Tab.map fun z=>Value.int .u64 z).toArray
 let h2:=put h1 2 (spaceTab.map fun z=>Value.int .u8 z).toArray
 let h3:=put h2 3 (([0,1,28,2,29,14,24,3,30,22,20,15,25,17,4,8,31,27,13,23,21,19,16,7,26,12,18,6,11,5,10,9]:List Int).map fun z=>Value.int .u8 z).toArray
 let h4:=put h3 4 (([0,1,56,2,57,49,28,3,61,58,42,50,38,29,17,4,62,47,59,36,45,43,51,22,53,39,33,30,24,18,12,5,63,55,48,27,60,41,37,16,46,35,44,21,52,32,23,11,54,26,40,15,34,20,31,10,25,14,19,9,13,8,7,6]:List Int).map fun z=>Value.int .u8 z).toArray
 let h5:=put h4 5 #[.pointer (some ⟨N+3,0,none⟩)]
 let h6:=put h5 6 #[.iface 386 (.pointer (some ⟨N+1,0,none⟩))]
 let h7:=put h6 7 #[.iface 386 (.pointer (some ⟨N,0,none⟩))]
 {w0 with heap:=h7}
set_option maxRecDepth 100000 in
theorem sr (os:Os)(args:Array Value):laidMet Tryz.prog Rows.topTranslateRow.laid ((uG os).forCall (fun _ _=>0) ⟨#[],args,[]⟩).memory:=
 laidMet_of_run' 12 (by kernel_rfl) (by kernel_rfl)
theorem yJ {H:Type}{enc:TypeId×Value→H}{C:Checked}{os:Os}{f:FuncId}{fn:Func}{s:ChangeSpec}{conds:List PathCond}{apart:Bool}{X:World→Array Value→Prop}(w0:World)(args:Array Value)(fuel:Nat)(hos:w0.os=os)
  (hv:(w0.forCall (fun _ _=>0) ⟨#[],args,[]⟩).variablesRefB C.prog=true)
  (hr:((w0.forCall (fun _ _=>0) ⟨#[],args,[]⟩).heap.toList.drop C.prog.globals.size).take ((begin C.prog (fun _ _=>0) default).world.heap.size-C.prog.globals.size) =
   (begin C.prog (fun _ _=>0) default).world.heap.toList.drop C.prog.globals.size)
  (hok:Input.okWideB C.prog (w0.forCall (fun _ _=>0) ⟨#[],args,[]⟩) f ⟨#[],args,[]⟩=true)
  (hpre:s.preB enc C.prog fn conds apart (w0.forCall (fun _ _=>0) ⟨#[],args,[]⟩).memory args fuel=true)
  (hsz:s.sizedB enc C.prog fn apart (w0.forCall (fun _ _=>0) ⟨#[],args,[]⟩).memory args fuel=true)
  (hx:X (w0.forCall (fun _ _=>0) ⟨#[],args,[]⟩).memory args) :
  ∃(w:World) (tape:Tape) (i:Input),w.os=os∧(w.forCall tape i).Shaped C.prog∧i.vars=[]∧Input.okWide C.prog (w.forCall tape i) .any w.heap.size f i∧
   ((s.pre enc C.prog fn conds apart (w.forCall tape i).memory i.args∧X (w.forCall tape i).memory i.args)∧sizedMet enc C.prog fn (OpenSpec.ofChange s) apart (w.forCall tape i).memory i.args)∧({}:Assume).holds C.prog (lone (Frame.enter C.prog f i.args .normal) [] (w.forCall tape i)):=
 ⟨w0,fun _ _=>0,⟨#[],args,[]⟩,hos,World.shaped_of_RefB hv hr,(Input.okWide_of_okWideB (base:=0) hok).1,(Input.okWide_of_okWideB hok).2,⟨⟨ChangeSpec.pre_of_preB hpre,hx⟩,sizedMet_of_sizedB hsz⟩,by simp only[Assume.holds];exact⟨by simp,by simp,fun _=>Modest.zero,by simp,by simp⟩⟩
theorem xB {W:World}(h:laidMet Tryz.prog Rows.topTranslateRow.laid W):GOk (cP W) ΓT:=by
 intro g cs hg;have h3:=h.filter (fun p=>p.1== "internal/strconv.uint64pow10");have e3:(Rows.topTranslateRow.laid.filter (fun p=>p.1== "internal/strconv.uint64pow10"))=[("internal/strconv.uint64pow10",Lib.tabData .u64 Lib.pow10Tab)]:=by kernel_rfl
 rw[e3] at h3;have t1:Lib.TabIs Tryz.prog W "internal/strconv.uint64pow10" .u64 Lib.pow10Tab:=Lib.tabIs_of_head (g:=1) (t:=314) (e:=280) (n:=20) (by kernel_rfl) (by kernel_rfl) Tryz.underlying314 Tryz.underlying280 (by kernel_rfl) (by kernel_rfl) h3;have h7:=h.filter (fun p=>p.1== "strings.asciiSpace");have e7:(Rows.topTranslateRow.laid.filter (fun p=>p.1== "strings.asciiSpace"))=[("strings.asciiSpace",Lib.tabData .u8 spaceTab)]:=by kernel_rfl
 rw[e7] at h7;have t2:Lib.TabIs Tryz.prog W "strings.asciiSpace" .u8 spaceTab:=Lib.tabIs_of_head (g:=2) (t:=343) (e:=5) (n:=256) (by kernel_rfl) (by kernel_rfl) Tryz.underlying343 Tryz.underlying5 (by kernel_rfl) (by kernel_rfl) h7;have key:∀(g:Nat) (name:String) (k:IntKind) (zs:List Int),Tryz.prog.globalNamed name=some g→Lib.TabIs Tryz.prog W name k zs→∃c,cP W g=some c∧RelL (cP W) (fun _=>none) (zs.map fun z=>Val.int k z) (c.toList.take (zs.map fun z=>Val.int k z).length)∧c.size=(zs.map fun z=>Val.int k z).length:=by
  intro g name k zs hn ht;unfold Lib.TabIs World.var? at ht;rw[hn] at ht;simp only[Option.bind_some] at ht;split at ht
  ·rename_i c e fr hb;cases ht;refine⟨(zs.map fun z=>Value.int k z).toArray,by simp[cP,hb],?_,by simp⟩;rw[List.take_of_length_le (by simp)];simp only[List.toList_toArray];induction zs with
   |nil=>simp[RelL]
   |cons z zs ih=>
    simp only[List.map_cons,RelL,Rel];refine⟨_,_,rfl,rfl,?_⟩;have gen:∀l:List Int,RelL (cP W) (fun _=>none) (l.map fun z=>Val.int k z) (l.map fun z=>Value.int k z):=by
     intro l;induction l with
     |nil=>simp[RelL]
     |cons z l ih=>simp only[List.map_cons,RelL,Rel];exact⟨_,_,rfl,rfl,ih⟩
    exact gen zs
  ·cases ht
 have hg':tG g=some cs:=hg;unfold tG at hg';split at hg'
 ·cases hg';exact key 1 _ _ _ (by kernel_rfl) t1
 ·cases hg';exact key 2 _ _ _ (by kernel_rfl) t2
 ·cases hg'
set_option maxRecDepth 100000 in
theorem Fj (G:PureOk Tryz.prog ΓT 5 [] (.bool true))(os:Os)(started:os.Started)(H:Type)(enc:TypeId×Value→H) :
  ReturnsInHanded {} Tryz.checked os 4 .any (fun w args=>(Rows.topTranslateSpec.pre enc Tryz.prog Tryz.f4 Rows.topTranslateRow.domain false w args∧laidMet Tryz.prog Rows.topTranslateRow.laid w)∧sizedMet enc Tryz.prog Tryz.f4 (OpenSpec.ofChange Rows.topTranslateSpec) false w args)
   (Rows.topTranslateSpec.post enc Tryz.prog Tryz.f4 false true false false):=by
 refine returnsInHanded_of_change_and (C:=Tryz.checked) (X:=fun w _=>laidMet Tryz.prog Rows.topTranslateRow.laid w) (fun _ _ _ hh h=>h.of_heap hh) own started (by kernel_rfl) Tryz.func4
  (yJ (enc:=enc) (C:=Tryz.checked) (os:=os) (X:=fun w _=>laidMet Tryz.prog Rows.topTranslateRow.laid w) (uG os) #[.agg #[.slice none 0 0,.slice none 0 0],.int .i64 0,.int .i64 0,.int .i64 0,.agg #[.int .i64 0,.int .i64 0,.string ⟨#[]⟩,.slice none 0 0,.slice none 0 0]] 8 rfl (by kernel_rfl) (by kernel_rfl) (by kernel_rfl) (by kernel_rfl) (by kernel_rfl) (sr os _)) ?_
 intro W base args ds gs before hval0 hW _ hwt hL _;have hval:∀(j:Nat) t v,Tryz.f4.params[j]?=some t→args[j]?=some v→Value.okWide Tryz.prog W .any base t v:=hval0;have hW':=hW;obtain⟨p,q,hA0,hV,rfl,hfz,hnd⟩:=hW;have hA:DataW.TrodAll enc Tryz.prog W 0 (fun _=>true) true Tryz.f4.params.toList args.toList ds p:=hA0;rw[Tryz.params4] at hA hval hwt;obtain⟨v0,vs0,d0,ds0,p0,q0,hargs,rfl,rfl,h0,r0⟩:=trodAll_cons hA;obtain⟨v1,vs1,d1,ds1,p1,q1,rfl,rfl,rfl,h1,r1⟩:=trodAll_cons r0;obtain⟨v2,vs2,d2,ds2,p2,q2,rfl,rfl,rfl,h2,r2⟩:=trodAll_cons r1;obtain⟨v3,vs3,d3,ds3,p3,q3,rfl,rfl,rfl,h3,r3⟩:=trodAll_cons r2;obtain⟨v4,vs4,d4,ds4,p4,q4,rfl,rfl,rfl,h4,r4⟩:=trodAll_cons r3;obtain⟨rfl,rfl,rfl⟩:=trodAll_nil r4;obtain rfl:args=#[v0,v1,v2,v3,v4]:=by cases args;simp_all
 obtain⟨rfl,rfl⟩:=trodVars_none hV;have k0:=h0;have lt0:∀x∈p0,x.block<W.heap.size:=by obtain⟨m,hm⟩:=k0;exact DataW.trod_lt m _ _ _ hm
 have k1:=h1;have lt1:∀x∈p1,x.block<W.heap.size:=by obtain⟨m,hm⟩:=k1;exact DataW.trod_lt m _ _ _ hm
 have k2:=h2;have lt2:∀x∈p2,x.block<W.heap.size:=by obtain⟨m,hm⟩:=k2;exact DataW.trod_lt m _ _ _ hm
 have k3:=h3;have lt3:∀x∈p3,x.block<W.heap.size:=by obtain⟨m,hm⟩:=k3;exact DataW.trod_lt m _ _ _ hm
 have k4:=h4;have lt4:∀x∈p4,x.block<W.heap.size:=by obtain⟨m,hm⟩:=k4;exact DataW.trod_lt m _ _ _ hm
 obtain⟨m0,e0⟩:=h0;obtain⟨m1,e1⟩:=h1;obtain⟨m2,e2⟩:=h2;obtain⟨m3,e3⟩:=h3;obtain⟨m4,e4⟩:=h4;obtain⟨d,hd⟩:=Bb m4 _ _ e4;obtain⟨a0,ha⟩:=dO (F:=cP W) (ρ:=fun _=>none) Tryz.underlying3 e1;obtain⟨b0,hb⟩:=dO (F:=cP W) (ρ:=fun _=>none) Tryz.underlying3 e2;obtain⟨c0,hc⟩:=dO (F:=cP W) (ρ:=fun _=>none) Tryz.underlying3 e3;have hw0:∀k∈d0.weights Tryz.prog 50,k≤reachBytes:=by
  intro k hk;have:=List.all_eq_true.1 hwt k (by simp only[List.append_nil];exact jF (i:=0) (t:=50) (d:=d0) rfl rfl k hk)
  simpa using this
 obtain⟨r,hsh,hr⟩:=Fy m0 _ _ hw0 e0;obtain⟨xs0,rfl⟩:∃cs,v0=.agg cs:=by have:=hval 0 50 v0 rfl rfl;unfold Value.okWide at this;rw[Tryz.underlying50] at this;obtain⟨cs,h,_⟩:=this;exact⟨cs,h⟩
 obtain⟨xs4,rfl⟩:∃cs,v4=.agg cs:=by have:=hval 4 30 v4 rfl rfl;unfold Value.okWide at this;rw[Tryz.underlying30] at this;obtain⟨cs,h,_⟩:=this;exact⟨cs,h⟩
 have int1:∀(n:Int) (v:Value),Value.okWide Tryz.prog W .any base 3 v→RelL (cP W) (fun _=>none) [.int .i64 n] v.cells.toList→Rel (cP W) (fun _=>none) (.int .i64 n) v:=by intro n v hv h;have:=hv;unfold Value.okWide at this;rw[Tryz.underlying3] at this;obtain⟨k',m,rfl⟩:∃k' m,v=.int k' m:=(by cases v<;>first|exact⟨_,_,rfl⟩|exact(show False from this).elim);simp only[RelL] at h;obtain⟨y,ys,e,hy,rfl⟩:=h;simp only[Value.cells] at e;cases e;exact hy
 have hrel:RelL (cP W) (fun _=>none) [.ag (bN r),.int .i64 a0,.int .i64 b0,.int .i64 c0,.ag (aJ d)] (#[Value.agg xs0,v1,v2,v3,.agg xs4]:Array Value).toList:=by refine .cons (by rw[Rel];exact⟨xs0,rfl,hr⟩) ?_;refine .cons (int1 a0 v1 (hval 1 3 v1 rfl rfl) ha) ?_;refine .cons (int1 b0 v2 (hval 2 3 v2 rfl rfl) hb) ?_;refine .cons (int1 c0 v3 (hval 3 3 v3 rfl rfl) hc) ?_;exact .one (by rw[Rel];exact⟨xs4,rfl,hd⟩)
 clear hA0 hval0;refine(f4 ΓT xok Bv G r a0 b0 c0 d hsh (cP W) W _ (xB hL) (Bn W) hrel).mono ?_;rintro e W' ⟨F',x,rfl,_,_,_,hx,hfr⟩;simp only[Rel] at hx;subst hx;have bel:=hfr.below;exact⟨_,rfl,_,_,_,[],_,[],hW',trodAll_mk1 (shut_bool Tryz.underlying4 _),(trodAll_cons_mk (Below.trod oI (by kernel_rfl) (of_decide_eq_true (by kernel_rfl)) k0 bel lt0) (trodAll_cons_mk (Below.trod oI (by kernel_rfl) (of_decide_eq_true (by kernel_rfl)) k1 bel lt1) (trodAll_cons_mk (Below.trod oI (by kernel_rfl) (of_decide_eq_true (by kernel_rfl)) k2 bel lt2) (trodAll_cons_mk (Below.trod oI (by kernel_rfl) (of_decide_eq_true (by kernel_rfl)) k3 bel lt3) (trodAll_cons_mk (Below.trod oI (by kernel_rfl) (of_decide_eq_true (by kernel_rfl)) k4 bel lt4) trodAll_mk0))))),rfl,bel.frame _,fun h=>by cases h⟩
end Go.Proofs.YtkfjenbfbendhaaGreatDoor
end
