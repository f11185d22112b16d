/-
  A part of a proof: R6 S6 A1 A2.
-/
import Derived.Test.YtkfjenbfbendhaaGreatDoorLk08
import Derived.Test.YtkfjenbfbendhaaGreatDoorLk09
set_option linter.unusedSimpArgs false
set_option linter.unusedVariables false
section
namespace Go.V
open Go Go.Proofs
@[simp] theorem B0 (N:Nat)(a b:List Val):aa N (a++b)=(aa N a&&aa N b):=by
 induction a with
 |nil=>simp[aa]
 |cons x a ih=>simp only[List.cons_append,aa,ih,Bool.and_assoc]
attribute [simp] aw bT
@[simp] theorem Cp (N:Nat)(p:Int×Int):aa N (bx p)=true:=rfl
@[simp] theorem AE (p:Int×Int):aE (bx p)=true:=rfl
@[simp] theorem BV (p:Int×Int):ai (bx p)=true:=rfl
mutual
def au (τ:Nat→Nat):Val→Val
 |.pr i o=>.pr (τ i) o
 |.so i o n c=>.so (τ i) o n c
 |.mp i=>.mp (τ i)
 |.pp cs=>.pp (bu τ cs)
 |.sl cs n c=>.sl (bu τ cs) n c
 |.fn f us cs=>.fn f (bu τ us) (bu τ cs)
 |.ifc t v=>.ifc t (au τ v)
 |.ag cs=>.ag (bu τ cs)
 |.tp cs=>.tp (bu τ cs)
 |v=>v
def bu (τ:Nat→Nat):List Val→List Val
 |[]=>[]
 |v::vs=>au τ v::bu τ vs
end
def b9 (τ:Nat→Nat):Blk→Blk
 |.cells cs t o=>.cells (bu τ cs) t o
 |.map es=>.map (es.map fun e=>(au τ e.1,au τ e.2))
def bF (τ:Nat→Nat)(h:Heap):Heap:=h.map fun p=>(τ p.1,b9 τ p.2)
mutual
theorem cg (τ:Nat→Nat):∀v:Val,v.closed=true→au τ v=v
 |.bool _,_|.int _ _,_|.str _,_|.nilp,_|.nils,_|.nilm,_|.nilf,_|.nili,_|.sle,_|.jk _,_=>by simp[au]
 |.pp cs,h=>by simp only[Val.closed,au] at *;rw[aJ τ cs h]
 |.pr _ _,h=>by simp[Val.closed] at h
 |.so _ _ _ _,h=>by simp[Val.closed] at h
 |.mp _,h=>by simp[Val.closed] at h
 |.sl cs _ _,h=>by simp only[Val.closed,au] at *;rw[aJ τ cs h]
 |.fn _ us cs,h=>by simp only[Val.closed,au,Bool.and_eq_true] at *;rw[aJ τ us h.1,aJ τ cs h.2]
 |.ifc _ v,h=>by simp only[Val.closed,au] at *;rw[cg τ v h]
 |.ag cs,h=>by simp only[Val.closed,au] at *;rw[aJ τ cs h]
 |.tp cs,h=>by simp only[Val.closed,au] at *;rw[aJ τ cs h]
theorem aJ (τ:Nat→Nat):∀l:List Val,aE l=true→bu τ l=l
 |[],_=>rfl
 |v::l,h=>by simp only[aE,bu,Bool.and_eq_true] at *;rw[cg τ v h.1,aJ τ l h.2]
end
theorem eA (τ:Nat→Nat):∀l:List Val,(bu τ l).length=l.length
 |[]=>rfl
 |v::l=>by simp[bu,eA τ l]
theorem xP (τ:Nat→Nat){v:Val}(h:v.flat=true):au τ v=v:=by
 have key:∀v:Val,v.flat=true→v.closed=true:=by
  intro v
  exact Val.rec (motive_1:=fun v=>v.flat=true→v.closed=true) (motive_2:=fun l=>kA l=true→aE l=true)
   (fun _ _=>rfl) (fun _ _ _=>rfl) (fun _ _=>rfl) (fun _=>rfl) (fun _=>rfl) (fun _=>rfl) (fun _=>rfl) (fun _=>rfl)
   (fun cs _ h=>by simp[Val.flat] at h) (fun _ _ h=>by simp[Val.flat] at h) (fun _ _ _ _ h=>by simp[Val.flat] at h) (fun _ _=>rfl) (fun _=>rfl) (fun _ _ _ _ h=>by simp[Val.flat] at h) (fun _ h=>by simp[Val.flat] at h)
   (fun _ us cs h1 h2 h=>by simp only[Val.flat,Val.closed,Bool.and_eq_true] at *;exact⟨h1 h.1,h2 h.2⟩)
   (fun _ v h1 h=>by simp only[Val.flat,Val.closed] at *;exact h1 h)
   (fun cs h1 h=>by simp only[Val.flat,Val.closed] at *;exact h1 h)
   (fun cs h1 h=>by simp only[Val.flat,Val.closed] at *;exact h1 h)
   (fun _=>rfl) (fun v l h1 h2 h=>by simp only[kA,aE,Bool.and_eq_true] at *;exact⟨h1 h.1,h2 h.2⟩) v
 exact cg τ v (key v h)
section
variable {F:Fro}
mutual
theorem Rel.ren {ρa ρb:Pl}{τ:Nat→Nat}(hτ:∀i L,ρa i=some L→ρb (τ i)=some L):∀(v:Val)(x:Value),Rel F ρa v x→Rel F ρb (au τ v) x
 |.bool _,_,h|.int _ _,_,h|.str _,_,h|.nilp,_,h|.nils,_,h|.nilm,_,h|.nilf,_,h|.nili,_,h|.sle,_,h|.jk _,_,h=>by simpa[Rel,au] using h
 |.pp cs,x,h=>by
  simp only[Rel,au] at *
  obtain⟨b,o,c,h1,h2,h3⟩:=h
  exact⟨b,o,c,h1,h2,by rw[eA];exact RelL.ren hτ _ _ h3⟩
 |.pr id off,x,h=>by
  simp only[Rel,au] at *
  obtain⟨L,h1,h2⟩:=h
  exact⟨L,hτ _ _ h1,h2⟩
 |.so id off n cap,x,h=>by
  simp only[Rel,au] at *
  obtain⟨L,k,h1,h2⟩:=h
  exact⟨L,k,hτ _ _ h1,h2⟩
 |.mp id,x,h=>by
  simp only[Rel,au] at *
  obtain⟨L,h1,h2⟩:=h
  exact⟨L,hτ _ _ h1,h2⟩
 |.sl cs n cap,x,h=>by
  simp only[Rel,au] at *
  rcases h with ⟨h1,h2,h3,h4⟩|⟨b,o,c,k,h1,h2,h3,h4,h5⟩
  ·
   subst h3;exact .inl ⟨h1,h2,rfl,h4⟩
  ·
   exact .inr ⟨b,o,c,k,h1,h2,h3,h4,by rw[eA];exact RelL.ren hτ _ _ h5⟩
 |.fn f us0 cs,x,h=>by
  simp only[Rel,au] at *
  obtain⟨us,vs,h1,h2,h3⟩:=h
  exact⟨us,vs,h1,RelL.ren hτ _ _ h2,RelL.ren hτ _ _ h3⟩
 |.ifc t v,x,h=>by
  simp only[Rel,au] at *
  obtain⟨y,h1,h2⟩:=h
  exact⟨y,h1,Rel.ren hτ _ _ h2⟩
 |.ag cs,x,h=>by
  simp only[Rel,au] at *
  obtain⟨vs,h1,h2⟩:=h
  exact⟨vs,h1,RelL.ren hτ _ _ h2⟩
 |.tp cs,x,h=>by
  simp only[Rel,au] at *
  obtain⟨vs,h1,h2⟩:=h
  exact⟨vs,h1,RelL.ren hτ _ _ h2⟩
theorem RelL.ren {ρa ρb:Pl}{τ:Nat→Nat}(hτ:∀i L,ρa i=some L→ρb (τ i)=some L):∀(vs:List Val)(xs:List Value),RelL F ρa vs xs→RelL F ρb (bu τ vs) xs
 |[],_,h=>by simpa[RelL,bu] using h
 |v::vs,xs,h=>by
  simp only[RelL,bu] at *
  obtain⟨y,ys,h1,h2,h3⟩:=h
  exact⟨y,ys,h1,Rel.ren hτ _ _ h2,RelL.ren hτ _ _ h3⟩
end
mutual
theorem Rel.unren {ρa ρb:Pl}{τ:Nat→Nat}{M:Nat}(hτ:∀i L,i<M→ρb (τ i)=some L→ρa i=some L):∀(v:Val)(x:Value),aR M v=true→Rel F ρb (au τ v) x→Rel F ρa v x
 |.bool _,_,_,h|.int _ _,_,_,h|.str _,_,_,h|.nilp,_,_,h|.nils,_,_,h|.nilm,_,_,h|.nilf,_,_,h|.nili,_,_,h|.sle,_,_,h|.jk _,_,_,h=>by simpa[Rel,au] using h
 |.pp cs,x,l,h=>by
  simp only[Rel,au,aR] at *
  obtain⟨b,o,c,h1,h2,h3⟩:=h
  rw[eA] at h3
  exact⟨b,o,c,h1,h2,RelL.unren hτ _ _ l h3⟩
 |.pr id off,x,l,h=>by
  simp only[Rel,au,aR,decide_eq_true_eq] at *
  obtain⟨L,h1,h2⟩:=h
  exact⟨L,hτ _ _ l h1,h2⟩
 |.so id off n cap,x,l,h=>by
  simp only[Rel,au,aR,decide_eq_true_eq] at *
  obtain⟨L,k,h1,h2⟩:=h
  exact⟨L,k,hτ _ _ l h1,h2⟩
 |.mp id,x,l,h=>by
  simp only[Rel,au,aR,decide_eq_true_eq] at *
  obtain⟨L,h1,h2⟩:=h
  exact⟨L,hτ _ _ l h1,h2⟩
 |.sl cs n cap,x,l,h=>by
  simp only[Rel,au,aR] at *
  rcases h with ⟨h1,h2,h3,h4⟩|⟨b,o,c,k,h1,h2,h3,h4,h5⟩
  ·
   refine .inl ⟨h1,h2,?_,h4⟩
   cases cs with
   |nil=>rfl
   |cons v cs=>simp[bu] at h3
  ·
   rw[eA] at h5
   exact .inr ⟨b,o,c,k,h1,h2,h3,h4,RelL.unren hτ _ _ l h5⟩
 |.fn f us0 cs,x,l,h=>by
  simp only[Rel,au,aR,Bool.and_eq_true] at *
  obtain⟨us,vs,h1,h2,h3⟩:=h
  exact⟨us,vs,h1,RelL.unren hτ _ _ l.1 h2,RelL.unren hτ _ _ l.2 h3⟩
 |.ifc t v,x,l,h=>by
  simp only[Rel,au,aR] at *
  obtain⟨y,h1,h2⟩:=h
  exact⟨y,h1,Rel.unren hτ _ _ l h2⟩
 |.ag cs,x,l,h=>by
  simp only[Rel,au,aR] at *
  obtain⟨vs,h1,h2⟩:=h
  exact⟨vs,h1,RelL.unren hτ _ _ l h2⟩
 |.tp cs,x,l,h=>by
  simp only[Rel,au,aR] at *
  obtain⟨vs,h1,h2⟩:=h
  exact⟨vs,h1,RelL.unren hτ _ _ l h2⟩
theorem RelL.unren {ρa ρb:Pl}{τ:Nat→Nat}{M:Nat}(hτ:∀i L,i<M→ρb (τ i)=some L→ρa i=some L):∀(vs:List Val)(xs:List Value),aa M vs=true→RelL F ρb (bu τ vs) xs→RelL F ρa vs xs
 |[],_,_,h=>by simpa[RelL,bu] using h
 |v::vs,xs,l,h=>by
  simp only[RelL,bu,aa,Bool.and_eq_true] at *
  obtain⟨y,ys,h1,h2,h3⟩:=h
  exact⟨y,ys,h1,Rel.unren hτ _ _ l.1 h2,RelL.unren hτ _ _ l.2 h3⟩
end
theorem MapRel.ren {ρa ρb:Pl}{τ:Nat→Nat}(hτ:∀i L,ρa i=some L→ρb (τ i)=some L):∀(es:List (Val×Val))(xs:List MapEntry),MapRel F ρa es xs→MapRel F ρb (es.map fun e=>(au τ e.1,au τ e.2)) xs
 |[],_,h=>h
 |(k,v)::es,xs,h=>by
  obtain⟨y,ys,h1,h2,h3,h4,h5⟩:=h
  exact⟨y,ys,h1,Rel.ren hτ _ _ h2,by rw[xP τ h3];exact h3,Rel.ren hτ _ _ h4,MapRel.ren hτ es ys h5⟩
theorem MapRel.unren {ρa ρb:Pl}{τ:Nat→Nat}{M:Nat}(hτ:∀i L,i<M→ρb (τ i)=some L→ρa i=some L):∀(es:List (Val×Val))(xs:List MapEntry),(es.all fun e=>e.1.flat&&aR M e.1&&aR M e.2)=true→MapRel F ρb (es.map fun e=>(au τ e.1,au τ e.2)) xs→MapRel F ρa es xs
 |[],_,_,h=>h
 |(k,v)::es,xs,l,h=>by
  simp only[List.all_cons,Bool.and_eq_true] at l
  obtain⟨y,ys,h1,h2,h3,h4,h5⟩:=h
  exact⟨y,ys,h1,Rel.unren hτ _ _ l.1.1.2 h2,l.1.1.1,Rel.unren hτ _ _ l.1.2 h4,MapRel.unren hτ es ys l.2 h5⟩
end
def fU (M:Nat):Blk→Bool
 |.cells cs _ _=>aa M cs
 |.map es=>es.all fun e=>e.1.flat&&aR M e.1&&aR M e.2
def cm (M:Nat)(h:Heap):Bool:=h.all fun p=>decide (p.1<M)&&fU M p.2
theorem mC {M:Nat}:∀{h:Heap},cm M h=true→∀{i:Nat}{b:Blk},get h i=some b→i<M∧fU M b=true
 |[],_,i,b,hg=>by simp[get] at hg
 |(k,c)::r,hl,i,b,hg=>by
  simp only[cm,List.all_cons,Bool.and_eq_true,decide_eq_true_eq] at hl
  simp only[get] at hg
  split at hg
  ·
   rename_i e
   cases hg
   exact⟨e ▸ hl.1.1,hl.1.2⟩
  ·
   exact mC (h:=r) (by unfold cm;simpa using hl.2) hg
theorem yQ {τ:Nat→Nat}{h:Heap}(hinj:∀i j,(get h i).isSome→(get h j).isSome→τ i=τ j→i=j){i:Nat}{b:Blk}(hg:get h i=some b):get (bF τ h) (τ i)=some (b9 τ b):=by
 have key:∀g:Heap,(∀j,(get g j).isSome→τ i=τ j→i=j)→get g i=some b→get (bF τ g) (τ i)=some (b9 τ b):=by
  intro g
  induction g with
  |nil=>intro _ hg;simp[get] at hg
  |cons p r ih=>
   obtain⟨k,c⟩:=p
   intro hj hg2
   simp only[get] at hg2
   simp only[bF,List.map_cons,get]
   split at hg2
   ·
    rename_i e;subst e;simp only[Option.some.injEq] at hg2;subst hg2;simp
   ·
    rename_i e
    have e':¬τ k=τ i:=fun e'=>e (hj k (by simp[get]) e'.symm).symm
    rw[if_neg e']
    refine ih (fun j hj'=>hj j ?_) hg2
    simp only[get]
    split<;>simp_all
 exact key h (fun j hj e=>hinj i j (by simp[hg]) hj e) hg
theorem jU {τ:Nat→Nat}:∀{h:Heap}{j:Nat}{c:Blk},get (bF τ h) j=some c→∃p∈h,τ p.1=j∧c=b9 τ p.2∧True
 |[],j,c,hg=>by simp[bF,get] at hg
 |(k,b)::r,j,c,hg=>by
  simp only[bF,List.map_cons,get] at hg
  split at hg
  ·
   rename_i e;cases hg;exact⟨(k,b),by simp,e,rfl,trivial⟩
  ·
   obtain⟨p,h1,h2⟩:=jU (h:=r) hg
   exact⟨p,by simp[h1],h2⟩
def tau (l:List Nat)(N:Nat)(i:Nat):Nat:=if i<l.length then l.getD i 0 else i-l.length+N
def dZ (h:Heap):Bool:=decide (h.map (·.1)).Nodup
theorem pB {h:Heap}(hn:(h.map (·.1)).Nodup){p:Nat×Blk}(hp:p∈h):get h p.1=some p.2:=by
 induction h with
 |nil=>cases hp
 |cons q r ih=>
  obtain⟨k,c⟩:=q
  simp only[List.map_cons,List.nodup_cons] at hn
  simp only[get]
  rcases List.mem_cons.1 hp with rfl|hp
  ·
   simp
  ·
   rw[if_neg (fun e=>hn.1 (by rw[e];exact List.mem_map.2 ⟨p,hp,rfl⟩)),ih hn.2 hp]
theorem CallOk.ren {P:Program}{Γ:Glo P}{f:FuncId}{vs:List Val}{hs h2:Heap}{M M':Nat}{r:Val}(l:List Nat)(N:Nat)(hk:CallOk P Γ f vs hs M true r h2 M')(hM:l.length=M)(hl:(aa M vs&&cm M hs)=true)(hnd:l.Nodup)(hko:dZ h2=true) :
  CallOk P Γ f (bu (tau l N) vs) (bF (tau l N) hs) N true (au (tau l N) r) (bF (tau l N) h2) (M'-M+N):=by
 subst hM
 rw[Bool.and_eq_true] at hl
 obtain⟨hl1,hl2⟩:=hl
 have hMM:=hk.1
 refine⟨by omega,fun F ρ w0 O w xs hG m hf hv=>?_⟩
 have hin:∀i,i<l.length→tau l N i=l.getD i 0:=fun i hi=>if_pos hi
 have hout:∀i,l.length≤i→tau l N i=i-l.length+N:=fun i hi=>if_neg (by omega)
 have hinj0:∀i j,i<l.length→j<l.length→tau l N i=tau l N j→i=j:=by
  intro i j hi hj e
  rw[hin i hi,hin j hj] at e
  simp only[List.getD_eq_getElem?_getD,List.getElem?_eq_getElem hi,List.getElem?_eq_getElem hj,Option.getD_some] at e
  exact(List.getElem_inj hnd).1 e
 let ρ1:Pl:=fun i=>if i<l.length then ρ (tau l N i) else none
 have hρ1:∀i L,i<l.length→ρ (tau l N i)=some L→ρ1 i=some L:=fun i L hi h=>by show(if i<l.length then _ else _)=_;rw[if_pos hi];exact h
 have hρ1':∀i L,ρ1 i=some L→i<l.length∧ρ (tau l N i)=some L:=by
  intro i L h
  have h':(if i<l.length then ρ (tau l N i) else none)=some L:=h
  split at h'
  ·
   exact⟨‹_›,h'⟩
  ·
   cases h'
 have hkey:∀i b,get hs i=some b→i<l.length∧fU l.length b=true∧get (bF (tau l N) hs) (tau l N i)=some (b9 (tau l N) b):=by
  intro i b hg
  obtain⟨q1,q2⟩:=mC hl2 hg
  refine⟨q1,q2,yQ ?_ hg⟩
  intro i j hi hj e
  cases h1:get hs i with
  |none=>simp[h1] at hi
  |some b1=>
   cases h2:get hs j with
   |none=>simp[h2] at hj
   |some b2=>exact hinj0 i j (mC hl2 h1).1 (mC hl2 h2).1 e
 have hm1:Mem P F ρ1 hs w0 O w:=by
  refine⟨m.fro,fun i blk hg=>?_,fun i j Li Lj hi hj hLi hLj hbb=>?_,fun i L hi hL=>?_,m.fr⟩
  ·
   obtain⟨q1,q2,q3⟩:=hkey i blk hg
   obtain⟨L,x,p1,p2,p3,p4⟩:=m.own _ _ q3
   refine⟨L,x,hρ1 i L q1 p1,p2,p3,?_⟩
   cases blk with
   |cells cs t o=>
    obtain⟨c,g1,g2,g3,g4,g5⟩:=p4
    simp only[fU] at q2
    rw[eA] at g4 g5
    exact⟨c,g1,g2,g3,RelL.unren (fun i L hi h=>hρ1 i L hi h) _ _ q2 g4,g5⟩
   |map es=>
    obtain⟨ents,clock,g1,g2,hborn⟩:=p4
    exact⟨ents,clock,g1,MapRel.unren (fun i L hi h=>hρ1 i L hi h) _ _ q2 g2,hborn⟩
  ·
   cases h1:get hs i with
   |none=>simp[h1] at hi
   |some b1=>
    cases h2:get hs j with
    |none=>simp[h2] at hj
    |some b2=>
     obtain⟨a1,_,a3⟩:=hkey i b1 h1
     obtain⟨c1,_,c3⟩:=hkey j b2 h2
     exact hinj0 i j a1 c1 (m.inj _ _ Li Lj (by simp[a3]) (by simp[c3]) (hρ1' i Li hLi).2 (hρ1' j Lj hLj).2 hbb)
  ·
   cases h1:get hs i with
   |none=>simp[h1] at hi
   |some b1=>
    obtain⟨_,_,a3⟩:=hkey i b1 h1
    exact m.ours _ L (by simp[a3]) (hρ1' i L hL).2
 refine Calls.mono (hk.2 F ρ1 w0 O w xs hG hm1 (fun i hi _=>by show(if i<l.length then _ else _)=_;rw[if_neg (by omega)]) (RelL.unren (fun i L hi h=>hρ1 i L hi h) _ _ hl1 hv)) ?_
 rintro e w' ⟨F',ρ',x,h1,hx,h3,h4⟩
 let ρ2:Pl:=fun i=>if N≤i∧i<M'-l.length+N then ρ' (i-N+l.length) else ρ i
 have hτ:∀i L,ρ' i=some L→ρ2 (tau l N i)=some L:=by
  intro i L hi
  show(if N≤tau l N i∧tau l N i<M'-l.length+N then ρ' (tau l N i-N+l.length) else ρ (tau l N i))=some L
  by_cases hc:i<l.length
  ·
   rw[hx.out i (by omega)] at hi
   obtain⟨_,hi'⟩:=hρ1' i L hi
   have hlt:¬N≤tau l N i:=by
    intro hle
    rw[hf _ hle (.inl rfl)] at hi'
    cases hi'
   rw[if_neg (fun h=>hlt h.1)]
   exact hi'
  ·
   by_cases hc2:i<M'
   ·
    rw[hout i (by omega),if_pos (by omega),show i-l.length+N-N+l.length=i by omega]
    exact hi
   ·
    rw[hx.out i (by omega)] at hi
    exact absurd (hρ1' i L hi).1 hc
 have hext:Ext F F' ρ ρ2 w0 O N (M'-l.length+N):=by
  refine⟨hx.f,fun i L hi=>?_,hx.new,fun i hi=>if_neg hi⟩
  show(if N≤i∧i<M'-l.length+N then ρ' (i-N+l.length) else ρ i)=some L
  by_cases hc:N≤i∧i<M'-l.length+N
  ·
   rw[hf i hc.1 (.inl rfl)] at hi;cases hi
  ·
   rw[if_neg hc];exact hi
 have hn2:(h2.map (·.1)).Nodup:=by simpa[dZ] using hko
 have hinj2:∀i j Li Lj,(get h2 i).isSome→(get h2 j).isSome→ρ' i=some Li→ρ' j=some Lj→tau l N i=tau l N j→i=j:=by
  intro i j Li Lj hi hj hLi hLj e
  have h5:=hτ i Li hLi
  have h6:=hτ j Lj hLj
  rw[e,h6] at h5
  cases h5
  exact h4.inj i j Li Li hi hj hLi hLj rfl
 have hm2:Mem P F' ρ2 (bF (tau l N) h2) w0 O w':=by
  have back:∀j c,get (bF (tau l N) h2) j=some c→∃i b L x,get h2 i=some b∧j=tau l N i∧c=b9 (tau l N) b∧ρ' i=some L∧F' L.b=none∧w'.heap[L.b]?=some x∧BRel P F' ρ' L b x:=by
   intro j c hg
   obtain⟨p,hp,q1,q2,_⟩:=jU hg
   have hg2:=pB hn2 hp
   obtain⟨L,x,a1,a2,a3,a4⟩:=h4.own _ _ hg2
   exact⟨p.1,p.2,L,x,hg2,q1.symm,q2,a1,a2,a3,a4⟩
  refine⟨h4.fro,fun j c hg=>?_,fun j j' Lj Lj' hj hj' hLj hLj' hbb=>?_,fun j L hj hL=>?_,h4.fr⟩
  ·
   obtain⟨i,b,L,x,a1,rfl,rfl,a4,a5,a6,a7⟩:=back j c hg
   refine⟨L,x,hτ i L a4,a5,a6,?_⟩
   cases b with
   |cells cs t o=>
    obtain⟨c,g1,g2,g3,g4,g5⟩:=a7
    refine⟨c,g1,g2,g3,?_,by rw[eA];exact g5⟩
    rw[eA]
    exact RelL.ren hτ _ _ g4
   |map es=>
    obtain⟨ents,clock,g1,g2,hborn⟩:=a7
    exact⟨ents,clock,g1,MapRel.ren hτ _ _ g2,hborn⟩
  ·
   cases h1:get (bF (tau l N) h2) j with
   |none=>simp[h1] at hj
   |some c=>
    cases h2':get (bF (tau l N) h2) j' with
    |none=>simp[h2'] at hj'
    |some c'=>
     obtain⟨i,b,L,x,a1,rfl,_,a4,_⟩:=back j c h1
     obtain⟨i',b',L',x',a1',rfl,_,a4',_⟩:=back j' c' h2'
     rw[hτ i L a4] at hLj;cases hLj
     rw[hτ i' L' a4'] at hLj';cases hLj'
     rw[h4.inj i i' _ _ (by simp[a1]) (by simp[a1']) a4 a4' hbb]
  ·
   cases h1:get (bF (tau l N) h2) j with
   |none=>simp[h1] at hj
   |some c=>
    obtain⟨i,b,L',x,a1,rfl,_,a4,_⟩:=back j c h1
    rw[hτ i L' a4] at hL;cases hL
    exact h4.ours i L (by simp[a1]) a4
 exact⟨F',ρ2,x,h1,hext,Rel.ren hτ _ _ h3,hm2⟩
attribute [simp] au bu b9 bF aJ cg tau
end Go.V
end
section
namespace Go.V
open Go Go.Proofs
attribute [local irreducible] W bO aO yl aS bW
theorem qf (d:Doc):iR d=fT d.kids+1:=by cases d;rfl
theorem kN (d:Doc):cr d=cS d.kids+1:=by cases d;rfl
theorem lF:∀(l m:List Doc),fT (l++m)=max (fT l) (fT m)
 |[],m=>by simp[fT]
 |x::l,m=>by
  simp only[List.cons_append,fT,lF l m]
  omega
theorem jd:∀(l m:List Doc),cS (l++m)=cS l+cS m
 |[],m=>by simp[cS]
 |x::l,m=>by
  simp only[List.cons_append,cS,jd l m]
  omega
theorem tD {ds:List Doc}{j:Nat}(h:j<ds.length):fT (ds.take (j+1))=max (fT (ds.take j)) (iR ds[j]):=by
 rw[List.take_succ_eq_append_getElem h,lF]
 simp[fT]
theorem vM {ds:List Doc}{j:Nat}(h:j<ds.length):cS (ds.take (j+1))=cS (ds.take j)+cr ds[j]:=by
 rw[List.take_succ_eq_append_getElem h,jd]
 simp[cS]
theorem uR (ds:List Doc)(j:Nat):cS (ds.take j)+cS (ds.drop j)=cS ds:=by rw[←jd,List.take_append_drop]
theorem xT (d:Doc):0<cr d:=by rw[kN];omega
theorem jY:∀ds:List Doc,ds.length≤cS ds
 |[]=>Nat.zero_le _
 |d::r=>by
  have h1:=jY r
  have h2:=xT d
  simp only[List.length_cons,cS]
  omega
theorem rH {ds:List Doc}{d:Doc}(h:d∈ds):cr d≤cS ds:=by
 induction ds with
 |nil=>cases h
 |cons x ds ih=>
  simp only[cS]
  rcases List.mem_cons.1 h with rfl|h
  ·
   omega
  ·
   have:=ih h;omega
theorem jj (ds:List Doc)(ih:∀d∈ds,iR d≤cr d):fT ds≤cS ds:=by
 induction ds with
 |nil=>exact Nat.zero_le _
 |cons x ds ihd=>
  simp only[cS,fT]
  have h1:=ih x (by simp)
  have h2:=ihd fun d hd=>ih d (by simp[hd])
  omega
theorem lG (d:Doc):iR d≤cr d:=by
 induction d using Doc.ind with
 |h d ih=>
  rw[qf,kN]
  have:=jj d.kids ih
  omega
section
variable (Γ:Glo Tryz.prog)
abbrev big:Nat:=100000000000
theorem f135 (d:Doc)(hb:cr d<big):PureOk Tryz.prog Γ 135 [.ag (aH d)] (.int .i64 (iR d)):=by
 induction d using Doc.ind with
 |h d ih=>
 have hs:=kN d
 have hl':=jY d.kids
 have hdl:=jj d.kids fun x _=>lG x
 simp only[big] at hb ih
 refine iC Tryz.func135 rfl (by simp[Tryz.f135]) ?_
 intro a hl ha
 replace hl:a.length=20:=hl
 have h0:=ha 0 _ rfl
 clear ha
 repeat first|refine ey ?_|refine dX ?_|refine eQ ?_|refine du ?_|simp only[eD,cd,cc]
 refine fb ?_
 refine zg (fun k' a h N=>a.length=20∧(∀i b,V.get [(0,.cells (aH d) 30 false)] i=some b→V.get h i=some b)∧1≤N∧∃j,j+k'=d.kids.length∧
  lk a 3=some (.int .i64 (fT (d.kids.take j)))∧lk a 7=some (sls aH d.kids)∧lk a 8=some (.int .i64 d.kids.length)∧lk a 9=some (.int .i64 j)) ?_ (k:=d.kids.length) ?_
 ·
  rintro k' a h N ⟨hl,hh,hN,j,hj,h3,h7,h8,h9⟩
  clear h0
  obtain⟨m,rfl⟩:∃m,N=m+1:=⟨N-1,by omega⟩
  refine jh hh ?_
  clear hh
  repeat first|refine ey ?_|refine dX ?_|refine eQ ?_|refine du ?_|simp only[eD,cd,cc]
  refine ES (p:=j<d.kids.length) (by simp[*]) ?_ ?_
  ·
   intro hjl
   have hb1:j*5≤d.kids.length*5:=by omega
   have hd:=pV bS d.kids j hjl
   have hm:=List.getElem_mem hjl
   have hz:=rH hm
   repeat first|refine ey ?_|refine fb ?_|refine jp ?_|refine dX ?_|refine eQ ?_|refine du ?_|simp only[eD,cd,cc]
   refine aC (ih d.kids[j] hm (by omega)) ?_
   repeat first|refine ey ?_|refine fb ?_|refine jp ?_|refine dX ?_|refine eQ ?_|refine du ?_|simp only[eD,cN,cd,cc]
   refine⟨k'-1,by omega,by simp[*],?_,by omega,j+1,by omega,?_,by simp[*],by simp[*],?_⟩
   ·
    intro i b hi
    simp[V.get] at hi ⊢
    obtain⟨rfl,rfl⟩:=hi
    rfl
   ·
    simp[*,tD hjl]
    split<;>omega
   ·
    simp[*]
    rw[ad _ (by omega) (by omega)]
  ·
   intro hjl
   have hj:j=d.kids.length:=by omega
   subst hj
   simp only[List.take_length] at h3
   refine re ?_
   simp only[eD,cN,if_true]
   repeat first|refine ey ?_|refine fb ?_|refine jp ?_|refine dX ?_|refine eQ ?_|refine du ?_|simp only[eD,cN,cd,cc]
   refine vf ⟨.inr rfl,.int .i64 (iR d),1,?_,rfl⟩
   simp[*,Tryz.f135,qf]
   rw[ad _ (by omega) (by omega)]
 ·
  refine⟨by simp[*],fun i b hi=>hi,by omega,0,by simp,?_,by simp[*],by simp[*],by simp[*]⟩
  simp[*,fT]
theorem f136 (d:Doc)(hb:cr d<big):PureOk Tryz.prog Γ 136 [.ag (aH d)] (.int .i64 (cr d)):=by
 induction d using Doc.ind with
 |h d ih=>
 have hs:=kN d
 have hl':=jY d.kids
 simp only[big] at hb ih
 refine iC Tryz.func136 rfl (by simp[Tryz.f136]) ?_
 intro a hl ha
 replace hl:a.length=19:=hl
 have h0:=ha 0 _ rfl
 clear ha
 repeat first|refine ey ?_|refine dX ?_|refine eQ ?_|refine du ?_|simp only[eD,cd,cc]
 refine fb ?_
 refine zg (fun k' a h N=>a.length=19∧(∀i b,V.get [(0,.cells (aH d) 30 false)] i=some b→V.get h i=some b)∧1≤N∧∃j,j+k'=d.kids.length∧
  lk a 3=some (.int .i64 (cS (d.kids.take j)+1))∧lk a 7=some (sls aH d.kids)∧lk a 8=some (.int .i64 d.kids.length)∧lk a 9=some (.int .i64 j)) ?_ (k:=d.kids.length) ?_
 ·
  rintro k' a h N ⟨hl,hh,hN,j,hj,h3,h7,h8,h9⟩
  clear h0
  obtain⟨m,rfl⟩:∃m,N=m+1:=⟨N-1,by omega⟩
  refine jh hh ?_
  clear hh
  repeat first|refine ey ?_|refine dX ?_|refine eQ ?_|refine du ?_|simp only[eD,cd,cc]
  refine ES (p:=j<d.kids.length) (by simp[*]) ?_ ?_
  ·
   intro hjl
   have hb1:j*5≤d.kids.length*5:=by omega
   have hd:=pV bS d.kids j hjl
   have hm:=List.getElem_mem hjl
   have hz:=rH hm
   repeat first|refine ey ?_|refine fb ?_|refine jp ?_|refine dX ?_|refine eQ ?_|refine du ?_|simp only[eD,cd,cc]
   refine aC (ih d.kids[j] hm (by omega)) ?_
   repeat first|refine ey ?_|refine fb ?_|refine jp ?_|refine dX ?_|refine eQ ?_|refine du ?_|simp only[eD,cN,cd,cc]
   refine⟨k'-1,by omega,by simp[*],?_,by omega,j+1,by omega,?_,by simp[*],by simp[*],?_⟩
   ·
    intro i b hi
    simp[V.get] at hi ⊢
    obtain⟨rfl,rfl⟩:=hi
    rfl
   ·
    have hsp:=uR d.kids j
    have hsd:cr d.kids[j]≤cS (d.kids.drop j):=by rw[List.drop_eq_getElem_cons hjl];simp only[cS];omega
    simp[*,vM hjl]
    rw[ad _ (by omega) (by omega)]
    omega
   ·
    simp[*]
    rw[ad _ (by omega) (by omega)]
  ·
   intro hjl
   have hj:j=d.kids.length:=by omega
   subst hj
   simp only[List.take_length] at h3
   refine re ?_
   simp only[eD,cN,if_true]
   repeat first|refine ey ?_|refine fb ?_|refine jp ?_|refine dX ?_|refine eQ ?_|refine du ?_|simp only[eD,cN,cd,cc]
   refine vf ⟨.inr rfl,.int .i64 (cr d),1,?_,rfl⟩
   simp[*,Tryz.f136,kN]
 ·
  refine⟨by simp[*],fun i b hi=>hi,by omega,0,by simp,?_,by simp[*],by simp[*],by simp[*]⟩
  simp[*,cS]
end
end Go.V
end
section
set_option maxHeartbeats 4000000
namespace Go.V
open Go Go.Proofs
attribute [local irreducible] W bO WD aO yl aS bW
section
variable (Γ:Glo Tryz.prog)
theorem f143 (n:Int):PureOk Tryz.prog Γ 143 [.int .i64 n] (.bool false):=by
 refine Y1 6 Tryz.func143 rfl rfl fun a hl g0=>?_
 repeat' first|refine G1 ?_|(refine G2 ?_ ?_<;>intro hc hd<;>try exact hd.elim)|fail
 all_goals first|(refine⟨by simp,.bool false,1,?_,rfl⟩;(simp[Tryz.f143, *]<;>grind [List.length_eq_zero_iff]);done)|skip
theorem f144 (s:Str):PureOk Tryz.prog Γ 144 [.str s] (.bool false):=by
 refine Y1 6 Tryz.func144 rfl rfl fun a hl g0=>?_
 repeat' first|refine G1 ?_|(refine G2 ?_ ?_<;>intro hc hd<;>try exact hd.elim)|fail
 all_goals first|(refine⟨by simp,.bool false,1,?_,rfl⟩;(simp[Tryz.f144, *]<;>grind [List.length_eq_zero_iff]);done)|skip
theorem f259 (t:Ty):PureOk Tryz.prog Γ 259 [.ag (cTy t)] (.bool (de t)):=by
 obtain⟨v,hv⟩:∃v,v=de t:=⟨_,rfl⟩
 rw[←hv]
 unfold de at hv
 refine Y1 11 Tryz.func259 rfl rfl fun a hl g0=>?_
 repeat' first|refine G1 ?_|(refine G2 ?_ ?_<;>intro hc hd<;>try exact hd.elim)|fail
 all_goals first|(have e:v=true:=(by grind [List.length_eq_zero_iff,aL,aN,aM,aY]);(try clear hv);(try clear hv2);exact⟨by simp,.bool v,1,by simp[Tryz.f259, *],rfl⟩)|(have e:v=false:=(by grind [List.length_eq_zero_iff,aL,aN,aM,aY]);(try clear hv);(try clear hv2);exact⟨by simp,.bool v,1,by simp[Tryz.f259, *],rfl⟩)|(exact⟨by simp,.bool v,1,(by simp[Tryz.f259, *]<;>grind [List.length_eq_zero_iff,aL,aN,aM]),rfl⟩)
theorem f274 (t:Ty)(d:Doc):PureOk Tryz.prog Γ 274 [.ag (cTy t),.ag (aH d)] (.bool (decide (if t.kind=7 then d.kind=6 else t.kind=d.kind))):=by
 obtain⟨v,hv⟩:∃v,v=decide (if t.kind=7 then d.kind=6 else t.kind=d.kind):=⟨_,rfl⟩
 rw[←hv]
 refine Y2 16 Tryz.func274 rfl rfl fun a hl g0 g1=>?_
 repeat' first|refine G1 ?_|(refine G2 ?_ ?_<;>intro hc hd<;>try exact hd.elim)|fail
 all_goals first|(refine⟨by simp,.bool v,1,?_,rfl⟩;(simp[Tryz.f274, *]<;>grind [List.length_eq_zero_iff]);done)|skip
theorem f275 (n:Int)(t:Ty):PureOk Tryz.prog Γ 275 [.int .i64 n,.ag (cTy t)] (.int .i64 (if n<t.lo∨t.hi<n then 8 else 0)):=by
 obtain⟨v,hv⟩:∃v:Int,v=if n<t.lo∨t.hi<n then 8 else 0:=⟨_,rfl⟩
 rw[←hv]
 refine Y2 15 Tryz.func275 rfl rfl fun a hl g0 g1=>?_
 repeat' first|refine G1 ?_|(refine G2 ?_ ?_<;>intro hc hd<;>try exact hd.elim)|fail
 all_goals first|(have e:v=0:=(by grind [List.length_eq_zero_iff,aL,aN,aM,aY]);(try clear hv);(try clear hv2);exact⟨by simp,.int .i64 v,1,by simp[Tryz.f275, *],rfl⟩)|(have e:v=8:=(by grind [List.length_eq_zero_iff,aL,aN,aM,aY]);(try clear hv);(try clear hv2);exact⟨by simp,.int .i64 v,1,by simp[Tryz.f275, *],rfl⟩)|(exact⟨by simp,.int .i64 v,1,(by simp[Tryz.f275, *]<;>grind [List.length_eq_zero_iff,aL,aN,aM]),rfl⟩)
theorem f82 (x y:Int):PureOk Tryz.prog Γ 82 [.int .i64 x,.int .i64 y] (.int .i64 (cmpI x y)):=by
 obtain⟨v,hv⟩:∃v,v=cmpI x y:=⟨_,rfl⟩
 rw[←hv]
 unfold cmpI at hv
 refine Y2 20 Tryz.func82 rfl rfl fun a hl g0 g1=>?_
 repeat' first|refine G1 ?_|(refine G2 ?_ ?_<;>intro hc hd<;>try exact hd.elim)|fail
 refine aC (f143 Γ x) ?_
 repeat' first|refine G1 ?_|(refine G2 ?_ ?_<;>intro hc hd<;>try exact hd.elim)|fail
 refine aC (f143 Γ y) ?_
 repeat' first|refine G1 ?_|(refine G2 ?_ ?_<;>intro hc hd<;>try exact hd.elim)|fail
 all_goals first|(have e:v=0:=(by grind [List.length_eq_zero_iff,aL,aN,aM,aY]);(try clear hv);(try clear hv2);exact⟨by simp,.int .i64 v,1,by simp[Tryz.f82, *],rfl⟩)|(have e:v=1:=(by grind [List.length_eq_zero_iff,aL,aN,aM,aY]);(try clear hv);(try clear hv2);exact⟨by simp,.int .i64 v,1,by simp[Tryz.f82, *],rfl⟩)|(have e:v=(-1):=(by grind [List.length_eq_zero_iff,aL,aN,aM,aY]);(try clear hv);(try clear hv2);exact⟨by simp,.int .i64 v,1,by simp[Tryz.f82, *],rfl⟩)|(exact⟨by simp,.int .i64 v,1,(by simp[Tryz.f82, *]<;>grind [List.length_eq_zero_iff,aL,aN,aM]),rfl⟩)
theorem f83 (x y:Str):PureOk Tryz.prog Γ 83 [.str x,.str y] (.int .i64 (cmpS x y)):=by
 obtain⟨v,hv⟩:∃v,v=cmpS x y:=⟨_,rfl⟩
 rw[←hv]
 unfold cmpS at hv
 refine Y2 20 Tryz.func83 rfl rfl fun a hl g0 g1=>?_
 repeat' first|refine G1 ?_|(refine G2 ?_ ?_<;>intro hc hd<;>try exact hd.elim)|fail
 refine aC (f144 Γ x) ?_
 repeat' first|refine G1 ?_|(refine G2 ?_ ?_<;>intro hc hd<;>try exact hd.elim)|fail
 refine aC (f144 Γ y) ?_
 repeat' first|refine G1 ?_|(refine G2 ?_ ?_<;>intro hc hd<;>try exact hd.elim)|fail
 all_goals first|(have e:v=0:=(by grind [List.length_eq_zero_iff,aL,aN,aM,aY]);(try clear hv);(try clear hv2);exact⟨by simp,.int .i64 v,1,by simp[Tryz.f83, *],rfl⟩)|(have e:v=1:=(by grind [List.length_eq_zero_iff,aL,aN,aM,aY]);(try clear hv);(try clear hv2);exact⟨by simp,.int .i64 v,1,by simp[Tryz.f83, *],rfl⟩)|(have e:v=(-1):=(by grind [List.length_eq_zero_iff,aL,aN,aM,aY]);(try clear hv);(try clear hv2);exact⟨by simp,.int .i64 v,1,by simp[Tryz.f83, *],rfl⟩)|(exact⟨by simp,.int .i64 v,1,(by simp[Tryz.f83, *]<;>grind [List.length_eq_zero_iff,aL,aN,aM]),rfl⟩)
theorem f81 (l:List Int)(hl:l.length<big):PureOk Tryz.prog Γ 81 [sls bv l] (.int .i64 (l.foldr orI 0)):=by
 simp only[big] at hl
 have hb:=hl
 obtain⟨v,hv⟩:∃v,v=l.foldr orI 0:=⟨_,rfl⟩
 rw[←hv]
 refine Y1 18 Tryz.func81 rfl rfl fun a hl g0=>?_
 repeat' first|refine G1 ?_|(refine G2 ?_ ?_<;>intro hc hd<;>try exact hd.elim)|fail
 refine am [(2,2),(5,5),(9,16)] [8] (fun k a h=>h=[]∧∃pre rest,l=pre++rest∧k=rest.length∧lk a 8=some (.int .i64 pre.length)∧v=rest.foldr orI 0) ⟨rfl,[],l,rfl,rfl,by simp[*],hv⟩ ?_
 intro a1 hk hk0 k a h hF hI
 replace g3:=hF.a hk 3
 replace g6:=hF.a hk 6
 replace g7:=hF.a hk 7
 replace hl:a.length=18:=hF.len.trans (hk0.trans (by simp[*]))
 clear hk hk0
 obtain⟨rfl,pre,rest,rfl,rfl,h8,hv⟩:=hI
 cases rest with
 |nil=>
  simp at hv
  repeat' first|refine G1 ?_|(refine G2 ?_ ?_<;>intro hc hd<;>try exact hd.elim)|fail
  all_goals first|(refine⟨by simp,.int .i64 v,1,?_,rfl⟩;(simp[Tryz.f81, *]<;>grind [List.length_eq_zero_iff]);done)|skip
 |cons c r=>
  have hlt:(pre.length:Int)<pre.length+(r.length+1):=by omega
  have hw:=ad ((pre.length:Int)+1) (by simp at hb;omega) (by simp at hb;omega)
  have hv2:v=if c=0 then r.foldr orI 0 else c:=hv
  clear hv
  repeat' first|refine G1 ?_|(refine G2 ?_ ?_<;>intro hc hd<;>try exact hd.elim)|fail
  ·
   (have e:v=c:=(by grind [List.length_eq_zero_iff,aL,aN,aM,aY]);(try clear hv);(try clear hv2);exact⟨by simp,.int .i64 v,1,by simp[Tryz.f81, *],rfl⟩)
  ·
   have e:v=r.foldr orI 0:=(by grind)
   exact NX [] fun a2 hF2=>⟨rfl,pre++[c],r,by simp,rfl,(hF2.q 8),e⟩
end
end Go.V
end
section
set_option maxHeartbeats 4000000
namespace Go.V
open Go Go.Proofs
attribute [local irreducible] W bO WD aO yl aS bW
section
variable (Γ:Glo Tryz.prog)
theorem f273 (l:List Doc)(p:Doc→Bool)(hb:l.length<big)(g:FuncId)(first cap:List Val)(hg:∀x∈l,PureOk Tryz.prog Γ g (first ++ .ag (aH x)::cap) (.bool (p x)))(hgp:bL Tryz.prog g=true)(hcf:aE first=true)(hcc:aE cap=true) :
  PureOk Tryz.prog Γ 273 [sls aH l,.fn g first cap] (.int .i64 (bg p l 0)):=by
 simp only[big] at hb
 obtain⟨v,hv⟩:∃v,v=bg p l 0:=⟨_,rfl⟩
 rw[←hv]
 refine Y2 19 Tryz.func273 rfl rfl fun a hl g0 g1=>?_
 repeat' first|refine G1 ?_|(refine G2 ?_ ?_<;>intro hc hd<;>try exact hd.elim)|fail
 refine am [(4,5),(9,18)] [8] (fun k a h=>h=[]∧∃pre rest,l=pre++rest∧k=rest.length∧lk a 8=some (.int .i64 pre.length)∧v=bg p rest pre.length) ⟨rfl,[],l,rfl,rfl,by simp[*],hv⟩ ?_
 intro a1 hk hk0 k a h hF hI
 replace g0:=hF.a hk 0
 replace g1:=hF.a hk 1
 replace g7:=hF.a hk 7
 replace hl:a.length=19:=hF.len.trans (hk0.trans (by simp[*]))
 clear hk hk0
 clear hv
 obtain⟨rfl,pre,rest,rfl,rfl,h8,hv⟩:=hI
 cases rest with
 |nil=>
  simp[bg] at hv
  repeat' first|refine G1 ?_|(refine G2 ?_ ?_<;>intro hc hd<;>try exact hd.elim)|fail
  all_goals first|(refine⟨by simp,.int .i64 v,1,?_,rfl⟩;(simp[Tryz.f273, *]<;>grind [List.length_eq_zero_iff]);done)|skip
 |cons x r=>
  have hlt:(pre.length:Int)<pre.length+(r.length+1):=by omega
  have hw:=ad ((pre.length:Int)+1) (by simp at hb;omega) (by simp at hb;omega)
  have hx:=hg x (by simp)
  clear hg
  have hv2:v=if p x then (pre.length:Int) else bg p r (pre.length+1):=hv
  clear hv
  repeat' first|refine G1 ?_|(refine G2 ?_ ?_<;>intro hc hd<;>try exact hd.elim)|fail
  refine aC hx ?_ (hp:=hgp) (hcl:=by simp[aw,aE,Val.closed, *])
  clear hx
  repeat' first|refine G1 ?_|(refine G2 ?_ ?_<;>intro hc hd<;>try exact hd.elim)|fail
  ·
   have e:v=pre.length:=(by grind)
   clear hv2
   exact⟨by simp,.int .i64 v,1,by simp[Tryz.f273, *],rfl⟩
  ·
   have e:v=bg p r ((pre++[x]).length):=(by simp;grind)
   exact NX [] fun a2 hF2=>⟨rfl,pre++[x],r,by simp,rfl,(hF2.q 8),e⟩
theorem f212 (l:List Res)(p:Res→Bool)(hb:l.length<big)(g:FuncId)(first cap:List Val)(hg:∀x∈l,PureOk Tryz.prog Γ g (first ++ .ag (ac x)::cap) (.bool (p x)))(hgp:bL Tryz.prog g=true)(hcf:aE first=true)(hcc:aE cap=true) :
  PureOk Tryz.prog Γ 212 [sls ac l,.fn g first cap] (.int .i64 (bg p l 0)):=by
 simp only[big] at hb
 obtain⟨v,hv⟩:∃v,v=bg p l 0:=⟨_,rfl⟩
 rw[←hv]
 refine Y2 19 Tryz.func212 rfl rfl fun a hl g0 g1=>?_
 repeat' first|refine G1 ?_|(refine G2 ?_ ?_<;>intro hc hd<;>try exact hd.elim)|fail
 refine am [(4,5),(9,18)] [8] (fun k a h=>h=[]∧∃pre rest,l=pre++rest∧k=rest.length∧lk a 8=some (.int .i64 pre.length)∧v=bg p rest pre.length) ⟨rfl,[],l,rfl,rfl,by simp[*],hv⟩ ?_
 intro a1 hk hk0 k a h hF hI
 replace g0:=hF.a hk 0
 replace g1:=hF.a hk 1
 replace g7:=hF.a hk 7
 replace hl:a.length=19:=hF.len.trans (hk0.trans (by simp[*]))
 clear hk hk0
 clear hv
 obtain⟨rfl,pre,rest,rfl,rfl,h8,hv⟩:=hI
 cases rest with
 |nil=>
  simp[bg] at hv
  repeat' first|refine G1 ?_|(refine G2 ?_ ?_<;>intro hc hd<;>try exact hd.elim)|fail
  all_goals first|(refine⟨by simp,.int .i64 v,1,?_,rfl⟩;(simp[Tryz.f212, *]<;>grind [List.length_eq_zero_iff]);done)|skip
 |cons x r=>
  have hlt:(pre.length:Int)<pre.length+(r.length+1):=by omega
  have hw:=ad ((pre.length:Int)+1) (by simp at hb;omega) (by simp at hb;omega)
  have hx:=hg x (by simp)
  clear hg
  have hv2:v=if p x then (pre.length:Int) else bg p r (pre.length+1):=hv
  clear hv
  repeat' first|refine G1 ?_|(refine G2 ?_ ?_<;>intro hc hd<;>try exact hd.elim)|fail
  refine aC hx ?_ (hp:=hgp) (hcl:=by simp[aw,aE,Val.closed, *])
  clear hx
  repeat' first|refine G1 ?_|(refine G2 ?_ ?_<;>intro hc hd<;>try exact hd.elim)|fail
  ·
   have e:v=pre.length:=(by grind)
   clear hv2
   exact⟨by simp,.int .i64 v,1,by simp[Tryz.f212, *],rfl⟩
  ·
   have e:v=bg p r ((pre++[x]).length):=(by simp;grind)
   exact NX [] fun a2 hF2=>⟨rfl,pre++[x],r,by simp,rfl,(hF2.q 8),e⟩
theorem f263 (l:List Fld)(p:Fld→Bool)(hb:l.length<big)(g:FuncId)(first cap:List Val)(hg:∀x∈l,PureOk Tryz.prog Γ g (first ++ .ag (aZ x)::cap) (.bool (p x)))(hgp:bL Tryz.prog g=true)(hcf:aE first=true)(hcc:aE cap=true) :
  PureOk Tryz.prog Γ 263 [sls aZ l,.fn g first cap] (.int .i64 (bg p l 0)):=by
 simp only[big] at hb
 obtain⟨v,hv⟩:∃v,v=bg p l 0:=⟨_,rfl⟩
 rw[←hv]
 refine Y2 19 Tryz.func263 rfl rfl fun a hl g0 g1=>?_
 repeat' first|refine G1 ?_|(refine G2 ?_ ?_<;>intro hc hd<;>try exact hd.elim)|fail
 refine am [(4,5),(9,18)] [8] (fun k a h=>h=[]∧∃pre rest,l=pre++rest∧k=rest.length∧lk a 8=some (.int .i64 pre.length)∧v=bg p rest pre.length) ⟨rfl,[],l,rfl,rfl,by simp[*],hv⟩ ?_
 intro a1 hk hk0 k a h hF hI
 replace g0:=hF.a hk 0
 replace g1:=hF.a hk 1
 replace g7:=hF.a hk 7
 replace hl:a.length=19:=hF.len.trans (hk0.trans (by simp[*]))
 clear hk hk0
 clear hv
 obtain⟨rfl,pre,rest,rfl,rfl,h8,hv⟩:=hI
 cases rest with
 |nil=>
  simp[bg] at hv
  repeat' first|refine G1 ?_|(refine G2 ?_ ?_<;>intro hc hd<;>try exact hd.elim)|fail
  all_goals first|(refine⟨by simp,.int .i64 v,1,?_,rfl⟩;(simp[Tryz.f263, *]<;>grind [List.length_eq_zero_iff]);done)|skip
 |cons x r=>
  have hlt:(pre.length:Int)<pre.length+(r.length+1):=by omega
  have hw:=ad ((pre.length:Int)+1) (by simp at hb;omega) (by simp at hb;omega)
  have hx:=hg x (by simp)
  clear hg
  have hv2:v=if p x then (pre.length:Int) else bg p r (pre.length+1):=hv
  clear hv
  repeat' first|refine G1 ?_|(refine G2 ?_ ?_<;>intro hc hd<;>try exact hd.elim)|fail
  refine aC hx ?_ (hp:=hgp) (hcl:=by simp[aw,aE,Val.closed, *])
  clear hx
  repeat' first|refine G1 ?_|(refine G2 ?_ ?_<;>intro hc hd<;>try exact hd.elim)|fail
  ·
   have e:v=pre.length:=(by grind)
   clear hv2
   exact⟨by simp,.int .i64 v,1,by simp[Tryz.f263, *],rfl⟩
  ·
   have e:v=bg p r ((pre++[x]).length):=(by simp;grind)
   exact NX [] fun a2 hF2=>⟨rfl,pre++[x],r,by simp,rfl,(hF2.q 8),e⟩
theorem f209 (l:List Str)(y:Str)(hb:l.length<big):PureOk Tryz.prog Γ 209 [sls aW l,.str y] (.int .i64 (bg (fun x=>decide (y=x)) l 0)):=by
 simp only[big] at hb
 obtain⟨v,hv⟩:∃v,v=bg (fun x=>decide (y=x)) l 0:=⟨_,rfl⟩
 rw[←hv]
 refine Y2 19 Tryz.func209 rfl rfl fun a hl g0 g1=>?_
 repeat' first|refine G1 ?_|(refine G2 ?_ ?_<;>intro hc hd<;>try exact hd.elim)|fail
 refine am [(4,5),(9,18)] [8] (fun k a h=>h=[]∧∃pre rest,l=pre++rest∧k=rest.length∧lk a 8=some (.int .i64 pre.length)∧v=bg (fun x=>decide (y=x)) rest pre.length) ⟨rfl,[],l,rfl,rfl,by simp[*],hv⟩ ?_
 intro a1 hk hk0 k a h hF hI
 replace g0:=hF.a hk 0
 replace g1:=hF.a hk 1
 replace g7:=hF.a hk 7
 replace hl:a.length=19:=hF.len.trans (hk0.trans (by simp[*]))
 clear hk hk0
 clear hv
 obtain⟨rfl,pre,rest,rfl,rfl,h8,hv⟩:=hI
 cases rest with
 |nil=>
  simp[bg] at hv
  repeat' first|refine G1 ?_|(refine G2 ?_ ?_<;>intro hc hd<;>try exact hd.elim)|fail
  all_goals first|(refine⟨by simp,.int .i64 v,1,?_,rfl⟩;(simp[Tryz.f209, *]<;>grind [List.length_eq_zero_iff]);done)|skip
 |cons x r=>
  have hlt:(pre.length:Int)<pre.length+(r.length+1):=by omega
  have hw:=ad ((pre.length:Int)+1) (by simp at hb;omega) (by simp at hb;omega)
  have hv2:v=if y=x then (pre.length:Int) else bg (fun x=>decide (y=x)) r (pre.length+1):=by simpa[bg] using hv
  clear hv
  repeat' first|refine G1 ?_|(refine G2 ?_ ?_<;>intro hc hd<;>try exact hd.elim)|fail
  ·
   have e:v=pre.length:=(by grind)
   clear hv2
   exact⟨by simp,.int .i64 v,1,by simp[Tryz.f209, *],rfl⟩
  ·
   have e:v=bg (fun x=>decide (y=x)) r ((pre++[x]).length):=(by simp;grind)
   exact NX [] fun a2 hF2=>⟨rfl,pre++[x],r,by simp,rfl,(hF2.q 8),e⟩
theorem f311 (l:List Int)(y:Int)(hb:l.length<big):PureOk Tryz.prog Γ 311 [sls bv l,.int .i64 y] (.int .i64 (bg (fun x=>decide (y=x)) l 0)):=by
 simp only[big] at hb
 obtain⟨v,hv⟩:∃v,v=bg (fun x=>decide (y=x)) l 0:=⟨_,rfl⟩
 rw[←hv]
 refine Y2 19 Tryz.func311 rfl rfl fun a hl g0 g1=>?_
 repeat' first|refine G1 ?_|(refine G2 ?_ ?_<;>intro hc hd<;>try exact hd.elim)|fail
 refine am [(4,5),(9,18)] [8] (fun k a h=>h=[]∧∃pre rest,l=pre++rest∧k=rest.length∧lk a 8=some (.int .i64 pre.length)∧v=bg (fun x=>decide (y=x)) rest pre.length) ⟨rfl,[],l,rfl,rfl,by simp[*],hv⟩ ?_
 intro a1 hk hk0 k a h hF hI
 replace g0:=hF.a hk 0
 replace g1:=hF.a hk 1
 replace g7:=hF.a hk 7
 replace hl:a.length=19:=hF.len.trans (hk0.trans (by simp[*]))
 clear hk hk0
 clear hv
 obtain⟨rfl,pre,rest,rfl,rfl,h8,hv⟩:=hI
 cases rest with
 |nil=>
  simp[bg] at hv
  repeat' first|refine G1 ?_|(refine G2 ?_ ?_<;>intro hc hd<;>try exact hd.elim)|fail
  all_goals first|(refine⟨by simp,.int .i64 v,1,?_,rfl⟩;(simp[Tryz.f311, *]<;>grind [List.length_eq_zero_iff]);done)|skip
 |cons x r=>
  have hlt:(pre.length:Int)<pre.length+(r.length+1):=by omega
  have hw:=ad ((pre.length:Int)+1) (by simp at hb;omega) (by simp at hb;omega)
  have hv2:v=if y=x then (pre.length:Int) else bg (fun x=>decide (y=x)) r (pre.length+1):=by simpa[bg] using hv
  clear hv
  repeat' first|refine G1 ?_|(refine G2 ?_ ?_<;>intro hc hd<;>try exact hd.elim)|fail
  ·
   have e:v=pre.length:=(by grind)
   clear hv2
   exact⟨by simp,.int .i64 v,1,by simp[Tryz.f311, *],rfl⟩
  ·
   have e:v=bg (fun x=>decide (y=x)) r ((pre++[x]).length):=(by simp;grind)
   exact NX [] fun a2 hF2=>⟨rfl,pre++[x],r,by simp,rfl,(hF2.q 8),e⟩
theorem f84 (l m:List Str)(hb:l.length<big)(hm:m.length<big):PureOk Tryz.prog Γ 84 [sls aW l,sls aW m] (.int .i64 (cf cmpS l m)):=by
 simp only[big] at hb hm
 obtain⟨v,hv⟩:∃v,v=cf cmpS l m:=⟨_,rfl⟩
 rw[←hv]
 refine Y2 36 Tryz.func84 rfl rfl fun a hl g0 g1=>?_
 repeat' first|refine G1 ?_|(refine G2 ?_ ?_<;>intro hc hd<;>try exact hd.elim)|fail
 refine am [(4,8),(12,30)] [11] (fun k a h=>h=[]∧∃pre rest pre2 rest2,l=pre++rest∧m=pre2++rest2∧Eqn pre.length pre2.length∧k=rest.length∧lk a 11=some (.int .i64 pre.length)∧v=cf cmpS rest rest2) ⟨rfl,[],l,[],m,rfl,rfl,rfl,rfl,by simp[*],hv⟩ ?_
 intro a1 hk hk0 k a h hF hI
 replace g0:=hF.a hk 0
 replace g1:=hF.a hk 1
 replace g9:=hF.a hk 9
 replace g10:=hF.a hk 10
 replace hl:a.length=36:=hF.len.trans (hk0.trans (by simp[*]))
 clear hk hk0
 clear hv
 obtain⟨rfl,pre,rest,pre2,rest2,rfl,rfl,hpp,rfl,h11,hv⟩:=hI
 have hpp':pre.length=pre2.length:=hpp
 cases rest with
 |nil=>
  cases rest2 with
  |nil=>
   have hpi:(pre2.length:Int)=pre.length:=by omega
   clear hpp'
   simp[cf] at hv
   repeat' first|refine G1 ?_|(refine G2 ?_ ?_<;>intro hc hd<;>try exact hd.elim)|fail
   all_goals first|(refine⟨by simp,.int .i64 v,1,?_,rfl⟩;(simp[Tryz.f84, *]<;>grind [List.length_eq_zero_iff]);done)|skip
  |cons y r2=>
   have hlt2:(pre.length:Int)<pre2.length+(r2.length+1):=by omega
   clear hpp'
   simp[cf] at hv
   repeat' first|refine G1 ?_|(refine G2 ?_ ?_<;>intro hc hd<;>try exact hd.elim)|fail
   all_goals first|(refine⟨by simp,.int .i64 v,1,?_,rfl⟩;(simp[Tryz.f84, *]<;>grind [List.length_eq_zero_iff]);done)|skip
 |cons x r=>
  have hlt:(pre.length:Int)<pre.length+(r.length+1):=by omega
  have hw:=ad ((pre.length:Int)+1) (by simp at hb;omega) (by simp at hb;omega)
  cases rest2 with
  |nil=>
   have hpi:(pre2.length:Int)=pre.length:=by omega
   clear hpp'
   simp[cf] at hv
   repeat' first|refine G1 ?_|(refine G2 ?_ ?_<;>intro hc hd<;>try exact hd.elim)|fail
   all_goals first|(refine⟨by simp,.int .i64 v,1,?_,rfl⟩;(simp[Tryz.f84, *]<;>grind [List.length_eq_zero_iff]);done)|skip
  |cons y r2=>
   have hlt2:¬((pre2.length:Int)+(r2.length+1)≤pre.length):=by omega
   have hlt3:(pre.length:Int)<pre2.length+(r2.length+1):=by omega
   have hi2:=fH pre2 r2 y
   rw[←hpp'] at hi2
   have hle2:pre.length≤pre2.length+(r2.length+1):=by omega
   clear hpp'
   have hv2:v=if cmpS x y=0 then cf cmpS r r2 else cmpS x y:=hv
   clear hv
   repeat' first|refine G1 ?_|(refine G2 ?_ ?_<;>intro hc hd<;>try exact hd.elim)|fail
   refine aC (f83 Γ x y) ?_
   repeat' first|refine G1 ?_|(refine G2 ?_ ?_<;>intro hc hd<;>try exact hd.elim)|fail
   ·
    have e:v=cmpS x y:=(by grind)
    clear hv2
    exact⟨by simp,.int .i64 v,1,by simp[Tryz.f84, *],rfl⟩
   ·
    have e:v=cf cmpS r r2:=(by grind)
    exact NX [] fun a2 hF2=>⟨rfl,pre++[x],r,pre2++[y],r2,by simp,by simp,(by have:pre.length=pre2.length:=hpp;simp[Eqn,this]),rfl,(hF2.q 11),e⟩
theorem f86 (l m:List Int)(hb:l.length<big)(hm:m.length<big):PureOk Tryz.prog Γ 86 [sls bv l,sls bv m] (.int .i64 (cf cmpI l m)):=by
 simp only[big] at hb hm
 obtain⟨v,hv⟩:∃v,v=cf cmpI l m:=⟨_,rfl⟩
 rw[←hv]
 refine Y2 36 Tryz.func86 rfl rfl fun a hl g0 g1=>?_
 repeat' first|refine G1 ?_|(refine G2 ?_ ?_<;>intro hc hd<;>try exact hd.elim)|fail
 refine am [(4,8),(12,30)] [11] (fun k a h=>h=[]∧∃pre rest pre2 rest2,l=pre++rest∧m=pre2++rest2∧Eqn pre.length pre2.length∧k=rest.length∧lk a 11=some (.int .i64 pre.length)∧v=cf cmpI rest rest2) ⟨rfl,[],l,[],m,rfl,rfl,rfl,rfl,by simp[*],hv⟩ ?_
 intro a1 hk hk0 k a h hF hI
 replace g0:=hF.a hk 0
 replace g1:=hF.a hk 1
 replace g9:=hF.a hk 9
 replace g10:=hF.a hk 10
 replace hl:a.length=36:=hF.len.trans (hk0.trans (by simp[*]))
 clear hk hk0
 clear hv
 obtain⟨rfl,pre,rest,pre2,rest2,rfl,rfl,hpp,rfl,h11,hv⟩:=hI
 have hpp':pre.length=pre2.length:=hpp
 cases rest with
 |nil=>
  cases rest2 with
  |nil=>
   have hpi:(pre2.length:Int)=pre.length:=by omega
   clear hpp'
   simp[cf] at hv
   repeat' first|refine G1 ?_|(refine G2 ?_ ?_<;>intro hc hd<;>try exact hd.elim)|fail
   all_goals first|(refine⟨by simp,.int .i64 v,1,?_,rfl⟩;(simp[Tryz.f86, *]<;>grind [List.length_eq_zero_iff]);done)|skip
  |cons y r2=>
   have hlt2:(pre.length:Int)<pre2.length+(r2.length+1):=by omega
   clear hpp'
   simp[cf] at hv
   repeat' first|refine G1 ?_|(refine G2 ?_ ?_<;>intro hc hd<;>try exact hd.elim)|fail
   all_goals first|(refine⟨by simp,.int .i64 v,1,?_,rfl⟩;(simp[Tryz.f86, *]<;>grind [List.length_eq_zero_iff]);done)|skip
 |cons x r=>
  have hlt:(pre.length:Int)<pre.length+(r.length+1):=by omega
  have hw:=ad ((pre.length:Int)+1) (by simp at hb;omega) (by simp at hb;omega)
  cases rest2 with
  |nil=>
   have hpi:(pre2.length:Int)=pre.length:=by omega
   clear hpp'
   simp[cf] at hv
   repeat' first|refine G1 ?_|(refine G2 ?_ ?_<;>intro hc hd<;>try exact hd.elim)|fail
   all_goals first|(refine⟨by simp,.int .i64 v,1,?_,rfl⟩;(simp[Tryz.f86, *]<;>grind [List.length_eq_zero_iff]);done)|skip
  |cons y r2=>
   have hlt2:¬((pre2.length:Int)+(r2.length+1)≤pre.length):=by omega
   have hlt3:(pre.length:Int)<pre2.length+(r2.length+1):=by omega
   have hi2:=AB pre2 r2 y
   rw[←hpp'] at hi2
   have hle2:pre.length≤pre2.length+(r2.length+1):=by omega
   clear hpp'
   have hv2:v=if cmpI x y=0 then cf cmpI r r2 else cmpI x y:=hv
   clear hv
   repeat' first|refine G1 ?_|(refine G2 ?_ ?_<;>intro hc hd<;>try exact hd.elim)|fail
   refine aC (f82 Γ x y) ?_
   repeat' first|refine G1 ?_|(refine G2 ?_ ?_<;>intro hc hd<;>try exact hd.elim)|fail
   ·
    have e:v=cmpI x y:=(by grind)
    clear hv2
    exact⟨by simp,.int .i64 v,1,by simp[Tryz.f86, *],rfl⟩
   ·
    have e:v=cf cmpI r r2:=(by grind)
    exact NX [] fun a2 hF2=>⟨rfl,pre++[x],r,pre2++[y],r2,by simp,by simp,(by have:pre.length=pre2.length:=hpp;simp[Eqn,this]),rfl,(hF2.q 11),e⟩
end
end Go.V
end
