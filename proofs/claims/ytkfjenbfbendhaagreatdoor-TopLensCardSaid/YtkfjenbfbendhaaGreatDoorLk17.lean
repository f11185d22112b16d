/-
  A part of a proof: R11 P1 P2 P3.
-/
import Derived.Test.YtkfjenbfbendhaaGreatDoorLk11
import Derived.Test.YtkfjenbfbendhaaGreatDoorLk13
import Derived.Test.YtkfjenbfbendhaaGreatDoorLk14
set_option linter.unusedSimpArgs false
set_option linter.unusedVariables false
section
namespace Go.V
open Go Go.Proofs
section
variable {P:Program} {Γ:Glo P}
def to1 (i j x:Nat):Nat:=if x=i then j else x
theorem kw (i0 j0:Nat)(D:List (Nat×Nat))(L:List Nat)(N1:Nat)(I:Nat→List Val→Heap→Prop){c:Code}{Q:Post}{k:Nat}{a0:List Val}{h0:Heap}{N0:Nat}(hj:N0≤j0∧j0<N1)(hk0:dZ h0=true)(hI0:I k a0 (bF (to1 i0 j0) h0))
  (hI:∀a1:List Val,(∀t v,lk a0 t=some v→lk a1 t=some v)→a1.length=a0.length→∀k a h,Frm (D++L.map fun t=>(t,t)) a1 a→I k a h→
   W P Γ c a h N1 (eD (fun a' h' _=>Frm (D++L.map fun t=>(t,t)) a1 a'∧∃mv h2,(∀i b,get h2 i=some b→get h' i=some b)∧qP N0 N1 mv=true∧dZ h2=true∧(∀t∈L,∀v,lk a' t=some v→aR N1 (au (mvT N0 N1 mv) v)=true)∧
    bc N1 (bF (mvT N0 N1 mv) h2)=true∧∃j,k=j+1∧∀a2,Frm (D++L.map fun t=>(t,t)) a' a2→(∀t∈L,lk a2 t=(lk a' t).map (au (mvT N0 N1 mv)))→I j a2 (bF (mvT N0 N1 mv) h2)) Q)):W P Γ (.loop c) a0 h0 N0 Q:=by
 intro F ρ w0 O w act hG m hf ha hd
 have hN:N0≤N1:=by omega
 have hfn:∀i,N0≤i→ρ i=none:=fun i hi=>hf i hi (.inl rfl)
 have mono:∀n Q1 Q2 act w,(∀e a w,Q1 e a w→Q2 e a w)→Code.rounds P c Q1 n act w→Code.rounds P c Q2 n act w:=by
  intro n
  induction n with
  |zero=>intro _ _ _ _ _ h;exact h.elim
  |succ n ihn=>
   intro Q1 Q2 act w hq hr
   rw[rounds_succ] at hr ⊢
   refine wp_mono hr ?_
   intro e a w he
   cases e with
   |normal=>exact ihn Q1 Q2 a w hq he
   |exit id=>exact hq _ _ _ he
   |goto l=>exact hq _ _ _ he
   |ret=>exact hq _ _ _ he
   |panic ch=>exact hq _ _ _ he
   |outgrown=>exact hq _ _ _ he
 have hlow0:aa N0 a0=true:=RelL.low hfn _ _ ha
 have lowAt:∀t v,lk a0 t=some v→aR N0 v=true:=by
  have key:∀(l:List Val) (t:Nat) (v:Val),aa N0 l=true→l[t]?=some v→aR N0 v=true:=by
   intro l
   induction l with
   |nil=>intro t v _ h;simp at h
   |cons x l ih=>
    intro t v h1 h2
    simp only[aa,Bool.and_eq_true] at h1
    cases t with
    |zero=>simp at h2;subst h2;exact h1.1
    |succ t=>exact ih t v h1.2 (by simpa using h2)
  intro t v h
  exact key a0 t v hlow0 h
 refine wp_loop_rounds (k+1) ?_
 have key:∀n a h F ρk w act,Ext F F ρ ρk w0 O N0 N1→Frm (D++L.map fun t=>(t,t)) a0 a→I n a h→GOk F Γ→Mem P F ρk h w0 O w→RelL F ρk a act.tmps.toList→act.defers=[]→Code.rounds P c (Conc P Q F ρ w0 O N0) (n+1) act w:=by
  intro n
  induction n with
  |zero=>
   intro a h F ρk w act hx hF hi hG m ha hd
   have hfk:Fresh' ρk N1 N1 true:=fun i hi _=>by rw[hx.out i (by omega)];exact hfn i (by omega)
   rw[rounds_succ]
   refine wp_mono (jq (hI a0 (fun _ _ h=>h) rfl 0 a h hF hi) hG m hfk ha hd (next:=fun _ _=>False) ?_) ?_
   ·
    rintro F' ρ' a' h' N' act' w' g1 g2 g3 g4 g5 ⟨_,_,_,_,_,_,_,_,j,hj,_⟩
    omega
   ·
    intro e a w he
    cases e with
    |normal=>exact he.elim
    |exit id=>exact Conc.later hx hN he
    |goto l=>exact Conc.later hx hN he
    |ret=>exact Conc.later hx hN he
    |panic ch=>exact Conc.later hx hN he
    |outgrown=>exact Conc.later hx hN he
  |succ n ih=>
   intro a h F ρk w act hx hF hi hG m ha hd
   have hfk:Fresh' ρk N1 N1 true:=fun i hi _=>by rw[hx.out i (by omega)];exact hfn i (by omega)
   rw[rounds_succ]
   have fin:∀(e:Exit) (a:Act) (w:World),Exit.then (fun act w=>Code.rounds P c (Conc P Q F ρ w0 O N0) (n+1) act w) (Conc P Q F ρk w0 O N1) e a w→Exit.then (Code.rounds P c (Conc P Q F ρ w0 O N0) (n+1)) (Conc P Q F ρ w0 O N0) e a w:=by
    intro e a w he
    cases e with
    |normal=>exact he
    |exit id=>exact Conc.later hx hN he
    |goto l=>exact Conc.later hx hN he
    |ret=>exact Conc.later hx hN he
    |panic ch=>exact Conc.later hx hN he
    |outgrown=>exact Conc.later hx hN he
   refine wp_mono (jq (hI a0 (fun _ _ h=>h) rfl (n+1) a h hF hi) hG m hfk ha hd (next:=fun act w=>Code.rounds P c (Conc P Q F ρ w0 O N0) (n+1) act w) ?_) fin
   rintro F' ρ' a' h' N' act' w' g1 g2 g3 g4 g5 ⟨q1,mv,h2,q3,qok,qko,qL,q4,j,hj,q5⟩
   have hjn:j=n:=by omega
   subst hjn
   have hτ:=oN hN qok ρ'
   let ρ3:Pl:=cut (mvP N0 N1 mv ρ') N1
   have hlow3:∀i,i<N0→ρ3 i=ρ i:=by
    intro i hi
    show(if i<N1 then mvP N0 N1 mv ρ' i else none)=ρ i
    rw[if_pos (by omega),kl qok _ hi,g2.out i (by omega),hx.out i (by omega)]
   have hhigh3:∀i,N1≤i→ρ3 i=none:=by
    intro i hi
    show(if i<N1 then mvP N0 N1 mv ρ' i else none)=none
    rw[if_neg (by omega)]
   have hx3:Ext F F' ρ ρ3 w0 O N0 N1:=by
    refine⟨g2.f,fun i L hi=>?_,fun b c hb=>g2.new b c hb,fun i hi=>?_⟩
    ·
     have hi':i<N0:=by
      rcases Nat.lt_or_ge i N0 with h|h
      ·
       exact h
      ·
       rw[hfn i h] at hi;cases hi
     rw[hlow3 i hi'];exact hi
    ·
     by_cases hi':i<N0
     ·
      exact hlow3 i hi'
     ·
      rw[hhigh3 i (by omega),hfn i (by omega)]
   have hcut:PLe (cut ρ' N0) ρ3:=by
    intro i L hi
    unfold cut at hi
    split at hi
    ·
     rename_i hi'
     rw[hlow3 i hi',←hi,g2.out i (by omega),hx.out i (by omega)]
    ·
     cases hi
   have hl3:=g3.length
   let a2:List Val:=act'.tmps.toList.mapIdx fun t x=>if L.contains t=true then au (mvT N0 N1 mv) ((a'[t]?).getD uv) else if inM D t=true then .jk x else (a'[t]?).getD uv
   have hl2:a2.length=act'.tmps.toList.length:=by simp[a2]
   have hat:∀t v,a2[t]?=some v→∃x,act'.tmps.toList[t]?=some x∧v=if L.contains t=true then au (mvT N0 N1 mv) ((a'[t]?).getD uv) else if inM D t=true then .jk x else (a'[t]?).getD uv:=by
    intro t v hv
    simp only[a2,List.getElem?_mapIdx] at hv
    cases hx:act'.tmps.toList[t]? with
    |none=>rw[hx] at hv;cases hv
    |some x=>rw[hx] at hv;simp only[Option.map_some,Option.some.injEq] at hv;exact⟨x,rfl,hv.symm⟩
   have hlt':∀t x,act'.tmps.toList[t]?=some x→t<a'.length:=by
    intro t x hx
    rw[←hl3]
    rcases Nat.lt_or_ge t act'.tmps.toList.length with h|h
    ·
     exact h
    ·
     rw[List.getElem?_eq_none h] at hx;cases hx
   have hF2:Frm (D++L.map fun t=>(t,t)) a' a2:=by
    refine⟨by rw[hl2,hl3],fun t ht=>?_⟩
    rw[gI,kD,Bool.or_eq_false_iff] at ht
    unfold lk
    cases hv:a2[t]? with
    |none=>
     rw[List.getElem?_eq_none_iff] at hv
     exact(List.getElem?_eq_none_iff.2 (by omega)).symm
    |some v=>
     obtain⟨x,hx,rfl⟩:=hat t v hv
     rw[if_neg (by simp[-List.contains_eq_mem,ht.2]),if_neg (by simp[ht.1]),List.getElem?_eq_getElem (hlt' t x hx)]
     rfl
   have hFL:∀t∈L,lk a2 t=(lk a' t).map (au (mvT N0 N1 mv)):=by
    intro t ht
    unfold lk
    cases hv:a2[t]? with
    |none=>
     rw[List.getElem?_eq_none_iff] at hv
     rw[List.getElem?_eq_none_iff.2 (by omega)]
     rfl
    |some v=>
     obtain⟨x,hx,rfl⟩:=hat t v hv
     rw[if_pos (by simpa using ht),List.getElem?_eq_getElem (hlt' t x hx)]
     rfl
   have hr2:RelL F' ρ3 a2 act'.tmps.toList:=by
    refine RelL.of_get hl2 fun t v x hv hx=>?_
    obtain⟨y,hy,rfl⟩:=hat t v hv
    rw[hx] at hy;cases hy
    have hlt:=hlt' t x hx
    have hv':a'[t]?=some a'[t]:=List.getElem?_eq_getElem hlt
    obtain⟨z,hz1,hz2⟩:=g3.get hv'
    rw[hx] at hz1;cases hz1
    rw[hv']
    by_cases hL:L.contains t=true
    ·
     rw[if_pos hL]
     exact Rel.cut _ _ (qL t (by simpa using hL) _ hv') (Rel.ren hτ _ _ hz2)
    ·
     rw[if_neg hL]
     by_cases ht:inM D t=true
     ·
      rw[if_pos ht];simp[Rel]
     ·
      rw[if_neg ht]
      have hlow:aR N0 a'[t]=true:=by
       refine lowAt t _ ?_
       rw[←q1.same t (by rw[gI,kD];simp only[Bool.not_eq_true] at ht hL;rw[ht,hL];rfl)]
       exact hv'
      exact Rel.mono (FLe.refl _) hcut _ _ (Rel.cut _ _ hlow hz2)
   have hm2:Mem P F' ρ3 (bF (mvT N0 N1 mv) h2) w0 O w':=((g5.sub q3).ren hτ qko).cut q4
   have hFr:Frm (D++L.map fun t=>(t,t)) a0 a2:=q1.trans hF2 (fun t ht=>by simpa using ht)
   have hxF:Ext F' F' ρ ρ3 w0 O N0 N1:=⟨FLe.refl _,hx3.p,fun b c hb=>.inl hb,hx3.out⟩
   refine mono _ _ _ _ _ (fun e a w hc=>Conc.later ⟨g2.f,PLe.refl ρ,g2.new,fun _ _=>rfl⟩ (Nat.le_refl _) hc) (ih a2 (bF (mvT N0 N1 mv) h2) F' ρ3 w' act' hxF hFr (q5 a2 hF2 hFL) (hG.mono g2.f) hm2 hr2 g4)
 have hjn:ρ j0=none:=hf j0 hj.1 (.inl rfl)
 obtain⟨ρ2,hρ2⟩:∃ρ2:Pl,ρ2=fun x=>if x=j0 then ρ i0 else ρ x:=⟨_,rfl⟩
 have hle:PLe ρ ρ2:=fun x L hx=>by
  rw[hρ2]
  show(if x=j0 then ρ i0 else ρ x)=some L
  by_cases e:x=j0
  ·
   subst e;rw[hjn] at hx;cases hx
  ·
   rw[if_neg e];exact hx
 have hτ:∀x L,ρ x=some L→ρ2 (to1 i0 j0 x)=some L:=fun x L hx=>by
  rw[hρ2]
  unfold to1
  by_cases e:x=i0
  ·
   subst e
   rw[if_pos rfl]
   show(if j0=j0 then ρ x else _)=_
   rw[if_pos rfl];exact hx
  ·
   rw[if_neg e]
   show(if x=j0 then ρ i0 else ρ x)=some L
   by_cases e2:x=j0
   ·
    subst e2;rw[hjn] at hx;cases hx
   ·
    rw[if_neg e2];exact hx
 exact key k a0 (bF (to1 i0 j0) h0) F ρ2 w act ⟨FLe.refl _,hle,fun _ _ h=>.inl h,fun x hx=>by
  rw[hρ2]
  show(if x=j0 then ρ i0 else ρ x)=ρ x
  rw[if_neg (by omega)]⟩ (Frm.refl _ _) hI0 hG (m.ren hτ hk0) (RelL.mono (FLe.refl F) hle _ _ ha) hd
end
section
variable {α:Type} (c:α→List Val)
theorem em {o i:Nat}{t:TypeId}{l:List α}{r:Heap}(h:o≠i):get (gH c o t l++r) i=get r i:=by
 cases l with
 |nil=>rfl
 |cons x l=>simp[gH,get,h]
theorem Ab {N o:Nat}{t:TypeId}{l:List α}{r:Heap}(hc:∀l,aE (row c l)=true)(h:o<N)(hr:bc N r=true):bc N (gH c o t l++r)=true:=by
 unfold bc at *
 rw[List.all_append,Bool.and_eq_true]
 refine⟨?_,hr⟩
 cases l with
 |nil=>rfl
 |cons x l=>
  simp only[gH,List.all_cons,List.all_nil,cz,Bool.and_true,Bool.and_eq_true,decide_eq_true_eq]
  exact⟨h,aD _ (hc (x::l))⟩
theorem wA {N o:Nat}{t:TypeId}{l:List α}{r:Heap}(hc:∀l,aE (row c l)=true)(h:o<N)(hr:cm N r=true):cm N (gH c o t l++r)=true:=by
 unfold cm at *
 rw[List.all_append,Bool.and_eq_true]
 refine⟨?_,hr⟩
 cases l with
 |nil=>rfl
 |cons x l=>
  simp only[gH,List.all_cons,List.all_nil,fU,Bool.and_true,Bool.and_eq_true,decide_eq_true_eq]
  exact⟨h,aD _ (hc (x::l))⟩
theorem ge {o:Nat}{t:TypeId}{l:List α}{r:Heap}(h:∀p∈r,p.1≠o)(hr:dZ r=true):dZ (gH c o t l++r)=true:=by
 cases l with
 |nil=>exact hr
 |cons x l=>
  unfold dZ at *
  simp only[gH,List.cons_append,List.nil_append,List.map_cons,decide_eq_true_eq,List.nodup_cons] at *
  refine⟨fun hm=>?_,hr⟩
  obtain⟨p,hp,e⟩:=List.mem_map.1 hm
  exact h p hp e
theorem ae (τ:Nat→Nat)(a b:Heap):bF τ (a++b)=bF τ a++bF τ b:=by unfold bF;rw[List.map_append]
theorem oP (τ:Nat→Nat){o:Nat}{t:TypeId}{l:List α}(hc:∀l,aE (row c l)=true):bF τ (gH c o t l)=gH c (τ o) t l:=by
 cases l with
 |nil=>rfl
 |cons x l=>
  simp only[gH,bF,List.map_cons,List.map_nil,b9]
  rw[aJ τ _ (hc (x::l))]
theorem oQ (τ:Nat→Nat)(o:Nat)(l:List α):au τ (gV o l)=gV (τ o) l:=by
 cases l with
 |nil=>rfl
 |cons x l=>simp[gV,au]
theorem sI {N o:Nat}{l:List α}(h:o<N):aR N (gV o l)=true:=by
 cases l with
 |nil=>rfl
 |cons x l=>simp[gV,aR,h]
end
end Go.V
end
section
namespace Go.V
structure TO {α:Type}(c:α→α→Int):Prop where
 zero:∀a b,c a b=0↔a=b
 anti:∀a b,c a b<0↔0<c b a
 trans:∀a b d,c a b<0→c b d<0→c a d<0
theorem wa:TO cmpI:=⟨fun _ _=>qd,fun a b=>by unfold cmpI;split<;>split<;>omega,fun a b d h h'=>by rw[xo] at *;omega⟩
theorem BC:TO cmpS:=by
 refine⟨fun _ _=>mu,fun a b=>?_,fun a b d h h'=>?_⟩
 ·
  unfold cmpS
  cases h1:ltS a b<;>cases h2:ltS b a<;>simp
  rw[aN h1] at h2
  cases h2
 ·
  rw[xp] at *;exact aY h h'
theorem wb {α:Type}{c:α→α→Int}(h:TO c):TO (cf c):=by
 refine⟨?_,?_,?_⟩
 ·
  intro a
  induction a with
  |nil=>intro b;cases b<;>simp[cf]
  |cons x a ih=>
   intro b
   cases b with
   |nil=>simp[cf]
   |cons y b=>
    simp only[cf,List.cons.injEq]
    by_cases e:c x y=0
    ·
     rw[if_pos e,ih b];simp[(h.zero x y).1 e]
    ·
     have:x≠y:=fun e'=>e ((h.zero x y).2 e')
     simp[e,this]
 ·
  intro a
  induction a with
  |nil=>intro b;cases b<;>simp[cf]
  |cons x a ih=>
   intro b
   cases b with
   |nil=>simp[cf]
   |cons y b=>
    simp only[cf]
    by_cases e:c x y=0
    ·
     have e':=(h.zero x y).1 e
     subst e'
     rw[if_pos e,if_pos e,ih b]
    ·
     have e2:c y x≠0:=fun e'=>e ((h.zero x y).2 ((h.zero y x).1 e').symm)
     rw[if_neg e,if_neg e2,h.anti]
 ·
  intro a
  induction a with
  |nil=>
   intro b d h1 h2
   cases d with
   |nil=>cases b<;>simp[cf] at h1 h2
   |cons z d=>simp[cf]
  |cons x a ih=>
   intro b d h1 h2
   cases b with
   |nil=>simp[cf] at h1
   |cons y b=>
    cases d with
    |nil=>simp[cf] at h2
    |cons z d=>
     simp only[cf] at h1 h2 ⊢
     by_cases e:c x y=0
     ·
      have e':=(h.zero x y).1 e
      subst e'
      rw[if_pos e] at h1
      by_cases e2:c x z=0
      ·
       rw[if_pos e2] at h2 ⊢;exact ih b d h1 h2
      ·
       rw[if_neg e2] at h2 ⊢;exact h2
     ·
      rw[if_neg e] at h1
      by_cases e2:c y z=0
      ·
       have e':=(h.zero y z).1 e2
       subst e'
       rw[if_neg e];exact h1
      ·
       rw[if_neg e2] at h2
       have h3:=h.trans x y z h1 h2
       rw[if_neg (by omega)];exact h3
theorem Be {α β:Type}{c:α→α→Int}{d:β→β→Int}(h:TO c)(k:TO d):TO (fun p q:α×β=>orI (c p.1 q.1) (d p.2 q.2)):=by
 refine⟨fun p q=>?_,fun p q=>?_,fun p q r h1 h2=>?_⟩
 ·
  show orI (c p.1 q.1) (d p.2 q.2)=0↔_
  unfold orI
  rw[Prod.ext_iff,←h.zero p.1 q.1,←k.zero p.2 q.2]
  split<;>simp_all
 ·
  show orI (c p.1 q.1) (d p.2 q.2)<0↔0<orI (c q.1 p.1) (d q.2 p.2)
  unfold orI
  by_cases e:c p.1 q.1=0
  ·
   have e2:c q.1 p.1=0:=by rw[h.zero] at e ⊢;exact e.symm
   rw[if_pos e,if_pos e2];exact k.anti _ _
  ·
   have e2:c q.1 p.1≠0:=fun e'=>e (by rw[h.zero] at e' ⊢;exact e'.symm)
   rw[if_neg e,if_neg e2];exact h.anti _ _
 ·
  have h1':orI (c p.1 q.1) (d p.2 q.2)<0:=h1
  have h2':orI (c q.1 r.1) (d q.2 r.2)<0:=h2
  show orI (c p.1 r.1) (d p.2 r.2)<0
  unfold orI at *
  by_cases e:c p.1 q.1=0
  ·
   rw[if_pos e] at h1'
   have e':=(h.zero _ _).1 e
   rw[←e'] at h2'
   by_cases e2:c p.1 r.1=0
   ·
    rw[if_pos e2] at h2' ⊢;exact k.trans _ _ _ h1' h2'
   ·
    rw[if_neg e2] at h2' ⊢;exact h2'
  ·
   rw[if_neg e] at h1'
   by_cases e2:c q.1 r.1=0
   ·
    have e':=(h.zero _ _).1 e2
    rw[←e',if_neg e];exact h1'
   ·
    rw[if_neg e2] at h2'
    have h3:=h.trans _ _ _ h1' h2'
    rw[if_neg (by omega)];exact h3
abbrev Plc:=Int×List Int×List Str
def cmpP (p q:Plc):Int:=orI (cmpI p.1 q.1) (orI (cf cmpI p.2.1 q.2.1) (cf cmpS p.2.2 q.2.2))
theorem ik:TO cmpP:=Be wa (Be (wb wa) (wb BC))
def plc (x:Res):Plc:=(x.edge,x.step,x.at_)
theorem mP (a b:Res):dc a b=cmpP (plc a) (plc b):=rfl
theorem wJ (e:Int)(st:List Int)(ks:List Str)(x:Res):lA e st ks x=decide (plc x=(e,st,ks)):=by
 unfold lA
 rw[Bool.eq_iff_iff,decide_eq_true_eq,decide_eq_true_eq,mP,ik.zero]
 exact Iff.rfl
def fnd (p:Plc)(l:List Res):Option Res:=jl p.1 p.2.1 p.2.2 l
def drp (p:Plc)(l:List Res):List Res:=cu p.1 p.2.1 p.2.2 l
@[simp] theorem AX (p:Plc):fnd p []=none:=rfl
theorem eI (p:Plc)(x:Res)(l:List Res):fnd p (x::l)=if plc x=p then some x else fnd p l:=by
 unfold fnd
 rw[jl,wJ]
 simp
theorem og (p:Plc)(x:Res)(l:List Res):drp p (x::l)=if plc x=p then drp p l else x::drp p l:=by
 unfold drp
 rw[cu,wJ]
 simp
theorem mE {p:Plc}{l:List Res}{x:Res}(h:fnd p l=some x):plc x=p∧x∈l:=by
 induction l with
 |nil=>cases h
 |cons y l ih=>
  rw[eI] at h
  split at h
  ·
   cases h;rename_i e;exact⟨e,by simp⟩
  ·
   exact⟨(ih h).1,by simp[(ih h).2]⟩
theorem sA (p q:Plc)(l:List Res):fnd q (drp p l)=if q=p then none else fnd q l:=by
 induction l with
 |nil=>simp[drp,cu]
 |cons x l ih=>
  rw[og]
  split
  ·
   rename_i e
   rw[ih,eI]
   by_cases e2:q=p
   ·
    simp[e2]
   ·
    rw[if_neg e2,if_neg e2,if_neg (by rw[e];exact fun e=>e2 e.symm)]
  ·
   rename_i e
   rw[eI,eI,ih]
   by_cases e2:q=p
   ·
    subst e2;simp[e]
   ·
    simp[e2]
theorem yG (q:Plc)(x:Res)(l:List Res)(h:fnd (plc x) l=none):fnd q (gD x l)=if q=plc x then some x else fnd q l:=by
 induction l with
 |nil=>simp only[gD,eI,AX];by_cases e:q=plc x<;>simp[e,eq_comm]
 |cons y l ih=>
  rw[eI] at h
  split at h
  ·
   cases h
  ·
   rename_i e
   unfold gD
   split
   ·
    rw[eI]
    by_cases e2:q=plc x
    ·
     simp[e2]
    ·
     rw[if_neg e2,if_neg (fun e=>e2 e.symm)]
   ·
    rw[eI,ih h,eI]
    by_cases e2:q=plc x
    ·
     subst e2;simp[e]
    ·
     simp[e2]
theorem sN (l:List Res)(x:Res):j9 l x=gD x (drp (plc x) l):=rfl
theorem yH (q:Plc)(x:Res)(l:List Res):fnd q (j9 l x)=if q=plc x then some x else fnd q l:=by
 rw[sN,yG q x _ (by rw[sA,if_pos rfl]),sA]
 split<;>rfl
def srt (l:List Res):Prop:=l.Pairwise fun a b=>cmpP (plc a) (plc b)<0
theorem sT (p:Plc){l:List Res}(h:srt l):srt (drp p l)∧∀x∈drp p l,x∈l∧plc x≠p:=by
 induction l with
 |nil=>exact⟨h,by simp[drp,cu]⟩
 |cons x l ih=>
  unfold srt at h
  rw[List.pairwise_cons] at h
  obtain⟨i1,i2⟩:=ih h.2
  rw[og]
  split
  ·
   exact⟨i1,fun y hy=>⟨by simp[(i2 y hy).1],(i2 y hy).2⟩⟩
  ·
   rename_i e
   refine⟨?_,fun y hy=>?_⟩
   ·
    unfold srt
    rw[List.pairwise_cons]
    exact⟨fun y hy=>h.1 y (i2 y hy).1,i1⟩
   ·
    rcases List.mem_cons.1 hy with rfl|hy
    ·
     exact⟨by simp,e⟩
    ·
     exact⟨by simp[(i2 y hy).1],(i2 y hy).2⟩
theorem yb {x y:Res}{l:List Res}:y∈gD x l↔y=x∨y∈l:=by
 induction l with
 |nil=>simp[gD]
 |cons z l ih=>
  unfold gD
  split
  ·
   simp
  ·
   simp only[List.mem_cons,ih]
   constructor
   ·
    rintro(h|h|h)<;>simp[h]
   ·
    rintro(h|h|h)<;>simp[h]
theorem zK (x:Res){l:List Res}(h:srt l)(hn:∀y∈l,plc y≠plc x):srt (gD x l):=by
 induction l with
 |nil=>simp[gD,srt]
 |cons y l ih=>
  unfold srt at h
  rw[List.pairwise_cons] at h
  have hy:cmpP (plc y) (plc x)≠0:=fun e=>hn y (by simp) ((ik.zero _ _).1 e)
  unfold gD
  split
  ·
   rename_i hc
   rw[mP] at hc
   have hlt:cmpP (plc x) (plc y)<0:=(ik.anti _ _).2 (by omega)
   unfold srt
   rw[List.pairwise_cons,List.pairwise_cons]
   refine⟨fun z hz=>?_,h⟩
   rcases List.mem_cons.1 hz with rfl|hz
   ·
    exact hlt
   ·
    exact ik.trans _ _ _ hlt (h.1 z hz)
  ·
   rename_i hc
   rw[mP] at hc
   unfold srt
   rw[List.pairwise_cons]
   refine⟨fun z hz=>?_,ih h.2 fun z hz=>hn z (by simp[hz])⟩
   rcases yb.1 hz with rfl|hz
   ·
    omega
   ·
    exact h.1 z hz
theorem zL (x:Res){l:List Res}(h:srt l):srt (j9 l x):=by
 rw[sN]
 exact zK x (sT _ h).1 fun y hy=>((sT _ h).2 y hy).2
theorem wB {l:List Res}(h:srt l){x:Res}(hx:x∈l):fnd (plc x) l=some x:=by
 induction l with
 |nil=>cases hx
 |cons y l ih=>
  unfold srt at h
  rw[List.pairwise_cons] at h
  rw[eI]
  rcases List.mem_cons.1 hx with rfl|hx
  ·
   simp
  ·
   rw[if_neg,ih h.2 hx]
   intro e
   have:=h.1 x hx
   rw[(ik.zero _ _).2 e] at this
   omega
theorem w5:∀{l m:List Res},srt l→srt m→(∀p,fnd p l=fnd p m)→l=m
 |[],[],_,_,_=>rfl
 |[],y::m,_,_,h=>by have:=h (plc y);rw[eI,if_pos rfl] at this;cases this
 |x::l,[],_,_,h=>by have:=h (plc x);rw[eI,if_pos rfl] at this;cases this
 |x::l,y::m,hl,hm,h=>by
  have h1:=h (plc x)
  have h2:=h (plc y)
  rw[wB hl (by simp)] at h1
  rw[wB hm (by simp)] at h2
  have m1:=(mE h1.symm).2
  have m2:=(mE h2).2
  have hl':=List.pairwise_cons.1 hl
  have hm':=List.pairwise_cons.1 hm
  have e:x=y:=by
   rcases List.mem_cons.1 m1 with e|m1
   ·
    exact e
   ·
    rcases List.mem_cons.1 m2 with e|m2
    ·
     exact e.symm
    ·
     have a:=hm'.1 x m1
     have b:=hl'.1 y m2
     have:=(ik.anti _ _).1 a
     omega
  subst e
  congr 1
  refine w5 hl'.2 hm'.2 fun p=>?_
  have hp:=h p
  rw[eI,eI] at hp
  by_cases e:plc x=p
  ·
   have none_of:∀r:List Res,(∀z∈r,cmpP (plc x) (plc z)<0)→fnd p r=none:=by
    intro r hr
    cases hf:fnd p r with
    |none=>rfl
    |some z=>
     obtain⟨q1,q2⟩:=mE hf
     have:=hr z q2
     rw[q1,e,(ik.zero _ _).2 rfl] at this
     omega
   rw[none_of l hl'.1,none_of m hm'.1]
  ·
   rwa[if_neg e,if_neg e] at hp
end Go.V
end
section
namespace Go.V
def bl (f:Flds):Prop:=(f.map (·.1)).Nodup
def eqM (f g:Flds):Prop:=∀n,bD n f=bD n g
theorem eqM.refl (f:Flds):eqM f f:=fun _=>rfl
theorem eqM.symm {f g:Flds}(h:eqM f g):eqM g f:=fun n=>(h n).symm
theorem eqM.trans {f g k:Flds}(h:eqM f g)(h':eqM g k):eqM f k:=fun n=>(h n).trans (h' n)
@[simp] theorem Dl (n:Str):bD n []=none:=rfl
theorem cH (n:Str)(p:Str×Doc)(f:Flds):bD n (p::f)=if p.1=n then some p.2 else bD n f:=by obtain⟨k,d⟩:=p;rfl
theorem qu {n:Str}{f:Flds}:bD n f=none↔n∉f.map (·.1):=by
 induction f with
 |nil=>simp
 |cons p f ih=>
  rw[cH,List.map_cons,List.mem_cons,not_or,←ih]
  by_cases e:p.1=n
  ·
   simp[e]
  ·
   simp[e,Ne.symm e]
theorem mK {n:Str}{x:Doc}{f:Flds}(h:bD n f=some x):(n,x)∈f:=by
 induction f with
 |nil=>cases h
 |cons p f ih=>
  rw[cH] at h
  split at h
  ·
   rename_i e;cases h;subst e;simp
  ·
   simp[ih h]
theorem gc {f:Flds}(hn:bl f){p:Str×Doc}(h:p∈f):bD p.1 f=some p.2:=by
 induction f with
 |nil=>cases h
 |cons q f ih=>
  unfold bl at hn
  rw[List.map_cons,List.nodup_cons] at hn
  rw[cH]
  rcases List.mem_cons.1 h with rfl|h
  ·
   simp
  ·
   rw[if_neg (fun e=>hn.1 (by rw[e];exact List.mem_map.2 ⟨p,h,rfl⟩)),ih hn.2 h]
theorem bE (n m:Str)(x:Doc)(f:Flds):bD n (aq m x f)=if m=n then some x else bD n f:=by
 induction f with
 |nil=>rfl
 |cons p f ih=>
  obtain⟨k,d⟩:=p
  unfold aq
  split
  ·
   rename_i e
   subst e
   rw[cH,cH]
   by_cases e:k=n<;>simp[e]
  ·
   rename_i e
   rw[cH,ih,cH]
   by_cases e2:m=n
   ·
    subst e2;simp[e]
   ·
    simp[e2]
theorem yX (m:Str)(x:Doc)(f:Flds):(aq m x f).map (·.1)=if m∈f.map (·.1) then f.map (·.1) else f.map (·.1)++[m]:=by
 induction f with
 |nil=>rfl
 |cons p f ih=>
  obtain⟨k,d⟩:=p
  unfold aq
  split
  ·
   rename_i e;subst e;simp
  ·
   rename_i e
   rw[List.map_cons,ih,List.map_cons]
   have e':¬m=k:=fun e'=>e e'.symm
   simp only[List.mem_cons,e',false_or]
   split<;>simp
theorem bK {f:Flds}(m:Str)(x:Doc)(h:bl f):bl (aq m x f):=by
 unfold bl at *
 rw[yX]
 split
 ·
  exact h
 ·
  rename_i e
  rw[List.nodup_append]
  exact⟨h,by simp,fun a ha b hb=>by simp at hb;subst hb;exact fun e'=>e (e' ▸ ha)⟩
theorem yW {m n:Str}{f:Flds}(h:n∈(dY m f).map (·.1)):n∈f.map (·.1):=by
 induction f with
 |nil=>cases h
 |cons p f ih=>
  obtain⟨k,d⟩:=p
  unfold dY at h
  split at h
  ·
   simp[h]
  ·
   rw[List.map_cons,List.mem_cons] at h ⊢
   rcases h with h|h
   ·
    exact .inl h
   ·
    exact .inr (ih h)
theorem fc {f:Flds}(m:Str)(h:bl f):bl (dY m f):=by
 induction f with
 |nil=>exact h
 |cons p f ih=>
  obtain⟨k,d⟩:=p
  unfold bl at *
  rw[List.map_cons,List.nodup_cons] at h
  unfold dY
  split
  ·
   exact h.2
  ·
   rw[List.map_cons,List.nodup_cons]
   exact⟨fun hm=>h.1 (yW hm),ih h.2⟩
theorem dK (n m:Str){f:Flds}(h:bl f):bD n (dY m f)=if m=n then none else bD n f:=by
 induction f with
 |nil=>simp[dY]
 |cons p f ih=>
  obtain⟨k,d⟩:=p
  unfold bl at h
  rw[List.map_cons,List.nodup_cons] at h
  unfold dY
  split
  ·
   rename_i e
   subst e
   rw[cH]
   by_cases e2:k=n
   ·
    subst e2;rw[if_pos rfl];exact qu.2 h.1
   ·
    simp[e2]
  ·
   rename_i e
   rw[cH,ih h.2,cH]
   by_cases e2:m=n
   ·
    subst e2;simp[e]
   ·
    simp[e2]
def lC (f:Flds):Prop:=f.Pairwise fun p q=>ltS p.1 q.1=true
theorem tv {p q:Str×Doc}{f:Flds}:q∈kz p f↔q=p∨q∈f:=by
 induction f with
 |nil=>simp[kz]
 |cons z f ih=>
  unfold kz
  split
  ·
   simp
  ·
   simp only[List.mem_cons,ih]
   constructor
   ·
    rintro(h|h|h)<;>simp[h]
   ·
    rintro(h|h|h)<;>simp[h]
theorem gK {q:Str×Doc}{f:Flds}:q∈bz f↔q∈f:=by
 induction f with
 |nil=>simp[bz]
 |cons p f ih=>rw[bz,tv,ih,List.mem_cons]
theorem zJ {p:Str×Doc}{f:Flds}(h:lC f)(hn:∀q∈f,q.1≠p.1):lC (kz p f):=by
 induction f with
 |nil=>simp[kz,lC]
 |cons q f ih=>
  unfold lC at h
  rw[List.pairwise_cons] at h
  unfold kz
  split
  ·
   rename_i hc
   unfold lC
   rw[List.pairwise_cons,List.pairwise_cons]
   refine⟨fun z hz=>?_,h⟩
   rcases List.mem_cons.1 hz with rfl|hz
   ·
    exact hc
   ·
    exact aY hc (h.1 z hz)
  ·
   rename_i hc
   unfold lC
   rw[List.pairwise_cons]
   refine⟨fun z hz=>?_,ih h.2 fun z hz=>hn z (by simp[hz])⟩
   rcases tv.1 hz with rfl|hz
   ·
    exact aM (by simpa using hc) (hn q (by simp)).symm
   ·
    exact h.1 z hz
theorem fN {f:Flds}(h:bl f):lC (bz f):=by
 induction f with
 |nil=>exact List.Pairwise.nil
 |cons p f ih=>
  unfold bl at h
  rw[List.map_cons,List.nodup_cons] at h
  exact zJ (ih h.2) fun q hq e=>h.1 (by rw[←e];exact List.mem_map.2 ⟨q,gK.1 hq,rfl⟩)
theorem ma {f:Flds}(h:lC f):bl f:=by
 unfold bl lC at *
 rw[List.Nodup,List.pairwise_map]
 exact h.imp fun hab=>kG hab
theorem yL {f g:Flds}(hf:bl f)(hg:bl g)(h:∀p,p∈f↔p∈g):eqM f g:=by
 intro n
 cases h1:bD n f with
 |some x=>
  have:=gc hg ((h _).1 (mK h1))
  exact this.symm
 |none=>
  cases h2:bD n g with
  |none=>rfl
  |some x=>
   have:=gc hf ((h _).2 (mK h2))
   simp only at this
   rw[h1] at this;cases this
theorem iT {f:Flds}(h:bl f):eqM (bz f) f:=yL (ma (fN h)) h fun _=>gK
theorem pa:∀{f g:Flds},lC f→lC g→eqM f g→f=g
 |[],[],_,_,_=>rfl
 |[],q::g,_,_,h=>by have:=h q.1;rw[cH,if_pos rfl] at this;cases this
 |p::f,[],_,_,h=>by have:=h p.1;rw[cH,if_pos rfl] at this;cases this
 |p::f,q::g,hf,hg,h=>by
  have hf':=List.pairwise_cons.1 hf
  have hg':=List.pairwise_cons.1 hg
  have h1:=h p.1
  have h2:=h q.1
  rw[cH,if_pos rfl] at h1
  rw[cH (n:=q.1) (p:=q),if_pos rfl] at h2
  have m1:=mK h1.symm
  have m2:=mK h2
  have e:p=q:=by
   rcases List.mem_cons.1 m1 with e|m1
   ·
    exact e
   ·
    rcases List.mem_cons.1 m2 with e|m2
    ·
     exact e.symm
    ·
     have a:=hg'.1 _ m1
     have b:=hf'.1 _ m2
     rw[aN a] at b;cases b
  subst e
  congr 1
  refine pa hf'.2 hg'.2 fun n=>?_
  have hn:=h n
  rw[cH,cH] at hn
  by_cases e:p.1=n
  ·
   have none_of:∀r:Flds,(∀z∈r,ltS p.1 z.1=true)→bD n r=none:=by
    intro r hr
    rw[qu]
    intro hm
    obtain⟨z,hz,hz2⟩:=List.mem_map.1 hm
    exact kG (hr z hz) (e.trans hz2.symm)
   rw[none_of f hf'.1,none_of g hg'.1]
  ·
   rwa[if_neg e,if_neg e] at hn
theorem jE {f g:Flds}(hf:bl f)(hg:bl g)(h:eqM f g):ar f=ar g:=by
 have:bz f=bz g:=pa (fN hf) (fN hg) ((iT hf).trans (h.trans (iT hg).symm))
 unfold ar
 rw[this]
theorem lT:∀(ks:List Str)(ds:List Doc)(f:Flds),bl f→bl (cC f ks ds)
 |[],_,f,h=>by unfold cC;exact h
 |_::_,[],f,h=>by unfold cC;exact h
 |k::ks,d::ds,f,h=>by rw[cC];exact lT ks ds _ (bK k d h)
theorem cj (d:Doc):bl (ofD d):=lT _ _ _ (by simp[bl])
theorem pE {n:Str}:∀{ks:List Str}{ds:List Doc},n∉ks→dl n ks ds=none
 |[],_,_=>by simp[dl]
 |_::_,[],_=>by simp[dl]
 |k::ks,d::ds,h=>by
  rw[List.mem_cons,not_or] at h
  rw[dl,if_neg (fun e=>h.1 e.symm),pE h.2]
theorem n9 (n:Str):∀(ks:List Str)(ds:List Doc)(f:Flds),ks.Nodup→bD n (cC f ks ds)=(dl n ks ds).or (bD n f)
 |[],_,f,_=>by simp[cC,dl]
 |_::_,[],f,_=>by simp[cC,dl]
 |k::ks,d::ds,f,h=>by
  rw[List.nodup_cons] at h
  rw[cC,n9 n ks ds _ h.2,bE,dl]
  by_cases e:k=n
  ·
   subst e;rw[pE h.1];simp
  ·
   simp[e]
theorem mL {d:Doc}(h:d.keys.Nodup)(n:Str):bD n (ofD d)=dl n d.keys d.kids:=by
 unfold ofD
 rw[n9 n _ _ _ h]
 cases dl n d.keys d.kids<;>rfl
theorem kh (n:Str):∀f:Flds,dl n (f.map (·.1)) (f.map (·.2))=bD n f
 |[]=>rfl
 |p::f=>by rw[List.map_cons,List.map_cons,dl,cH,kh n f]
theorem gg {f:Flds}(h:bl f):eqM (ofD (ar f)) f:=by
 intro n
 rw[mL (d:=ar f) (ma (fN h))]
 exact(kh n (bz f)).trans (iT h n)
theorem wu:∀{ks:List Str}{ds:List Doc},ks.length=ds.length→(ks.zip ds).map (·.1)=ks∧(ks.zip ds).map (·.2)=ds
 |[],[],_=>⟨rfl,rfl⟩
 |[],_::_,h=>by cases h
 |_::_,[],h=>by cases h
 |k::ks,d::ds,h=>by
  obtain⟨h1,h2⟩:=wu (ks:=ks) (ds:=ds) (by simpa using h)
  simp[h1,h2]
theorem xy {d:Doc}(hk:d.kind=1)(hn:d.num=0)(hs:d.str=[])(hl:d.keys.length=d.kids.length)(ho:d.keys.Pairwise fun a b=>ltS a b=true):ar (ofD d)=d:=by
 obtain⟨z1,z2⟩:=wu hl
 have hz:lC (d.keys.zip d.kids):=by
  unfold lC
  rw[←z1,List.pairwise_map] at ho
  exact ho
 have hnd:d.keys.Nodup:=ho.imp fun h=>kG h
 have e:bz (ofD d)=d.keys.zip d.kids:=by
  refine pa (fN (cj d)) hz ((iT (cj d)).trans fun n=>?_)
  rw[mL hnd,←kh n (d.keys.zip d.kids),z1,z2]
 unfold ar
 rw[e,z1,z2]
 obtain⟨k,n,s,ks,ds⟩:=d
 simp only[Doc.kind,Doc.num,Doc.str] at hk hn hs
 subst hk;subst hn;subst hs
 rfl
theorem xJ (rec:Bool)(p:Option Str)(s:Str)(r:List Str):eq rec p (s::r)=((match p with|none=>true|some q=>ltS q s)&&(!rec||d8 s)&&decide (s.length≤256)&&eq rec (some s) r):=by cases p<;>rfl
theorem iV (rec:Bool):∀(p:Option Str)(ks:List Str),eq rec p ks=true↔(∀q,p=some q→∀s∈ks,ltS q s=true)∧(ks.Pairwise fun a b=>ltS a b=true)∧(rec=true→∀s∈ks,d8 s=true)∧∀s∈ks,s.length≤256
 |p,[]=>by simp[eq]
 |p,s::r=>by
  rw[xJ,Bool.and_eq_true,Bool.and_eq_true,Bool.and_eq_true,iV rec (some s) r,List.pairwise_cons]
  simp only[decide_eq_true_eq,Bool.or_eq_true,Bool.not_eq_true',List.mem_cons]
  constructor
  ·
   rintro⟨⟨⟨h1,h2⟩,h3⟩,h4,h5,h6,h7⟩
   refine⟨?_,⟨h4 s rfl,h5⟩,?_,?_⟩
   ·
    rintro q rfl x (rfl|hx)
    ·
     exact h1
    ·
     exact aY h1 (h4 s rfl x hx)
   ·
    rintro hr x (rfl|hx)
    ·
     rcases h2 with h2|h2
     ·
      rw[hr] at h2;cases h2
     ·
      exact h2
    ·
     exact h6 hr x hx
   ·
    rintro x (rfl|hx)
    ·
     exact h3
    ·
     exact h7 x hx
  ·
   rintro⟨h1,⟨h4,h5⟩,h6,h7⟩
   refine⟨⟨⟨?_,?_⟩,h7 s (.inl rfl)⟩,?_,h5,fun hr x hx=>h6 hr x (.inr hx),fun x hx=>h7 x (.inr hx)⟩
   ·
    cases p with
    |none=>rfl
    |some q=>exact h1 q rfl s (.inl rfl)
   ·
    cases hr:rec with
    |false=>exact .inl rfl
    |true=>exact .inr (h6 hr s (.inl rfl))
   ·
    rintro q hq x hx
    cases hq
    exact h4 x hx
end Go.V
end
section
namespace Go.V
def fC (l:List Fld):Prop:=l.Pairwise fun f g=>ltS f.name g.name=true
@[simp] theorem Cr (n:Str):ah n []=none:=rfl
theorem cv (n:Str)(f:Fld)(l:List Fld):ah n (f::l)=if f.name=n then some f else ah n l:=rfl
theorem cD {n:Str}{l:List Fld}{f:Fld}(h:ah n l=some f):f.name=n∧f∈l:=by
 induction l with
 |nil=>cases h
 |cons g l ih=>
  rw[cv] at h
  split at h
  ·
   rename_i e;cases h;exact⟨e,by simp⟩
  ·
   exact⟨(ih h).1,by simp[(ih h).2]⟩
theorem pF {f g:Fld}{l:List Fld}:g∈dU f l↔g=f∨g∈l:=by
 induction l with
 |nil=>simp[dU]
 |cons z l ih=>
  unfold dU
  split
  ·
   simp
  ·
   simp only[List.mem_cons,ih]
   constructor
   ·
    rintro(h|h|h)<;>simp[h]
   ·
    rintro(h|h|h)<;>simp[h]
theorem fE {f:Fld}{l:List Fld}(h:fC l)(hn:ah f.name l=none):fC (dU f l):=by
 induction l with
 |nil=>simp[dU,fC]
 |cons g l ih=>
  unfold fC at h
  rw[List.pairwise_cons] at h
  rw[cv] at hn
  split at hn
  ·
   cases hn
  ·
   rename_i e
   unfold dU
   split
   ·
    rename_i hc
    unfold fC
    rw[List.pairwise_cons,List.pairwise_cons]
    refine⟨fun z hz=>?_,h⟩
    rcases List.mem_cons.1 hz with rfl|hz
    ·
     exact hc
    ·
     exact aY hc (h.1 z hz)
   ·
    rename_i hc
    unfold fC
    rw[List.pairwise_cons]
    refine⟨fun z hz=>?_,ih h.2 hn⟩
    rcases pF.1 hz with rfl|hz
    ·
     exact aM (by simpa using hc) (fun e'=>e e'.symm)
    ·
     exact h.1 z hz
theorem cw (n:Str)(f:Fld)(l:List Fld)(hn:ah f.name l=none):ah n (dU f l)=if f.name=n then some f else ah n l:=by
 induction l with
 |nil=>rfl
 |cons g l ih=>
  rw[cv] at hn
  split at hn
  ·
   cases hn
  ·
   rename_i e
   unfold dU
   split
   ·
    rfl
   ·
    rw[cv,ih hn,cv]
    by_cases e2:f.name=n
    ·
     subst e2;simp[e]
    ·
     simp[e2]
theorem tu {n:Str}{g:Fld}{l:List Fld}(h:g∈bZ n l):g∈l:=by
 induction l with
 |nil=>cases h
 |cons z l ih=>
  unfold bZ at h
  split at h
  ·
   exact List.mem_cons_of_mem _ (ih h)
  ·
   rcases List.mem_cons.1 h with rfl|h
   ·
    simp
   ·
    exact List.mem_cons_of_mem _ (ih h)
theorem fD (n:Str){l:List Fld}(h:fC l):fC (bZ n l):=by
 induction l with
 |nil=>exact h
 |cons g l ih=>
  unfold fC at h
  rw[List.pairwise_cons] at h
  unfold bZ
  split
  ·
   exact ih h.2
  ·
   unfold fC
   rw[List.pairwise_cons]
   exact⟨fun z hz=>h.1 z (tu hz),ih h.2⟩
theorem bV (n m:Str)(l:List Fld):ah n (bZ m l)=if m=n then none else ah n l:=by
 induction l with
 |nil=>simp[bZ]
 |cons g l ih=>
  unfold bZ
  split
  ·
   rename_i e
   rw[ih,cv,e]
   by_cases e2:m=n<;>simp[e2]
  ·
   rename_i e
   rw[cv,ih,cv]
   by_cases e2:m=n
   ·
    subst e2;simp[e]
   ·
    simp[e2]
theorem fK {l:List Fld}(h:fC l){f:Fld}(hf:f∈l):ah f.name l=some f:=by
 induction l with
 |nil=>cases hf
 |cons g l ih=>
  unfold fC at h
  rw[List.pairwise_cons] at h
  rw[cv]
  rcases List.mem_cons.1 hf with rfl|hf
  ·
   simp
  ·
   rw[if_neg (kG (h.1 f hf)),ih h.2 hf]
theorem p9:∀{l m:List Fld},fC l→fC m→(∀n,ah n l=ah n m)→l=m
 |[],[],_,_,_=>rfl
 |[],y::m,_,_,h=>by have:=h y.name;rw[cv,if_pos rfl] at this;cases this
 |x::l,[],_,_,h=>by have:=h x.name;rw[cv,if_pos rfl] at this;cases this
 |x::l,y::m,hl,hm,h=>by
  have h1:=h x.name
  have h2:=h y.name
  rw[fK hl (by simp)] at h1
  rw[fK hm (by simp)] at h2
  have m1:=(cD h1.symm).2
  have m2:=(cD h2).2
  have hl':=List.pairwise_cons.1 hl
  have hm':=List.pairwise_cons.1 hm
  have e:x=y:=by
   rcases List.mem_cons.1 m1 with e|m1
   ·
    exact e
   ·
    rcases List.mem_cons.1 m2 with e|m2
    ·
     exact e.symm
    ·
     have a:=hm'.1 x m1
     have b:=hl'.1 y m2
     rw[aN a] at b;cases b
  subst e
  congr 1
  refine p9 hl'.2 hm'.2 fun n=>?_
  have hp:=h n
  rw[cv,cv] at hp
  by_cases e:x.name=n
  ·
   have none_of:∀r:List Fld,(∀z∈r,ltS x.name z.name=true)→ah n r=none:=by
    intro r hr
    cases hf:ah n r with
    |none=>rfl
    |some z=>
     obtain⟨q1,q2⟩:=cD hf
     exact absurd (e.trans q1.symm) (kG (hr z q2))
   rw[none_of l hl'.1,none_of m hm'.1]
  ·
   rwa[if_neg e,if_neg e] at hp
theorem kK:∀(p:Option Str)(l:List Fld),eh p l=true↔(∀q,p=some q→∀f∈l,ltS q f.name=true)∧fC l∧∀f∈l,d8 f.name=true∧fV f.ty=true
 |p,[]=>by simp[eh,fC]
 |p,f::r=>by
  rw[pT,Bool.and_eq_true,Bool.and_eq_true,Bool.and_eq_true,kK (some f.name) r]
  unfold fC
  rw[List.pairwise_cons]
  simp only[List.mem_cons]
  constructor
  ·
   rintro⟨⟨⟨h1,h2⟩,h3⟩,h4,h5,h6⟩
   refine⟨?_,⟨h4 _ rfl,h5⟩,?_⟩
   ·
    rintro q rfl x (rfl|hx)
    ·
     exact h2
    ·
     exact aY h2 (h4 _ rfl x hx)
   ·
    rintro x (rfl|hx)
    ·
     exact⟨h1,h3⟩
    ·
     exact h6 x hx
  ·
   rintro⟨h1,⟨h4,h5⟩,h6⟩
   refine⟨⟨⟨(h6 f (.inl rfl)).1,?_⟩,(h6 f (.inl rfl)).2⟩,?_,h5,fun x hx=>h6 x (.inr hx)⟩
   ·
    cases p with
    |none=>rfl
    |some q=>exact h1 q rfl f (.inl rfl)
   ·
    rintro q hq x hx
    cases hq
    exact h4 x hx
theorem uS {l:List Fld}{f:Fld}(h:f∈l):dG f.ty≤cn l∧cZ f.ty≤ct l:=by
 induction l with
 |nil=>cases h
 |cons g l ih=>
  rw[gm,hJ]
  rcases List.mem_cons.1 h with rfl|h
  ·
   omega
  ·
   have:=ih h;omega
theorem zH {l:List Ty}{t:Ty}(h:t∈l):dG t≤co l∧cZ t≤dT l:=by
 induction l with
 |nil=>cases h
 |cons g l ih=>
  rw[co,dT]
  rcases List.mem_cons.1 h with rfl|h
  ·
   omega
  ·
   have:=ih h;omega
theorem fe (t:Ty):bq t=true↔dG t≤128∧cZ t≤12∧fV t=true:=by
 unfold bq
 simp[and_assoc]
structure gd (r:Ty):Prop where
 right:bq r=true
 kind:r.kind=1
theorem Ty.eta (t:Ty):t=.mk t.kind t.lo t.hi t.names t.fields t.of:=by cases t;rfl
theorem xe {t:Ty}(h:lD t=true)(hk:t.kind=1):t=dA t.fields:=by
 obtain⟨k,lo,hi,ns,fs,ts⟩:=t
 simp only[Ty.kind] at hk
 subst hk
 simp[lD,tq,Ty.kind,Ty.names,Ty.of,Ty.lo,Ty.hi] at h
 obtain⟨⟨h1,h2⟩,h3,h4⟩:=h
 replace h3:=of_decide_eq_true h3
 replace h4:=of_decide_eq_true h4
 subst h1;subst h2;subst h3;subst h4
 rfl
theorem gd.parts {r:Ty}(h:gd r):r=dA r.fields∧fC r.fields∧∀f∈r.fields,d8 f.name=true∧bq f.ty=true:=by
 have h1:=(fe r).1 h.right
 have h2:=h1.2.2
 rw[nH,Bool.and_eq_true,if_pos h.kind,Bool.and_eq_true,kK] at h2
 refine⟨xe h2.1 h.kind,h2.2.1.2.1,fun f hf=>⟨(h2.2.1.2.2 f hf).1,?_⟩⟩
 rw[fe]
 have h3:=uS hf
 have h4:=iX r
 have h5:=jD r
 exact⟨by omega,by omega,(h2.2.1.2.2 f hf).2⟩
theorem gd.fld {r:Ty}(h:gd r){n:Str}{f:Fld}(hf:ah n r.fields=some f):f.name=n∧d8 n=true∧bq f.ty=true:=by
 obtain⟨h1,h2⟩:=cD hf
 have:=h.parts.2.2 f h2
 exact⟨h1,h1 ▸ this.1,this.2⟩
theorem gd.fieldR {r:Ty}(h:gd r)(n:Str):fieldR r n=ah n r.fields:=by unfold V.fieldR;rw[if_pos h.kind]
theorem aj (l:List Fld):(dA l).fields=l:=rfl
theorem xO (l:List Fld):(dA l).kind=1:=rfl
theorem gj {t:Ty}(h:bq t=true)(hk:t.kind=2∨t.kind=3):∃u,t=.mk t.kind t.lo t.hi [] [] [u]∧bq u=true:=by
 obtain⟨h1,h2,h3⟩:=(fe t).1 h
 have h4:=iX t
 have h5:=jD t
 obtain⟨k,lo,hi,ns,fs,ts⟩:=t
 simp only[Ty.kind,Ty.fields,Ty.of,Ty.lo,Ty.hi] at *
 rw[fV,Bool.and_eq_true,if_neg (by omega),if_pos hk,Bool.and_eq_true,Bool.and_eq_true,Bool.and_eq_true] at h3
 obtain⟨h6,⟨⟨h7,_⟩,_⟩,h8⟩:=h3
 have k1:¬k=1:=by omega
 have k7:¬k=7:=by omega
 simp[lD,Ty.kind,Ty.names,Ty.of,Ty.lo,Ty.hi,Ty.fields,k1,k7] at h6
 obtain⟨⟨⟨e1,e2⟩,_⟩,_⟩:=h6
 subst e1;subst e2
 match ts,h7,h8 with
 |[u],_,h8=>
  refine⟨u,rfl,?_⟩
  rw[fe]
  have h9:=zH (l:=[u]) (t:=u) (by simp)
  exact⟨by omega,by omega,h8⟩
theorem pQ {l m:List Fld}(hl:fC l)(hm:fC m)(h:∀n,ah n l=ah n m):dA l=dA m:=by rw[p9 hl hm h]
theorem Fld.eta (f:Fld):f=.mk f.name f.opt f.ty:=by cases f;rfl
end Go.V
end
