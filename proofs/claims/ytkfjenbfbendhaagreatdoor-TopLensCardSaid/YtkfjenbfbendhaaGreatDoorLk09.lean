/-
  A part of a proof: R2 D2 R3 R4 R5.
-/
import Derived.Test.YtkfjenbfbendhaaGreatDoorLk08
set_option linter.unusedSimpArgs false
set_option linter.unusedVariables false
section
namespace Go.V
open Go Go.Proofs
section
variable {P:Program} {Γ:Glo P}
mutual
theorem Rel.low {F:Fro}{ρ:Pl}{N:Nat}(hf:∀i,N≤i→ρ i=none):∀(v:Val)(x:Value),Rel F ρ v x→aR N v=true
 |.bool _,_,_|.int _ _,_,_|.str _,_,_|.nilp,_,_|.nils,_,_|.nilm,_,_|.nilf,_,_|.nili,_,_|.sle,_,_|.jk _,_,_=>by simp[aR]
 |.pp cs,x,h=>by
  simp only[Rel,aR] at *
  obtain⟨b,o,c,h1,h2,h3⟩:=h
  exact RelL.low hf _ _ h3
 |.pr id off,x,h=>by
  simp only[Rel,aR,decide_eq_true_eq] at *
  obtain⟨L,h1,h2⟩:=h
  rcases Nat.lt_or_ge id N with h|h
  ·
   exact h
  ·
   rw[hf id h] at h1;cases h1
 |.so id off n cap,x,h=>by
  simp only[Rel,aR,decide_eq_true_eq] at *
  obtain⟨L,k,h1,h2⟩:=h
  rcases Nat.lt_or_ge id N with h|h
  ·
   exact h
  ·
   rw[hf id h] at h1;cases h1
 |.mp id,x,h=>by
  simp only[Rel,aR,decide_eq_true_eq] at *
  obtain⟨L,h1,h2⟩:=h
  rcases Nat.lt_or_ge id N with h|h
  ·
   exact h
  ·
   rw[hf id h] at h1;cases h1
 |.sl cs n cap,x,h=>by
  simp only[Rel,aR] at *
  rcases h with ⟨_,_,h,_⟩|⟨b,o,c,k,h1,h2,h3,h4,h5⟩
  ·
   subst h;rfl
  ·
   exact RelL.low hf _ _ h5
 |.fn f us0 cs,x,h=>by
  simp only[Rel,aR,Bool.and_eq_true] at *
  obtain⟨us,vs,h1,h2,h3⟩:=h
  exact⟨RelL.low hf _ _ h2,RelL.low hf _ _ h3⟩
 |.ifc t v,x,h=>by
  simp only[Rel,aR] at *
  obtain⟨y,h1,h2⟩:=h
  exact Rel.low hf _ _ h2
 |.ag cs,x,h=>by
  simp only[Rel,aR] at *
  obtain⟨vs,h1,h2⟩:=h
  exact RelL.low hf _ _ h2
 |.tp cs,x,h=>by
  simp only[Rel,aR] at *
  obtain⟨vs,h1,h2⟩:=h
  exact RelL.low hf _ _ h2
theorem RelL.low {F:Fro}{ρ:Pl}{N:Nat}(hf:∀i,N≤i→ρ i=none):∀(vs:List Val)(xs:List Value),RelL F ρ vs xs→aa N vs=true
 |[],_,_=>rfl
 |v::vs,xs,h=>by
  simp only[RelL,aa,Bool.and_eq_true] at *
  obtain⟨y,ys,h1,h2,h3⟩:=h
  exact⟨Rel.low hf _ _ h2,RelL.low hf _ _ h3⟩
end
theorem RelL.of_get {F:Fro}{ρ:Pl}:∀{vs:List Val}{xs:List Value},vs.length=xs.length→(∀(t:Nat)(v:Val)(x:Value),vs[t]?=some v→xs[t]?=some x→Rel F ρ v x)→RelL F ρ vs xs
 |[],[],_,_=>.nil
 |[],_::_,h,_=>by cases h
 |_::_,[],h,_=>by cases h
 |v::vs,x::xs,h,hr=>.cons (hr 0 v x rfl rfl) (RelL.of_get (by simpa using h) fun t v' x' h1 h2=>hr (t+1) v' x' (by simpa using h1) (by simpa using h2))
theorem gI (A B:List (Nat×Nat))(t:Nat):inM (A++B) t=(inM A t||inM B t):=by
 induction A with
 |nil=>rfl
 |cons p A ih=>obtain⟨lo,hi⟩:=p;simp[inM,ih,Bool.or_assoc]
theorem kD (L:List Nat)(t:Nat):inM (L.map fun t=>(t,t)) t=L.contains t:=by
 induction L with
 |nil=>rfl
 |cons p L ih=>
  simp only[List.map_cons,inM,ih,List.contains_cons]
  congr 1
  by_cases e:t=p
  ·
   subst e;simp
  ·
   have:(t==p)=false:=by simpa using e
   rw[this]
   simp only[Bool.and_eq_false_iff,decide_eq_false_iff_not]
   omega
theorem am (D:List (Nat×Nat))(L:List Nat)(I:Nat→List Val→Heap→Prop){c:Code}{Q:Post}{k:Nat}{a0:List Val}{h0:Heap}{N0:Nat}(hI0:I k a0 h0)
  (hI:∀a1:List Val,(∀t v,lk a0 t=some v→lk a1 t=some v)→a1.length=a0.length→∀k a h,Frm (D++L.map fun t=>(t,t)) a1 a→I k a h→
   W P Γ c a h N0 (eD (fun a' h' _=>Frm (D++L.map fun t=>(t,t)) a1 a'∧(∀t∈L,∀v,lk a' t=some v→aR N0 v=true)∧
    ∃h2,(∀i b,get h2 i=some b→get h' i=some b)∧bc N0 h2=true∧∃j,k=j+1∧∀a2,Frm D a' a2→I j a2 h2) Q)):W P Γ (.loop c) a0 h0 N0 Q:=by
 intro F ρ w0 O w act hG m hf ha hd
 have hfn:∀i,N0≤i→ρ i=none:=fun i hi=>hf i hi (.inl rfl)
 have mono:∀n Q1 Q2 act w,(∀e a w,Q1 e a w→Q2 e a w)→Code.rounds P c Q1 n act w→Code.rounds P c Q2 n act w:=by
  intro n
  induction n with
  |zero=>intro _ _ _ _ _ h;exact h.elim
  |succ n ihn=>
   intro Q1 Q2 act w hq hr
   rw[rounds_succ] at hr ⊢
   refine wp_mono hr ?_
   intro e a w he
   cases e with
   |normal=>exact ihn Q1 Q2 a w hq he
   |exit id=>exact hq _ _ _ he
   |goto l=>exact hq _ _ _ he
   |ret=>exact hq _ _ _ he
   |panic ch=>exact hq _ _ _ he
   |outgrown=>exact hq _ _ _ he
 have hlow0:aa N0 a0=true:=RelL.low hfn _ _ ha
 have lowAt:∀t v,lk a0 t=some v→aR N0 v=true:=by
  have key:∀(l:List Val) (t:Nat) (v:Val),aa N0 l=true→l[t]?=some v→aR N0 v=true:=by
   intro l
   induction l with
   |nil=>intro t v _ h;simp at h
   |cons x l ih=>
    intro t v h1 h2
    simp only[aa,Bool.and_eq_true] at h1
    cases t with
    |zero=>simp at h2;subst h2;exact h1.1
    |succ t=>exact ih t v h1.2 (by simpa using h2)
  intro t v h
  exact key a0 t v hlow0 h
 refine wp_loop_rounds (k+1) ?_
 have key:∀n a h F w act,Frm (D++L.map fun t=>(t,t)) a0 a→I n a h→GOk F Γ→Mem P F ρ h w0 O w→RelL F ρ a act.tmps.toList→act.defers=[]→Code.rounds P c (Conc P Q F ρ w0 O N0) (n+1) act w:=by
  intro n
  induction n with
  |zero=>
   intro a h F w act hF hi hG m ha hd
   rw[rounds_succ]
   refine jq (hI a0 (fun _ _ h=>h) rfl 0 a h hF hi) hG m hf ha hd ?_
   rintro F' ρ' a' h' N' act' w' g1 g2 g3 g4 g5 ⟨_,_,_,_,_,j,hj,_⟩
   omega
  |succ n ih=>
   intro a h F w act hF hi hG m ha hd
   rw[rounds_succ]
   refine jq (hI a0 (fun _ _ h=>h) rfl (n+1) a h hF hi) hG m hf ha hd ?_
   rintro F' ρ' a' h' N' act' w' g1 g2 g3 g4 g5 ⟨q1,q2,h2,q3,q4,j,hj,q5⟩
   have hjn:j=n:=by omega
   subst hjn
   have hcut:cut ρ' N0=ρ:=by
    funext i
    unfold cut
    split
    ·
     exact g2.out i (by omega)
    ·
     exact(hfn i (by omega)).symm
   have hl3:=g3.length
   let a2:List Val:=act'.tmps.toList.mapIdx fun t x=>if inM D t=true then .jk x else (a'[t]?).getD uv
   have hl2:a2.length=act'.tmps.toList.length:=by simp[a2]
   have hat:∀t v,a2[t]?=some v→∃x,act'.tmps.toList[t]?=some x∧v=if inM D t=true then .jk x else (a'[t]?).getD uv:=by
    intro t v hv
    simp only[a2,List.getElem?_mapIdx] at hv
    cases hx:act'.tmps.toList[t]? with
    |none=>rw[hx] at hv;cases hv
    |some x=>rw[hx] at hv;simp only[Option.map_some,Option.some.injEq] at hv;exact⟨x,rfl,hv.symm⟩
   have hF2:Frm D a' a2:=by
    refine⟨by rw[hl2,hl3],fun t ht=>?_⟩
    unfold lk
    cases hv:a2[t]? with
    |none=>
     rw[List.getElem?_eq_none_iff] at hv
     exact(List.getElem?_eq_none_iff.2 (by omega)).symm
    |some v=>
     obtain⟨x,hx,rfl⟩:=hat t v hv
     rw[if_neg (by simp[ht])]
     have:t<a'.length:=by
      rw[←hl3]
      rcases Nat.lt_or_ge t act'.tmps.toList.length with h|h
      ·
       exact h
      ·
       rw[List.getElem?_eq_none h] at hx;cases hx
     rw[List.getElem?_eq_getElem this]
     rfl
   have hr2:RelL F' ρ a2 act'.tmps.toList:=by
    refine RelL.of_get hl2 fun t v x hv hx=>?_
    obtain⟨y,hy,rfl⟩:=hat t v hv
    rw[hx] at hy;cases hy
    by_cases ht:inM D t=true
    ·
     rw[if_pos ht];simp[Rel]
    ·
     rw[if_neg ht]
     have hlt:t<a'.length:=by
      rw[←hl3]
      rcases Nat.lt_or_ge t act'.tmps.toList.length with h|h
      ·
       exact h
      ·
       rw[List.getElem?_eq_none h] at hx;cases hx
     have hv':a'[t]?=some a'[t]:=List.getElem?_eq_getElem hlt
     rw[hv']
     obtain⟨z,hz1,hz2⟩:=g3.get hv'
     rw[hx] at hz1;cases hz1
     have hlow:aR N0 a'[t]=true:=by
      by_cases hL:L.contains t=true
      ·
       exact q2 t (by simpa using hL) _ hv'
      ·
       refine lowAt t _ ?_
       rw[←q1.same t (by rw[gI,kD];simp only[Bool.not_eq_true] at ht hL;rw[ht,hL];rfl)]
       exact hv'
     have:=Rel.cut _ _ hlow hz2
     rw[hcut] at this
     exact this
   have hm2:Mem P F' ρ h2 w0 O w':=by
    have:=(g5.sub q3).cut q4
    rw[hcut] at this
    exact this
   have hFr:Frm (D++L.map fun t=>(t,t)) a0 a2:=q1.trans hF2 (fun t ht=>by rw[gI] at ht;simp at ht;simpa using ht.1)
   refine mono _ _ _ _ _ (fun e a w hc=>Conc.later ⟨g2.f,PLe.refl ρ,g2.new,fun _ _=>rfl⟩ (Nat.le_refl _) hc) (ih a2 h2 F' w' act' hFr (q5 a2 hF2) (hG.mono g2.f) hm2 hr2 g4)
 exact key k a0 h0 F w act (Frm.refl _ _) hI0 hG m ha hd
structure Sm where
 ro:Bool
 n:Nat
 n':Nat
 keys:List Nat
 tn:List Nat
structure Mt (r:Rec)(s:Sm):Prop where
 ro:r.ro=s.ro
 all:r.all=false
 n:r.n=s.n
 n':r.n'=s.n'
 keys:∀id,(get r.fp id).isSome=true→id∈s.keys
 tn:r.ro=false→∀id,get r.fp' id≠get r.fp id→¬(r.n≤id∧id<r.n')→id∈s.tn
def BE (s:Sm)(x:Nat):Bool:=s.keys.contains x||(decide (s.n≤x)&&decide (x<s.n'))
def Ag (r:Sm):List Nat:=(List.range (r.n'-r.n)).map (· + r.n)
def yu (r s:Sm):Bool:=(r.ro||(r.tn++Ag r).all fun x=>!BE s x)&&(s.ro||(s.tn++Ag s).all fun x=>!BE r x)
def yJ (ops:Array Oper)(ms:List Sm):Bool:=(lI ops).all fun p=>yu (ms.getD p.1 ⟨true,0,0,[],[]⟩) (ms.getD p.2 ⟨true,0,0,[],[]⟩)
theorem Mt.tou {r:Rec}{s:Sm}(h:Mt r s){x:Nat}(ht:tou r x):BE s x=true:=by
 unfold V.tou at ht
 unfold BE
 rcases ht with ht|ht
 ·
  simp[h.keys x ht]
 ·
  rw[h.n,h.n'] at ht;simp[ht.1,ht.2]
theorem Mt.wri {r:Rec}{s:Sm}(h:Mt r s){x:Nat}(hw:wri r x):s.ro=false∧x∈s.tn++Ag s:=by
 obtain⟨w1,w2,w3⟩:=hw
 refine⟨by rw[←h.ro];exact w1,?_⟩
 by_cases hn:r.n≤x∧x<r.n'
 ·
  refine List.mem_append_right _ ?_
  unfold Ag
  rw[h.n,h.n'] at hn
  exact List.mem_map.2 ⟨x-s.n,by simp;omega,by omega⟩
 ·
  rcases w3 with w3|w3
  ·
   exact(hn w3).elim
  ·
   exact List.mem_append_left _ (h.tn w1 x w3 hn)
theorem vK {r1 r2:Rec}{s1 s2:Sm}(h1:Mt r1 s1)(h2:Mt r2 s2)(hf:yu s1 s2=true):(∀id,wri r1 id→¬tou r2 id)∧∀id,wri r2 id→¬tou r1 id:=by
 unfold yu at hf
 simp only[Bool.and_eq_true,Bool.or_eq_true,List.all_eq_true,Bool.not_eq_true'] at hf
 refine⟨fun id hw ht=>?_,fun id hw ht=>?_⟩
 ·
  obtain⟨q1,q2⟩:=h1.wri hw
  rcases hf.1 with q|q
  ·
   rw[q1] at q;cases q
  ·
   have:=q id q2;rw[h2.tou ht] at this;cases this
 ·
  obtain⟨q1,q2⟩:=h2.wri hw
  rcases hf.2 with q|q
  ·
   rw[q1] at q;cases q
  ·
   have:=q id q2;rw[h1.tou ht] at this;cases this
def Bo:List Rec→List Sm→Prop
 |[],[]=>True
 |r::rs,s::ss=>Mt r s∧Bo rs ss
 |_,_=>False
def WD (P:Program)(Γ:Glo P)(ops:Array Oper)(Q:Post)(acc:List Sm)(os:List Oper)(a:List Val)(h:Heap)(N:Nat):Prop:=
 ∀hx,(∀i,get hx i=get h i)→∃rs ms,rb P Γ ops (fun a hy N=>∃h',(∀i,get hy i=get h' i)∧Q .normal a h' N) os rs a hx N∧Bo rs ms∧yJ ops (acc++ms)=true
theorem n8 {rs:List Rec}{ms:List Sm}(h:Bo rs ms):∀k,k<rs.length→Mt (rs.getD k ⟨uv,0,0,false,true,[],[]⟩) (ms.getD k ⟨true,0,0,[],[]⟩):=by
 induction rs generalizing ms with
 |nil=>intro k hk;simp at hk
 |cons r rs ih=>
  intro k hk
  cases ms with
  |nil=>exact h.elim
  |cons s ms=>
   cases k with
   |zero=>exact h.1
   |succ k=>simpa using ih h.2 k (by simpa using hk)
theorem qg {ops:Array Oper}{K K':List Val→Heap→Nat→Prop}(hK:∀a h N,K a h N→K' a h N):∀{l:List Oper}{rs:List Rec}{a:List Val}{h:Heap}{N:Nat},rb P Γ ops K l rs a h N→rb P Γ ops K' l rs a h N
 |[],[],_,_,_,hd=>hK _ _ _ hd
 |[],_::_,_,_,_,hd=>hd.elim
 |_::_,[],_,_,_,hd=>hd.elim
 |_::_,_::_,_,_,_,hd=>⟨hd.1,hd.2.1,qg hK hd.2.2⟩
theorem gz {id:Nat}{ops:Array Oper}{a:List Val}{h:Heap}{N:Nat}{Q:Post}(hrun:WD P Γ ops Q [] ops.toList a h N)
  (hQ:∀a h hy N,(∀i,get hy i=get h i)→Q .normal a h N→Q .normal a hy N) (hm:P.follows .mixedOrders=true:=by kernel_rfl) (hlow:ti ops=true:=by kernel_rfl) (hap:jr ops=true:=by kernel_rfl):W P Γ (.region id ops true) a h N Q:=by
 obtain⟨rs,ms,hr,hms,hfr⟩:=hrun h (fun _=>rfl)
 simp only[List.nil_append] at hfr
 have hrun:rb P Γ ops (fun a h N=>Q .normal a h N) ops.toList rs a h N:=qg (fun a hy N ⟨h',h1,h2⟩=>hQ a h' hy N h1 h2) hr
 have hlen:=jx hrun
 let rf:Nat→Rec:=fun k=>rs.getD k ⟨uv,0,0,false,true,[],[]⟩
 have hrf:∀k,k<ops.toList.length→rs[k]?=some (rf (([]:List Oper).length+k)):=by
  intro k hk
  simp only[List.length_nil,Nat.zero_add,rf]
  rw[List.getD_eq_getElem?_getD,List.getElem?_eq_getElem (by omega)]
  rfl
 obtain⟨⟨an,hn,N',g1,g2,g3,g4,g5,g6⟩,g7,g8⟩:=mz (rf:=rf) (a0:=a) (h0:=h) (done:=[]) (by simp) hrf hrun rfl (fun _=>rfl) (fun _=>rfl)
 refine x8 (rs:=rf) hm ⟨?_,g5,fun k hk=>?_,fun k o hk=>g7 k o (Nat.zero_le _) hk,?_⟩ g1 g2 g3 g4
 ·
  intro j o e ho he hb
  unfold ti at hlow
  rw[List.all_eq_true] at hlow
  have:=hlow (o,j) (by rw[List.mem_zipIdx_iff_getElem?];simpa using ho)
  simp only[List.all_eq_true] at this
  have:=this e (by simpa using he)
  simpa[hb] using this
 ·
  obtain⟨q1,q2,q3⟩:=g6 k (Nat.zero_le _) hk
  exact⟨q1,q2,q3,fun i hi=>g8 i k (Nat.zero_le _) hi hk⟩
 ·
  intro i j oi oj hij hoi hoj hdb
  have hjn:=ki hoj
  have hmem:(i,j)∈lI ops:=by
   unfold lI
   rw[List.mem_flatMap]
   refine⟨j,by simpa using hjn,?_⟩
   rw[List.mem_map]
   exact⟨i,by rw[List.mem_filter];exact⟨by simpa using hij,by simp[hdb]⟩,rfl⟩
  have h1:oi.apart ops oj=true:=by
   unfold jr at hap
   rw[List.all_eq_true] at hap
   have:=hap (i,j) hmem
   simpa[hoi,hoj] using this
  have hjl:j<rs.length:=by rw[hlen];simpa using hjn
  have m1:=n8 hms i (by omega)
  have m2:=n8 hms j hjl
  unfold yJ at hfr
  rw[List.all_eq_true] at hfr
  obtain⟨f1,f2⟩:=vK m1 m2 (hfr (i,j) hmem)
  exact⟨h1,⟨f1,f2⟩,(fun ha=>by rw[show(rf i).all=false from m1.all] at ha;cases ha),(fun ha=>by rw[show(rf j).all=false from m2.all] at ha;cases ha)⟩
theorem Cf {ops:Array Oper}{Q:Post}{acc:List Sm}{a:List Val}{h:Heap}{N:Nat}(hq:Q .normal a h N)(hf:yJ ops acc=true:=by kernel_rfl):WD P Γ ops Q acc [] a h N:=
 fun hx he=>⟨[],[],⟨h,he,hq⟩,trivial,by simpa using hf⟩
theorem iG {ops:Array Oper}{Q:Post}{acc:List Sm}{o:Oper}{os:List Oper}{a:List Val}{h h2:Heap}{N:Nat}{r:Rec}{s:Sm}(hn:r.n=N)(hg:aO ops o a=true)(hs:jo P Γ o a r)(hb:∀id b,get r.fp id=some b→get h id=some b)
  (hm:Mt r s) (h2e:∀hx,(∀i,get hx i=get h i)→∀i,get (dw hx r) i=get h2 i) (hk:WD P Γ ops Q (acc++[s]) os (dJ a o.dst r.v) h2 r.n'):WD P Γ ops Q acc (o::os) a h N:=by
 intro hx he
 obtain⟨rs,ms,q1,q2,q3⟩:=hk (dw hx r) (h2e hx he)
 exact⟨r::rs,s::ms,⟨hn,.inl ⟨hg,hs,fun id b hh=>by rw[he id];exact hb id b hh⟩,q1⟩,⟨hm,q2⟩,by simpa using q3⟩
theorem BP {ops:Array Oper}{Q:Post}{acc:List Sm}{o:Oper}{os:List Oper}{a:List Val}{h:Heap}{N:Nat}(hk:WD P Γ ops Q (acc++[⟨true,N,N,[],[]⟩]) os (dJ a o.dst uv) h N)(hg:aO ops o a=false:=by (simp[*]<;>fail)):WD P Γ ops Q acc (o::os) a h N:=by
 intro hx he
 obtain⟨rs,ms,q1,q2,q3⟩:=hk hx he
 refine⟨⟨uv,N,N,false,true,[],[]⟩::rs,⟨true,N,N,[],[]⟩::ms,⟨rfl,.inr ⟨hg,⟨rfl,rfl,rfl,rfl,rfl,rfl⟩⟩,q1⟩,⟨⟨rfl,rfl,rfl,rfl,by simp[get],by simp⟩,q2⟩,by simpa using q3⟩
theorem ET {ops:Array Oper}{Q:Post}{acc:List Sm}{d:Option Tmp}{op:Op}{t:TypeId}{p:String}{af:Array Edge}{j:Nat}{w b:Bool}{r:Option Bool}{os:List Oper}{a:List Val}{h:Heap}{N:Nat}
  (h1:b=true→WD P Γ ops Q acc (⟨d,op,t,p,af,some (j,w)⟩::os) a h N) (h2:b=false→WD P Γ ops Q acc (⟨d,op,t,p,af,some (j,w)⟩::os) a h N)
  (hy:yl ops a j=r:=by (simp[*];with_reducible rfl)) (hr:r=some b:=by with_reducible rfl):WD P Γ ops Q acc (⟨d,op,t,p,af,some (j,w)⟩::os) a h N:=by
 have:=hy.trans hr
 cases b with
 |true=>exact h1 rfl
 |false=>exact h2 rfl
theorem EV {ops:Array Oper}{Q:Post}{acc:List Sm}{o:Oper}{os:List Oper}{a:List Val}{h h':Heap}{N:Nat}{v:Val}{r:Option (Val×Heap)}(hk:WD P Γ ops Q (acc++[⟨true,N,N,[],[]⟩]) os (dJ a o.dst v) h N)
  (hro:jc o.op=true:=by rfl) (hg:aO ops o a=true:=by first|exact dE (by with_reducible rfl)|(simp[*]<;>fail)) (he:bW P Γ o a [] N=r:=by (simp[*];with_reducible rfl)) (hr:r=some (v,h'):=by with_reducible rfl):WD P Γ ops Q acc (o::os) a h N:=by
 refine iG (r:=⟨v,N,N,false,true,[],[]⟩) rfl hg (pL hro (he.trans hr)) (by simp[get]) ⟨rfl,rfl,rfl,rfl,by simp[get],by simp⟩ (fun hx h1 i=>?_) hk
 unfold dw
 simpa using h1 i
def vid:Val→Option Nat
 |.pr i _|.so i _ _ _|.mp i=>some i
 |_=>none
def Ah (Γ:Glo P)(a:List Val)(op:Op):Option Nat:=
 match op with
 |.load _ p|.store _ p _|.lookup _ p _ _|.slice _ p _ _ _|.mapUpdate _ p _ _=>(ev Γ a p).bind vid
 |.call ⟨.builtin _,args,_⟩=>(args[0]?).bind fun p=>(ev Γ a p).bind vid
 |_=>none
theorem EW {ops:Array Oper}{Q:Post}{acc:List Sm}{o:Oper}{os:List Oper}{a:List Val}{h h':Heap}{N id:Nat}{b:Blk}{v:Val}{r:Option (Val×Heap)}{q:Option Nat}{gb:Option Blk}(hk:WD P Γ ops Q (acc++[⟨true,N,N,[id],[]⟩]) os (dJ a o.dst v) h N)
  (hro:jc o.op=true:=by rfl) (hg:aO ops o a=true:=by first|exact dE (by with_reducible rfl)|(simp[*]<;>fail))
  (hi:Ah Γ a o.op=q:=by (simp[Ah,vid, *];with_reducible rfl)) (hq:q=some id:=by with_reducible rfl) (hb:get h id=gb:=by (simp[V.get, *];with_reducible rfl)) (hgb:gb=some b:=by with_reducible rfl)
  (he:bW P Γ o a [(id,b)] N=r:=by (simp[*];with_reducible rfl)) (hr:r=some (v,h'):=by with_reducible rfl):WD P Γ ops Q acc (o::os) a h N:=by
 have hb':=hb.trans hgb
 refine iG (r:=⟨v,N,N,false,true,[(id,b)],[(id,b)]⟩) rfl hg (pL hro (he.trans hr)) (aP hb' aU) ⟨rfl,rfl,rfl,rfl,?_,by simp⟩ (fun hx h1 i=>?_) hk
 ·
  intro i hi
  simp only[get] at hi
  split at hi
  ·
   rename_i e;simp[e]
  ·
   simp at hi
 ·
  unfold dw
  simpa using h1 i
theorem EU {ops:Array Oper}{Q:Post}{acc:List Sm}{o:Oper}{os:List Oper}{a:List Val}{h h2:Heap}{N:Nat}{b:Blk}{v:Val}{r:Option (Val×Heap)}(hk:WD P Γ ops Q (acc++[⟨false,N,N+1,[],[]⟩]) os (dJ a o.dst v) h2 (N+1))
  (hg:aO ops o a=true:=by first|exact dE (by with_reducible rfl)|(simp[*]<;>fail)) (he:bW P Γ o a [] N=r:=by (simp[*];with_reducible rfl)) (hr:r=some (v,[(N,b)]):=by with_reducible rfl) (hh:put h N b=h2:=by (simp[V.put, *];with_reducible rfl)):WD P Γ ops Q acc (o::os) a h N:=by
 have hgN:∀i,get [(N,b)] i=if N=i then some b else none:=fun i=>by simp[get]
 refine iG (r:=⟨v,N,N+1,false,false,[],[(N,b)]⟩) rfl hg (j8 (he.trans hr) fun id hid=>?_) (by simp[get]) ⟨rfl,rfl,rfl,rfl,by simp[get],fun _ id h1 h2=>?_⟩ (fun hx h1 i=>?_) hk
 ·
  rw[hgN] at hid
  split at hid
  ·
   rename_i e;exact .inr e.symm
  ·
   cases hid
 ·
  exfalso
  simp only[hgN] at h1
  split at h1
  ·
   rename_i e;subst e;exact h2 ⟨Nat.le_refl _,Nat.lt_succ_self _⟩
  ·
   exact h1 rfl
 ·
  rw[←hh,eb]
  unfold dw
  simp only[Bool.false_eq_true,if_false]
  rw[eC,hgN,gG hx (fun k=>!(get [] k).isSome&&!(decide (N≤k)&&decide (k<N+1)))]
  by_cases e:N=i
  ·
   subst e;simp
  ·
   rw[if_neg e,if_neg e]
   have:(!(get [] i).isSome&&!(decide (N≤i)&&decide (i<N+1)))=true:=by simp[get];omega
   rw[if_pos this]
   simpa using h1 i
theorem EX {ops:Array Oper}{Q:Post}{acc:List Sm}{o:Oper}{os:List Oper}{a:List Val}{h h2:Heap}{N id:Nat}{b b':Blk}{v:Val}{r:Option (Val×Heap)}{q:Option Nat}{gb:Option Blk}(hk:WD P Γ ops Q (acc++[⟨false,N,N+1,[id],[id]⟩]) os (dJ a o.dst v) h2 (N+1))
  (hg:aO ops o a=true:=by first|exact dE (by with_reducible rfl)|(simp[*]<;>fail))
  (hi:Ah Γ a o.op=q:=by (simp[Ah,vid, *];with_reducible rfl)) (hq:q=some id:=by with_reducible rfl) (hb:get h id=gb:=by (simp[V.get, *];with_reducible rfl)) (hgb:gb=some b:=by with_reducible rfl)
  (he:bW P Γ o a [(id,b)] N=r:=by (simp[*];with_reducible rfl)) (hr:r=some (v,[(id,b')]):=by with_reducible rfl) (hN:get h N=none:=by simp[V.get, *]) (hh:put h id b'=h2:=by (simp[V.put, *];with_reducible rfl)):WD P Γ ops Q acc (o::os) a h N:=by
 have hb':=hb.trans hgb
 have hgN:∀c i,get [(id,c)] i=if id=i then some c else none:=fun c i=>by simp[get]
 refine iG (r:=⟨v,N,N+1,false,false,[(id,b)],[(id,b')]⟩) rfl hg (j8 (he.trans hr) fun j hj=>?_) (aP hb' aU) ⟨rfl,rfl,rfl,rfl,?_,fun _ j h1 h2=>?_⟩ (fun hx h1 i=>?_) hk
 ·
  left;simp only[hgN] at hj ⊢;split at hj<;>simp_all
 ·
  intro i hi
  simp only[hgN] at hi
  split at hi
  ·
   rename_i e;simp[e]
  ·
   cases hi
 ·
  simp only[hgN] at h1
  split at h1
  ·
   rename_i e;simp[e]
  ·
   exact(h1 rfl).elim
 ·
  rw[←hh,eb]
  unfold dw
  simp only[Bool.false_eq_true,if_false]
  rw[eC,hgN,gG hx (fun k=>!(get [(id,b)] k).isSome&&!(decide (N≤k)&&decide (k<N+1)))]
  by_cases e:id=i
  ·
   subst e;simp
  ·
   rw[if_neg e,if_neg e,hgN,if_neg e]
   by_cases e2:N=i
   ·
    subst e2
    simp[hN]
   ·
    have:(!(none:Option Blk).isSome&&!(decide (N≤i)&&decide (i<N+1)))=true:=by simp;omega
    rw[if_pos this]
    simpa using h1 i
def uW (N:Nat)(h:Heap):Bool:=h.all fun p=>decide (p.1<N)
theorem xY {N:Nat}{h:Heap}(hu:uW N h=true){i:Nat}(hi:N≤i):get h i=none:=by
 cases hg:get h i with
 |none=>rfl
 |some b=>
  obtain⟨p,hp,rfl⟩:=fL hg
  unfold uW at hu
  rw[List.all_eq_true] at hu
  have:=hu p hp
  simp at this
  omega
def nE (h hs h':Heap):Heap:=h'++h.filter fun p=>!(get hs p.1).isSome
theorem t8 (h hs h':Heap)(i:Nat):get (nE h hs h') i=(get h' i).or (if (get hs i).isSome then none else get h i):=by
 unfold nE
 rw[eC,gG h (fun k=>!(get hs k).isSome)]
 congr 1
 cases (get hs i).isSome<;>simp
theorem pG {h hx hs h':Heap}{r:Rec}{N:Nat}(hu:uW N h=true)(hro:r.ro=false)(hn:r.n=N)(hfp:r.fp=hs)(hfp':r.fp'=h')(hk:∀i,(get h' i).isSome=true→(get hs i).isSome=true∨(r.n≤i∧i<r.n'))
  (he:∀i,get hx i=get h i) (i:Nat):get (dw hx r) i=get (nE h hs h') i:=by
 rw[t8]
 unfold dw
 rw[hro,hfp,hfp']
 simp only[Bool.false_eq_true,if_false]
 rw[eC,gG hx (fun k=>!(get hs k).isSome&&!(decide (r.n≤k)&&decide (k<r.n')))]
 congr 1
 cases hs1:(get hs i).isSome with
 |true=>simp
 |false=>
  by_cases e:r.n≤i∧i<r.n'
  ·
   have:=xY hu (i:=i) (by omega)
   simp[e,this]
  ·
   have:(!(decide (r.n≤i)&&decide (i<r.n')))=true:=by simp;omega
   simp[this,he i]
theorem gy {ops:Array Oper}{Q:Post}{acc:List Sm}{o:Oper}{os:List Oper}{a:List Val}{h h' h2:Heap}{N:Nat}{v:Val}{r:Option (Val×Heap)}(hs:Heap)(hk:WD P Γ ops Q (acc++[⟨false,N,N+1,hs.map (·.1),hs.map (·.1)⟩]) os (dJ a o.dst v) h2 (N+1))
  (hg:aO ops o a=true:=by first|exact dE (by with_reducible rfl)|(simp[*]<;>fail))
  (hsub:∀i b,get hs i=some b→get h i=some b:=by (repeat (first|exact aU|refine aP (by simp[V.get, *]) ?_)))
  (he:bW P Γ o a hs N=r:=by (simp[*];with_reducible rfl)) (hr:r=some (v,h'):=by with_reducible rfl)
  (hkeys:∀i,(get h' i).isSome→(get hs i).isSome∨(N≤i∧i<N+1):=by (repeat (first|exact kF|refine jH (by first|(simp[V.get, *]<;>fail)|omega) ?_)))
  (hu:uW N h=true:=by rfl) (hh:nE h hs h'=h2:=by (simp[nE,V.get, *];with_reducible rfl)):WD P Γ ops Q acc (o::os) a h N:=by
 refine iG (r:=⟨v,N,N+1,false,false,hs,h'⟩) rfl hg (j8 (he.trans hr) fun id hid=>?_) hsub ⟨rfl,rfl,rfl,rfl,?_,?_⟩ (fun hx h1 i=>?_) hk
 ·
  rcases hkeys id hid with q|q
  ·
   exact .inl q
  ·
   exact .inr (by omega)
 ·
  intro id hid
  cases hg:get hs id with
  |none=>simp[hg] at hid
  |some b=>obtain⟨p,hp,rfl⟩:=fL hg;exact List.mem_map.2 ⟨p,hp,rfl⟩
 ·
  intro _ id h1 h2
  simp only at h1 h2
  cases hg:get hs id with
  |some b=>obtain⟨p,hp,rfl⟩:=fL hg;exact List.mem_map.2 ⟨p,hp,rfl⟩
  |none=>
   exfalso
   cases hg':get h' id with
   |none=>rw[hg,hg'] at h1;exact h1 rfl
   |some b=>
    rcases hkeys id (by simp[hg']) with q|q
    ·
     simp[hg] at q
    ·
     exact h2 q
 ·
  rw[pG (N:=N) hu rfl rfl rfl rfl hkeys h1 i,hh]
theorem aQ {ops:Array Oper}{Q:Post}{acc:List Sm}{o:Oper}{os:List Oper}{a:List Val}{h:Heap}{N:Nat}{f:FuncId}{vs:List Val}{r:Val}{q:Option (FuncId×List Val)}(hr:PureOk P Γ f vs r)(hk:WD P Γ ops Q (acc++[⟨true,N,N,[],[]⟩]) os (dJ a o.dst r) h N)
  (hg:aO ops o a=true:=by first|exact dE (by with_reducible rfl)|(simp[*]<;>fail)) (hc:callee Γ a o=q:=by (simp[*];with_reducible rfl)) (hq:q=some (f,vs):=by with_reducible rfl) (hp:bL P f=true:=by kernel_rfl) (hcl:aE vs=true:=by simp[aE,Val.closed, *]):WD P Γ ops Q acc (o::os) a h N:=by
 refine iG (r:=⟨r,N,N,false,true,[],[]⟩) rfl hg (pK (hc.trans hq) hp hcl hr) (by simp[get]) ⟨rfl,rfl,rfl,rfl,by simp[get],by simp⟩ (fun hx h1 i=>?_) hk
 unfold dw
 simpa using h1 i
theorem r8 {ops:Array Oper}{Q:Post}{acc:List Sm}{o:Oper}{os:List Oper}{a:List Val}{h:Heap}{N:Nat}{f:FuncId}{us:List Val}{r:Val}(n:Nat)(hs:Heap)(hr:PureOk P Γ f us r)(hk:WD P Γ ops Q (acc++[⟨true,N,N,hs.map (·.1),[]⟩]) os (dJ a o.dst r) h N)
  (hv:∃vs,callee Γ a o=some (f,vs)∧vwL P hs n vs=some us)
  (hsub:∀i b,get hs i=some b→get h i=some b:=by (repeat (first|exact aU|refine aP (by simp[V.get, *]) ?_)))
  (hg:aO ops o a=true:=by first|exact dE (by with_reducible rfl)|(simp[*]<;>fail)) (hp:bL P f=true:=by kernel_rfl) (hf:r.flat=true:=by simp[Val.flat,kA]):WD P Γ ops Q acc (o::os) a h N:=by
 obtain⟨vs,h1,h2⟩:=hv
 refine iG (r:=⟨r,N,N,false,true,hs,hs⟩) rfl hg (mS h1 hp h2 hr hf) hsub ⟨rfl,rfl,rfl,rfl,?_,by simp⟩ (fun hx h1 i=>?_) hk
 ·
  intro id hid
  cases hg:get hs id with
  |none=>simp[hg] at hid
  |some b=>obtain⟨p,hp,rfl⟩:=fL hg;exact List.mem_map.2 ⟨p,hp,rfl⟩
 ·
  unfold dw
  simpa using h1 i
theorem cI {ops:Array Oper}{Q:Post}{acc:List Sm}{o:Oper}{os:List Oper}{a:List Val}{h h1 h' h2:Heap}{N N':Nat}{f:FuncId}{vs:List Val}{r:Val}{q:Option (FuncId×List Val)}(hr:CallOk P Γ f vs h1 N true r h' N')(hk:WD P Γ ops Q (acc++[⟨false,N,N',h1.map (·.1),h1.map (·.1)⟩]) os (dJ a o.dst r) h2 N')
  (hsub:∀i b,get h1 i=some b→get h i=some b:=by (repeat (first|exact aU|refine aP (by simp[V.get, *]) ?_)))
  (hkeys:∀i,(get h' i).isSome→(get h1 i).isSome∨(N≤i∧i<N'):=by (repeat (first|exact kF|refine jH (by first|(simp[V.get, *]<;>fail)|omega) ?_)))
  (hl:(aa N vs&&bc N h1)=true:=by (simp[aa,aR,bc,cz, *]<;>fail)) (hu:uW N h=true:=by rfl) (hh:nE h h1 h'=h2:=by (simp[nE,V.get, *];with_reducible rfl))
  (hg:aO ops o a=true:=by first|exact dE (by with_reducible rfl)|(simp[*]<;>fail)) (hc:callee Γ a o=q:=by (simp[*];with_reducible rfl)) (hq:q=some (f,vs):=by with_reducible rfl) (hp:bL P f=true:=by kernel_rfl):WD P Γ ops Q acc (o::os) a h N:=by
 refine iG (r:=⟨r,N,N',false,false,h1,h'⟩) rfl hg (lU (hc.trans hq) hp (hr.low hl) hkeys) hsub ⟨rfl,rfl,rfl,rfl,?_,?_⟩ (fun hx h1 i=>?_) hk
 ·
  intro id hid
  cases hg:get h1 id with
  |none=>simp[hg] at hid
  |some b=>obtain⟨p,hp,rfl⟩:=fL hg;exact List.mem_map.2 ⟨p,hp,rfl⟩
 ·
  intro _ id q1 q2
  simp only at q1 q2
  cases hg:get h1 id with
  |some b=>obtain⟨p,hp,rfl⟩:=fL hg;exact List.mem_map.2 ⟨p,hp,rfl⟩
  |none=>
   exfalso
   cases hg':get h' id with
   |none=>rw[hg,hg'] at q1;exact q1 rfl
   |some b=>
    rcases hkeys id (by simp[hg']) with q|q
    ·
     simp[hg] at q
    ·
     exact q2 q
 ·
  rw[pG (N:=N) hu rfl rfl rfl rfl hkeys h1 i,hh]
theorem av {ops:Array Oper}{K:List Val→Heap→Nat→Prop}{o:Oper}{os:List Oper}{a:List Val}{h h1 h' h2:Heap}{N N':Nat}{all:Bool}{f:FuncId}{vs:List Val}{r:Val}{q:Option (FuncId×List Val)}(hr:CallOk P Γ f vs h1 N all r h' N')(hk:bO P Γ ops K os (dJ a o.dst r) h2 N')
  (hsub:∀i b,get h1 i=some b→get h i=some b:=by (repeat (first|exact aU|refine aP (by simp[V.get, *]) ?_)))
  (hkeys:∀i,(get h' i).isSome→(get h1 i).isSome∨(N≤i∧i<N'):=by (repeat (first|exact kF|refine jH (by first|(simp[V.get, *]<;>fail)|omega) ?_)))
  (hh:nE h h1 h'=h2:=by (simp[nE,V.get, *];with_reducible rfl))
  (hg:aO ops o a=true:=by first|exact dE (by with_reducible rfl)|(simp[*]<;>fail)) (hc:callee Γ a o=q:=by (simp[*];with_reducible rfl)) (hq:q=some (f,vs):=by with_reducible rfl) (hp:bL P f=true:=by kernel_rfl):bO P Γ ops K (o::os) a h N:=by
 refine x5 h2 hr hk hsub hkeys (fun i b hb=>?_) hg hc hq hp
 rw[←hh,t8] at hb
 cases h3:get h' i with
 |some c=>rw[h3] at hb;simp at hb;subst hb;exact .inl rfl
 |none=>
  rw[h3] at hb
  simp only[Option.none_or] at hb
  split at hb
  ·
   cases hb
  ·
   rename_i h4;exact .inr ⟨hb,by simpa using h4⟩
end
end Go.V
end
section
namespace Go.V
mutual
def ky:Doc→Doc→Int
 |.mk k n s ks ds,.mk k' n' s' ks' ds'=>orI (cmpI k k') (orI (cmpI n n') (orI (cmpS s s') (orI (cmpI ks.length ks'.length) (orI (cf cmpS ks ks') (orI (cmpI ds.length ds'.length) (vr ds ds'))))))
def vr:List Doc→List Doc→Int
 |[],[]=>0
 |[],_::_=>-1
 |_::_,[]=>1
 |d::r,d'::r'=>if ky d d'=0 then vr r r' else ky d d'
end
theorem tA:∀l m,vr l m=cf ky l m
 |[],[]=>rfl
 |[],_::_=>rfl
 |_::_,[]=>rfl
 |d::r,d'::r'=>by rw[vr,cf,tA r r']
def bg {α:Type}(p:α→Bool):List α→Nat→Int
 |[],_=>-1
 |x::r,j=>if p x then j else bg p r (j+1)
def di {α:Type}(p:α→α→Bool):List α→List α→Bool
 |[],[]=>true
 |a::x,b::y=>p a b&&di p x y
 |_,_=>false
theorem aL:∀a:Str,ltS a a=false
 |[]=>rfl
 |a::x=>by
  have h:¬a<a:=UInt8.lt_irrefl a
  simp[ltS,aL x,h]
theorem aN:∀{a b:Str},ltS a b=true→ltS b a=false
 |[],[],h=>by simp[ltS] at h
 |_::_,[],h=>by simp[ltS] at h
 |[],_::_,_=>rfl
 |a::x,b::y,h=>by
  simp only[ltS,Bool.or_eq_true,decide_eq_true_eq,Bool.and_eq_true,beq_iff_eq] at h
  rcases h with h|⟨rfl,h⟩
  ·
   have h1:¬b<a:=fun h'=>UInt8.lt_irrefl _ (UInt8.lt_trans h h')
   have h2:(b==a)=false:=by
    rw[beq_eq_false_iff_ne];intro e;subst e;exact UInt8.lt_irrefl _ h
   simp[ltS,h1,h2]
  ·
   simp[ltS,aN h,UInt8.lt_irrefl]
theorem aM:∀{a b:Str},ltS a b=false→a≠b→ltS b a=true
 |[],[],_,h=>(h rfl).elim
 |_::_,[],_,_=>rfl
 |[],_::_,h,_=>by simp[ltS] at h
 |a::x,b::y,h,hn=>by
  simp only[ltS,Bool.or_eq_false_iff,decide_eq_false_iff_not,Bool.and_eq_false_iff] at h
  obtain⟨h1,h2⟩:=h
  by_cases e:a=b
  ·
   subst e
   have:x≠y:=fun e=>hn (by rw[e])
   rcases h2 with h2|h2
   ·
    simp at h2
   ·
    simp[ltS,aM h2 this]
  ·
   have:b<a:=by
    rcases UInt8.lt_or_le b a with h|h
    ·
     exact h
    ·
     exact absurd (UInt8.le_antisymm (UInt8.not_lt.1 h1) h).symm e
   simp[ltS,this]
theorem aY:∀{a b c:Str},ltS a b=true→ltS b c=true→ltS a c=true
 |[],[],_,h,_=>by simp[ltS] at h
 |_::_,[],_,h,_=>by simp[ltS] at h
 |[],_::_,[],_,h=>by simp[ltS] at h
 |[],_::_,_::_,_,_=>rfl
 |_::_,_::_,[],_,h=>by simp[ltS] at h
 |a::x,b::y,c::z,h,h'=>by
  simp only[ltS,Bool.or_eq_true,decide_eq_true_eq,Bool.and_eq_true,beq_iff_eq] at h h' ⊢
  rcases h with h|⟨rfl,h⟩<;>rcases h' with h'|⟨rfl,h'⟩
  ·
   exact .inl (UInt8.lt_trans h h')
  ·
   exact .inl h
  ·
   exact .inl h'
  ·
   exact .inr ⟨rfl,aY h h'⟩
theorem kG {a b:Str}(h:ltS a b=true):a≠b:=fun e=>by subst e;rw[aL] at h;cases h
theorem mu {a b:Str}:cmpS a b=0↔a=b:=by
 unfold cmpS
 constructor
 ·
  intro h
  cases h1:ltS a b with
  |true=>simp[h1] at h
  |false=>
   cases h2:ltS b a with
   |true=>simp[h1,h2] at h
   |false=>
    apply Classical.byContradiction
    intro hn
    rw[aM h1 hn] at h2;cases h2
 ·
  rintro rfl;simp[aL]
theorem xp {a b:Str}:cmpS a b<0↔ltS a b=true:=by
 unfold cmpS
 cases h1:ltS a b<;>cases h2:ltS b a<;>simp
theorem qd {a b:Int}:cmpI a b=0↔a=b:=by unfold cmpI;split<;>(try split)<;>omega
theorem xo {a b:Int}:cmpI a b<0↔a<b:=by unfold cmpI;split<;>(try split)<;>omega
end Go.V
end
section
namespace Go.V
open Go Go.Proofs
theorem lE:∀a b:Str,Op.bytesLess a b=ltS a b
 |[],[]=>rfl
 |_::_,[]=>rfl
 |[],_::_=>rfl
 |a::x,b::y=>by simp only[Op.bytesLess,ltS,lE x y]
attribute [simp] lE
theorem kL {α:Type}{c:α→List Val}{e:Nat}(h:∀x,(c x).length=e)(pre r:List α)(x:α):(row c (pre++x::r)).drop (pre.length*e)=c x++row c r:=by
 rw[bd,List.drop_left' (by rw[fx h]),row]
def Eqn (a b:Nat):Prop:=a=b
@[simp] theorem F3 (p q e:Nat):p*e≤(p+q)*e:=Nat.mul_le_mul_right e (Nat.le_add_right p q)
@[simp] theorem AB (pre r:List Int)(x:Int):(row bv (pre++x::r)).drop pre.length=.int .i64 x::row bv r:=by
 have:=kL sh pre r x
 rwa[Nat.mul_one] at this
@[simp] theorem fH (pre r:List Str)(x:Str):(row aW (pre++x::r)).drop pre.length=.str x::row aW r:=by
 have:=kL sn pre r x
 rwa[Nat.mul_one] at this
@[simp] theorem DW (pre r:List (Int×Int))(x:Int×Int):(row bx (pre++x::r)).drop (pre.length*2)=bx x++row bx r:=kL mt pre r x
@[simp] theorem oG (pre r:List Doc)(x:Doc):(row aH (pre++x::r)).drop (pre.length*5)=aH x++row aH r:=kL bS pre r x
@[simp] theorem xn (pre r:List Ty)(x:Ty):(row cTy (pre++x::r)).drop (pre.length*6)=cTy x++row cTy r:=kL bH pre r x
@[simp] theorem lg (pre r:List Fld)(x:Fld):(row aZ (pre++x::r)).drop (pre.length*8)=aZ x++row aZ r:=kL iP pre r x
@[simp] theorem oH (pre r:List Lns)(x:Lns):(row aK (pre++x::r)).drop (pre.length*16)=aK x++row aK r:=kL eR pre r x
@[simp] theorem rn (pre r:List Res)(x:Res):(row ac (pre++x::r)).drop (pre.length*8)=ac x++row ac r:=kL sj pre r x
mutual
theorem ng {N:Nat}:∀v:Val,v.closed=true→aR N v=true
 |.bool _,_|.int _ _,_|.str _,_|.nilp,_|.nils,_|.nilm,_|.nilf,_|.nili,_|.sle,_|.jk _,_=>by simp[aR]
 |.pp cs,h=>by simp only[Val.closed,aR] at *;exact aD cs h
 |.pr _ _,h=>by simp[Val.closed] at h
 |.so _ _ _ _,h=>by simp[Val.closed] at h
 |.mp _,h=>by simp[Val.closed] at h
 |.sl cs _ _,h=>by simp only[Val.closed,aR] at *;exact aD cs h
 |.fn _ us cs,h=>by simp only[Val.closed,aR,Bool.and_eq_true] at *;exact⟨aD us h.1,aD cs h.2⟩
 |.ifc _ v,h=>by simp only[Val.closed,aR] at *;exact ng v h
 |.ag cs,h=>by simp only[Val.closed,aR] at *;exact aD cs h
 |.tp cs,h=>by simp only[Val.closed,aR] at *;exact aD cs h
theorem aD {N:Nat}:∀l:List Val,aE l=true→aa N l=true
 |[],_=>rfl
 |v::l,h=>by simp only[aE,aa,Bool.and_eq_true] at *;exact⟨ng v h.1,aD l h.2⟩
end
@[simp] theorem DK (N:Nat)(d:Doc):aa N (aH d)=true:=aD _ (eX d)
@[simp] theorem Ei (N:Nat)(d:Ty):aa N (cTy d)=true:=aD _ (eB d)
@[simp] theorem DO (N:Nat)(d:Fld):aa N (aZ d)=true:=aD _ (nT d)
@[simp] theorem DV (N:Nat)(d:Lns):aa N (aK d)=true:=aD _ (nU d)
@[simp] theorem D4 (N:Nat)(d:Res):aa N (ac d)=true:=aD _ (nV d)
@[simp] theorem Dy (N:Nat)(d:List Str):aa N (row aW d)=true:=aD _ (ic d)
@[simp] theorem Ds (N:Nat)(d:List Int):aa N (row bv d)=true:=aD _ (uI d)
@[simp] theorem Dq (N:Nat)(d:List Doc):aa N (row aH d)=true:=aD _ (fh d)
@[simp] theorem Ev (N:Nat)(d:List Ty):aa N (row cTy d)=true:=aD _ (vI d)
@[simp] theorem Dr (N:Nat)(d:List Fld):aa N (row aZ d)=true:=aD _ (uH d)
@[simp] theorem Dt (N:Nat)(d:List Lns):aa N (row aK d)=true:=aD _ (uJ d)
@[simp] theorem Du (N:Nat)(d:List Res):aa N (row ac d)=true:=aD _ (dz d)
@[simp] theorem HV (n:Nat):(0:Int)≤(n:Int)+1:=by omega
@[simp] theorem Eu (q b:Int):(q<q+b)=(0<b):=by apply propext;omega
@[simp] theorem GQ (r:Nat):(0:Int)<(r:Int)+1+1:=by omega
@[simp] theorem Fp:IntKind.i64.wrap 0=0:=rfl
@[simp] theorem Fq:IntKind.i64.wrap 1=1:=rfl
@[simp] theorem eG {α:Type}(c:α→List Val):row c []=[]:=rfl
@[simp] theorem bt {α:Type}(c:α→List Val)(x:α)(r:List α):row c (x::r)=c x++row c r:=rfl
@[simp] theorem D5 (s:Str):aW s=[.str s]:=rfl
@[simp] theorem DQ (s:Int):bv s=[.int .i64 s]:=rfl
set_option linter.defProp false
def Xa:=@ey
def Xb:=@dX
def Xc:=@eQ
def Xd:=@iN
def Xe:=@du
theorem Xf {P:Program}{Γ:Glo P}{id:Nat}{ops:Array Oper}{a:List Val}{h:Heap}{N:Nat}{Q:Post}(hrun:WD P Γ ops Q [] ops.toList a h N)
  (hQ:∀a h hy N,(∀i,get hy i=get h i)→Q .normal a h N→Q .normal a hy N:=by intro _ _ _ _ he hq;simp only[eD,cN] at hq ⊢;exact jh (fun i b hb=>by rw[he];exact hb) hq) (hm:P.follows .mixedOrders=true:=by kernel_rfl) (hlow:ti ops=true:=by kernel_rfl) (hap:jr ops=true:=by kernel_rfl):W P Γ (.region id ops true) a h N Q:=gz hrun hQ hm hlow hap
def Xg:=@EV
def Xh:=@EW
def Xi:=@EU
def Xj:=@EX
def Xk:=@BP
def Xl:=@Cf
def Xm:=@fb
def Xo:=@Ce
def Xp:=@Cd
def Xq:=@jp
def Xr:=@re
def Xs:=@vf
def Xu:=@Fo
def Xv:=@BQ
def Xw:=@ET
theorem Xn:(∀(p:Prop) [Decidable p],(decide p=true)=p)∧(∀(p:Prop) [Decidable p],(decide p=false)=¬p)∧(∀b:Bool,((!b)=true)=(b=false))∧(∀b:Bool,((!b)=false)=(b=true))∧(∀a b:Bool,((a&&b)=true)=(a=true∧b=true))∧(∀a b:Bool,((a||b)=false)=(a=false∧b=false)):=by
 refine⟨fun p _=>decide_eq_true_eq,fun p _=>propext decide_eq_false_iff_not,fun b=>by simp,fun b=>by simp,fun a b=>by simp,fun a b=>by simp⟩
theorem G1 {p q:Prop}(h:q)(s:q→p:=by first|exact fun h=>Xa h|exact fun h=>Xb h|exact fun h=>Xc h|exact fun h=>Xd h|exact fun h=>Xe h|exact fun h=>Xf h|exact fun h=>Xg h|exact fun h=>Xh h|exact fun h=>Xi h|exact fun h=>Xj h|exact fun h=>Xk h|exact fun h=>Xl h|exact fun h=>Xm h|exact fun h=>Xo h|exact fun h=>Xp h|exact fun h=>Xq h|exact fun h=>Xr h|exact fun h=>Xs h|(intro h;simp only[eD,cN,cd,cc,if_true];exact h)):p:=s h
theorem G2 {p A B A1 A2 B1 B2 q r:Prop}(h:A1→A2→q)(h':B1→B2→r)(s:(A→q)→(B→r)→p:=by first|exact fun h h'=>Xu h h'|exact fun h h'=>Xv h h'|exact fun h h'=>Xw h h')
  (e1:A→A1:=by intro hc;(fail_if_success injection hc);(try simp only[Xn,reduceCtorEq] at hc);exact hc) (e2:A→A2:=by intro hd;first|(simp at hd;exact hd)|exact(show False by simp at hd)|exact hd)
  (e3:B→B1:=by intro hc;(fail_if_success injection hc);(try simp only[Xn,reduceCtorEq] at hc);exact hc) (e4:B→B2:=by intro hd;first|(simp at hd;exact hd)|exact(show False by simp at hd)|exact hd):p:=s (fun a=>h (e1 a) (e2 a)) (fun b=>h' (e3 b) (e4 b))
theorem G3 {p q:Prop}(h:q)(s:q→p:=by first|exact fun h=>Xb h|exact fun h=>Xc h|exact fun h=>Xd h|exact fun h=>Xe h|exact fun h=>Xf h|exact fun h=>Xg h|exact fun h=>Xh h|exact fun h=>Xi h|exact fun h=>Xj h|exact fun h=>Xk h|exact fun h=>Xl h|exact fun h=>Xm h|exact fun h=>Xo h|exact fun h=>Xp h|exact fun h=>Xq h|exact fun h=>Xr h|exact fun h=>Xs h|(intro h;simp only[eD,cN,cd,cc,if_true];exact h)):p:=s h
section
variable {P:Program} {Γ:Glo P} {f:FuncId} {fn:Func} {c:Code}
theorem Y1 {v0 r:Val}(n:Nat)(hf:P.funcs[f]?=some fn)(hb:fn.body=some c)(hn:fn.ntmps=n)(hw:∀a:List Val,a.length=n→lk a 0=some v0→W P Γ c a [] 0 (fun e a h' _=>(e=.normal∨e=.ret)∧∃r0 n,gr P fn a h'=some r0∧vw P h' n r0=some r))(hk:1≤n:=by decide):PureOk P Γ f [v0] r:=
 iC hf hb (by rw[hn];exact hk) fun a hl h=>hw a (hl.trans hn) (h 0 _ rfl)
theorem Y2 {v0 v1 r:Val}(n:Nat)(hf:P.funcs[f]?=some fn)(hb:fn.body=some c)(hn:fn.ntmps=n)(hw:∀a:List Val,a.length=n→lk a 0=some v0→lk a 1=some v1→W P Γ c a [] 0 (fun e a h' _=>(e=.normal∨e=.ret)∧∃r0 n,gr P fn a h'=some r0∧vw P h' n r0=some r))(hk:2≤n:=by decide):PureOk P Γ f [v0,v1] r:=
 iC hf hb (by rw[hn];exact hk) fun a hl h=>hw a (hl.trans hn) (h 0 _ rfl) (h 1 _ rfl)
theorem Y3 {v0 v1 v2 r:Val}(n:Nat)(hf:P.funcs[f]?=some fn)(hb:fn.body=some c)(hn:fn.ntmps=n)(hw:∀a:List Val,a.length=n→lk a 0=some v0→lk a 1=some v1→lk a 2=some v2→W P Γ c a [] 0 (fun e a h' _=>(e=.normal∨e=.ret)∧∃r0 n,gr P fn a h'=some r0∧vw P h' n r0=some r))(hk:3≤n:=by decide):PureOk P Γ f [v0,v1,v2] r:=
 iC hf hb (by rw[hn];exact hk) fun a hl h=>hw a (hl.trans hn) (h 0 _ rfl) (h 1 _ rfl) (h 2 _ rfl)
theorem Y4 {v0 v1 v2 v3 r:Val}(n:Nat)(hf:P.funcs[f]?=some fn)(hb:fn.body=some c)(hn:fn.ntmps=n)(hw:∀a:List Val,a.length=n→lk a 0=some v0→lk a 1=some v1→lk a 2=some v2→lk a 3=some v3→W P Γ c a [] 0 (fun e a h' _=>(e=.normal∨e=.ret)∧∃r0 n,gr P fn a h'=some r0∧vw P h' n r0=some r))(hk:4≤n:=by decide):PureOk P Γ f [v0,v1,v2,v3] r:=
 iC hf hb (by rw[hn];exact hk) fun a hl h=>hw a (hl.trans hn) (h 0 _ rfl) (h 1 _ rfl) (h 2 _ rfl) (h 3 _ rfl)
theorem Y5 {v0 v1 v2 v3 v4 r:Val}(n:Nat)(hf:P.funcs[f]?=some fn)(hb:fn.body=some c)(hn:fn.ntmps=n)(hw:∀a:List Val,a.length=n→lk a 0=some v0→lk a 1=some v1→lk a 2=some v2→lk a 3=some v3→lk a 4=some v4→W P Γ c a [] 0 (fun e a h' _=>(e=.normal∨e=.ret)∧∃r0 n,gr P fn a h'=some r0∧vw P h' n r0=some r))(hk:5≤n:=by decide):PureOk P Γ f [v0,v1,v2,v3,v4] r:=
 iC hf hb (by rw[hn];exact hk) fun a hl h=>hw a (hl.trans hn) (h 0 _ rfl) (h 1 _ rfl) (h 2 _ rfl) (h 3 _ rfl) (h 4 _ rfl)
theorem Z1 {v0 r:Val}{h h2:Heap}{N N':Nat}(n:Nat)(hf:P.funcs[f]?=some fn)(hb:fn.body=some c)(hn:fn.ntmps=n)(hw:∀a:List Val,a.length=n→lk a 0=some v0→W P Γ c a h N (fun e a h' _=>(e=.normal∨e=.ret)∧gr P fn a h'=some r∧∀i b,get h2 i=some b→get h' i=some b))(hk:1≤n:=by decide)(hN:N≤N':=by omega)(hl:aR N' r=true:=by simp[aR,aa])(hh:bc N' h2=true:=by simp[bc,cz,aR,aa]):CallOk P Γ f [v0] h N true r h2 N':=
 lj hf hb (by rw[hn];exact hk) hN hl hh fun a hl h=>hw a (hl.trans hn) (h 0 _ rfl)
theorem Z2 {v0 v1 r:Val}{h h2:Heap}{N N':Nat}(n:Nat)(hf:P.funcs[f]?=some fn)(hb:fn.body=some c)(hn:fn.ntmps=n)(hw:∀a:List Val,a.length=n→lk a 0=some v0→lk a 1=some v1→W P Γ c a h N (fun e a h' _=>(e=.normal∨e=.ret)∧gr P fn a h'=some r∧∀i b,get h2 i=some b→get h' i=some b))(hk:2≤n:=by decide)(hN:N≤N':=by omega)(hl:aR N' r=true:=by simp[aR,aa])(hh:bc N' h2=true:=by simp[bc,cz,aR,aa]):CallOk P Γ f [v0,v1] h N true r h2 N':=
 lj hf hb (by rw[hn];exact hk) hN hl hh fun a hl h=>hw a (hl.trans hn) (h 0 _ rfl) (h 1 _ rfl)
theorem Z4 {v0 v1 v2 v3 r:Val}{h h2:Heap}{N N':Nat}(n:Nat)(hf:P.funcs[f]?=some fn)(hb:fn.body=some c)(hn:fn.ntmps=n)(hw:∀a:List Val,a.length=n→lk a 0=some v0→lk a 1=some v1→lk a 2=some v2→lk a 3=some v3→W P Γ c a h N (fun e a h' _=>(e=.normal∨e=.ret)∧gr P fn a h'=some r∧∀i b,get h2 i=some b→get h' i=some b))(hk:4≤n:=by decide)(hN:N≤N':=by omega)(hl:aR N' r=true:=by simp[aR,aa])(hh:bc N' h2=true:=by simp[bc,cz,aR,aa]):CallOk P Γ f [v0,v1,v2,v3] h N true r h2 N':=
 lj hf hb (by rw[hn];exact hk) hN hl hh fun a hl h=>hw a (hl.trans hn) (h 0 _ rfl) (h 1 _ rfl) (h 2 _ rfl) (h 3 _ rfl)
theorem J4 {v0 v1 v2 v3 r:Val}{h h2:Heap}{N N':Nat}(n:Nat)(hf:P.funcs[f]?=some fn)(hb:fn.body=some c)(hn:fn.ntmps=n)(hw:∀a:List Val,a.length=n→lk a 0=some v0→lk a 1=some v1→lk a 2=some v2→lk a 3=some v3→W P Γ c a h N (fun e a h' _=>(e=.normal∨e=.ret)∧gr P fn a h'=some r∧∀i b,get h2 i=some b→get h' i=some b))(hk:4≤n:=by decide)(hN:N≤N':=by omega)(hl:aR N' r=true:=by simp[aR,aa])(hh:bc N' h2=true:=by simp[bc,cz,aR,aa, *]):CallOk P Γ f [v0,v1,v2,v3] h N true r h2 N':=
 lj hf hb (by rw[hn];exact hk) hN hl hh fun a hl h=>hw a (hl.trans hn) (h 0 _ rfl) (h 1 _ rfl) (h 2 _ rfl) (h 3 _ rfl)
end
theorem Frm.a {M:List (Nat×Nat)}{a0 a1 a:List Val}{v:Val}(h:Frm M a1 a)(hk:∀t v,lk a0 t=some v→lk a1 t=some v)(t:Nat)(e:lk a0 t=some v:=by (simp[*];with_reducible rfl))(ht:inM M t=false:=by rfl):lk a t=some v:=h.at t v ht (hk t v e)
theorem Frm.q {M:List (Nat×Nat)}{a0 a:List Val}{r:Option Val}(h:Frm M a0 a)(t:Nat)(e:lk a0 t=r:=by (simp[*]<;>omega))(ht:inM M t=false:=by rfl):lk a t=r:=(h.same t ht).trans e
theorem NX {D:List (Nat×Nat)}{L:List Nat}{a1 a':List Val}{N0 k j:Nat}{h':Heap}{I:Nat→List Val→Heap→Prop}(h2:Heap)(f:∀a2,Frm D a' a2→I j a2 h2)(hf:Frm (D++L.map fun t=>(t,t)) a1 a':=by ((repeat refine Frm.set ?_ rfl);assumption))
  (hl:∀t∈L,∀v,lk a' t=some v→aR N0 v=true:=by simp[*,aR,aa]) (hs:∀i b,V.get h2 i=some b→V.get h' i=some b:=by (repeat (first|exact aU|refine aP (by simp[V.get, *]) ?_))) (hh:bc N0 h2=true:=by simp[*,bc,cz,aR,aa]) (hk:k=j+1:=by rfl) :
  Frm (D++L.map fun t=>(t,t)) a1 a'∧(∀t∈L,∀v,lk a' t=some v→aR N0 v=true)∧∃h2,(∀i b,V.get h2 i=some b→V.get h' i=some b)∧bc N0 h2=true∧∃j,k=j+1∧∀a2,Frm D a' a2→I j a2 h2:=⟨hf,hl,h2,hs,hh,j,hk,f⟩
end Go.V
end
section
namespace Go.V
open Go Go.Proofs
@[simp] theorem FO (h:Heap)(i:Nat)(n0 n1 n2 n3 n4 n5 n6:Int):bG Tryz.prog 80 7 [(0,.int .i64 n0),(1,.int .i64 n1),(2,.int .i64 n2),(3,.int .i64 n3),(4,.int .i64 n4),(5,.int .i64 n5),(6,.int .i64 n6)] h i =
  some (.so i 0 7 (some 7),V.put h i (.cells [.int .i64 n0,.int .i64 n1,.int .i64 n2,.int .i64 n3,.int .i64 n4,.int .i64 n5,.int .i64 n6] 3 false)):=by kernel_rfl
@[simp] theorem FN (h:Heap)(i:Nat)(n0 n1 n2:Int):bG Tryz.prog 80 3 [(0,.int .i64 n0),(1,.int .i64 n1),(2,.int .i64 n2)] h i =
  some (.so i 0 3 (some 3),V.put h i (.cells [.int .i64 n0,.int .i64 n1,.int .i64 n2] 3 false)):=by kernel_rfl
@[simp] theorem FM (h:Heap)(i:Nat)(n0:Int):bG Tryz.prog 80 1 [(0,.int .i64 n0)] h i=some (.so i 0 1 (some 1),V.put h i (.cells [.int .i64 n0] 3 false)):=by kernel_rfl
@[simp] theorem FD (h:Heap)(i:Nat)(s:Str):bG Tryz.prog 22 1 [(0,.str s)] h i=some (.so i 0 1 (some 1),V.put h i (.cells [.str s] 9 false)):=by kernel_rfl
@[simp] theorem Bt (h:Heap)(i:Nat)(d:Doc):bG Tryz.prog 28 1 [(0,.ag (aH d))] h i=some (.so i 0 1 (some 1),V.put h i (.cells (aH d) 30 false)):=by cases d;kernel_rfl
@[simp] theorem FH (h:Heap)(i:Nat)(d:Ty):bG Tryz.prog 24 1 [(0,.ag (cTy d))] h i=some (.so i 0 1 (some 1),V.put h i (.cells (cTy d) 26 false)):=by cases d;kernel_rfl
@[simp] theorem FF (h:Heap)(i:Nat)(f:Fld):bG Tryz.prog 23 1 [(0,.ag (aZ f))] h i=some (.so i 0 1 (some 1),V.put h i (.cells (aZ f) 112 false)):=by
 rcases f with ⟨n,o,t⟩;cases t;kernel_rfl
@[simp] theorem FK (h:Heap)(i:Nat)(x:Res):bG Tryz.prog 38 1 [(0,.ag (ac x))] h i=some (.so i 0 1 (some 1),V.put h i (.cells (ac x) 82 false)):=by
 rcases x with ⟨e,s,k,d⟩;cases d;kernel_rfl
@[simp] theorem FC (h:Heap)(i:Nat):bG Tryz.prog 22 0 [] h i=some (.so i 0 0 (some 0),V.put h i (.cells [] 9 false)):=by kernel_rfl
@[simp] theorem FE (h:Heap)(i:Nat):bG Tryz.prog 23 0 [] h i=some (.so i 0 0 (some 0),V.put h i (.cells [] 112 false)):=by kernel_rfl
@[simp] theorem FG (h:Heap)(i:Nat):bG Tryz.prog 24 0 [] h i=some (.so i 0 0 (some 0),V.put h i (.cells [] 26 false)):=by kernel_rfl
@[simp] theorem FI (h:Heap)(i:Nat):bG Tryz.prog 27 0 [] h i=some (.so i 0 0 (some 0),V.put h i (.cells [] 122 false)):=by kernel_rfl
@[simp] theorem FJ (h:Heap)(i:Nat):bG Tryz.prog 28 0 [] h i=some (.so i 0 0 (some 0),V.put h i (.cells [] 30 false)):=by kernel_rfl
@[simp] theorem FL (h:Heap)(i:Nat):bG Tryz.prog 80 0 [] h i=some (.so i 0 0 (some 0),V.put h i (.cells [] 3 false)):=by kernel_rfl
@[simp] theorem E6 (h:Heap)(i:Nat):bG Tryz.prog 120 0 [] h i=some (.so i 0 0 (some 0),V.put h i (.cells [] 243 false)):=by kernel_rfl
theorem PureOk.arg {P:Program}{Γ:Glo P}{f:FuncId}{us vs:List Val}{r:Val}(h:PureOk P Γ f us r)(hw:WkL vs us):PureOk P Γ f vs r:=
 fun F w xs hG hF ha=>h F w xs hG hF (hw.rel ha)
end Go.V
end
section
namespace Go.V
open Go Go.Proofs
attribute [simp] ai gq aE Val.closed aa aR cz bc Val.flat kA
@[simp] theorem Cm (d:Fld)(l:List Val):(aZ d++l)[0]?=some (.str d.name):=by rw[List.getElem?_append_left (by simp)];simp[bx]
section
variable {P:Program} {Γ:Glo P}
theorem CallOk.any {f:FuncId}{vs:List Val}{hs h2:Heap}{M M':Nat}{r:Val}(hk:CallOk P Γ f vs hs M true r h2 M')(hl:(aa M vs&&bc M hs&&aR M r&&bc M h2)=true){N:Nat}(hN:M≤N):CallOk P Γ f vs hs N true r h2 N:=by
 simp only[Bool.and_eq_true] at hl
 obtain⟨⟨⟨l1,l2⟩,l3⟩,l4⟩:=hl
 refine⟨Nat.le_refl _,fun F ρ w0 O w xs hG m hf hv=>?_⟩
 refine Calls.mono (hk.2 F (cut ρ M) w0 O w xs hG (m.cut l2) (fun i hi _=>by simp[V.cut,Nat.not_lt.2 hi]) (RelL.cut _ _ l1 hv)) ?_
 rintro e w' ⟨F',ρ0,x,h1,hx,h3,h4⟩
 have hle:PLe (cut ρ0 M) ρ:=by
  intro i L hi
  by_cases e:i<M
  ·
   have h5:V.cut ρ0 M i=ρ0 i:=by unfold V.cut;rw[if_pos e]
   have h6:V.cut ρ M i=ρ i:=by unfold V.cut;rw[if_pos e]
   rw[h5,hx.out i (by omega),h6] at hi
   exact hi
  ·
   have h5:V.cut ρ0 M i=none:=by unfold V.cut;rw[if_neg e]
   rw[h5] at hi;cases hi
 exact⟨F',ρ,x,h1,⟨hx.f,PLe.refl ρ,hx.new,fun _ _=>rfl⟩,Rel.mono (FLe.refl _) hle _ _ (Rel.cut _ _ l3 h3),(h4.cut l4).monoP hle⟩
theorem PureOk.call {f:FuncId}{vs:List Val}{r:Val}(hk:PureOk P Γ f vs r)(hc:aE vs=true)(hs:Heap)(N:Nat):CallOk P Γ f vs hs N true r hs N:=by
 refine⟨Nat.le_refl _,fun F ρ w0 O w xs hG m hf hv=>?_⟩
 refine Calls.mono (hk F w xs hG m.fro (RelL.of_closed _ _ hc hv)) ?_
 rintro e w' ⟨F',x,rfl,a1,a2,a3,a4,a5⟩
 exact⟨F',ρ,x,rfl,⟨a1,PLe.refl ρ,fun b c hb=>(a2 b c hb).elim .inl (fun h=>.inr (.inr (Nat.le_trans m.fr.size h))),fun _ _=>rfl⟩,Rel.mono (FLe.refl _) (mQ ρ) _ _ a4,m.still a1 a2 a3 a5⟩
theorem qR {o:Oper}{a:List Val}{N:Nat}{hs:Heap}{f:FuncId}{vs:List Val}{r:Val}(hc:callee Γ a o=some (f,vs))(hp:bL P f=true)(hr:CallOk P Γ f vs hs N false r hs N):jo P Γ o a ⟨r,N,N,false,true,hs,hs⟩:=by
 refine⟨Nat.le_refl _,fun _=>⟨rfl,rfl⟩,fun id h=>.inl h,?_⟩
 intro a' hcg F ρ w0 O w act K Q hG m hf ha hK
 rw[←hE hcg] at hc
 exact rp m hG ha hc hp hr hf fun F' ρ' x w' hx f3 f4=>hK F' ρ' x w' hx f3 f4
theorem gp {ops:Array Oper}{Q:Post}{acc:List Sm}{o:Oper}{os:List Oper}{a:List Val}{h h1:Heap}{N:Nat}{f:FuncId}{vs:List Val}{r:Val}{q:Option (FuncId×List Val)}(hr:CallOk P Γ f vs h1 N true r h1 N)(hk:WD P Γ ops Q (acc++[⟨true,N,N,h1.map (·.1),[]⟩]) os (dJ a o.dst r) h N)
  (hsub:∀i b,get h1 i=some b→get h i=some b:=by (repeat (first|exact aU|refine aP (by simp[V.get, *]) ?_)))
  (hl:(aa N vs&&bc N h1)=true:=by (simp[aa,aR,bc,cz, *]<;>fail))
  (hg:aO ops o a=true:=by first|exact dE (by with_reducible rfl)|(simp[*]<;>fail)) (hc:callee Γ a o=q:=by (simp[*];with_reducible rfl)) (hq:q=some (f,vs):=by with_reducible rfl) (hp:bL P f=true:=by kernel_rfl):WD P Γ ops Q acc (o::os) a h N:=by
 refine iG (r:=⟨r,N,N,false,true,h1,h1⟩) rfl hg (qR (hc.trans hq) hp (hr.low hl)) hsub ⟨rfl,rfl,rfl,rfl,?_,by simp⟩ (fun hx h1 i=>?_) hk
 ·
  intro id hid
  cases hg:get h1 id with
  |none=>simp[hg] at hid
  |some b=>obtain⟨p,hp,rfl⟩:=fL hg;exact List.mem_map.2 ⟨p,hp,rfl⟩
 ·
  unfold dw
  simpa using h1 i
end
end Go.V
end
