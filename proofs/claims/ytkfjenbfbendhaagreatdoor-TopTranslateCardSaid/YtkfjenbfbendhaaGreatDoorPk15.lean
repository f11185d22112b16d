/-
  A part of a proof: F5 L1 L2 L3 L4 L5 R9 L6.
-/
import Derived.Test.YtkfjenbfbendhaaGreatDoorPk14
set_option linter.unusedSimpArgs false
set_option linter.unusedVariables false
section
set_option maxHeartbeats 4000000
namespace Go.V
open Go Go.Proofs
attribute [local irreducible] W bM WD aO yl aU bU
section
variable (Γ:Glo Tryz.prog)
attribute [local simp] veq bD eD V.del
@[simp] theorem ik (τ:Nat→Nat):∀a b:List Val,cK τ (a++b)=cK τ a++cK τ b
 |[],_=>rfl
 |v::a,b=>by simp only[List.cons_append,cK,ik τ a b]
@[simp] theorem ND (d:Doc):cU Tryz.prog 40 [(0,.ag (aJ d))]=some (aJ d++[.nils]):=by cases d;kernel_rfl
theorem fm (s:St):cSt s=aJ s.doc++[sls ah s.res]:=rfl
@[simp] theorem Gm (d:Doc)(v:Val):(aJ d++[v]).take 6=aJ d++[v]:=List.take_of_length_le (by simp)
theorem AT {P:Program}{h:Heap}{m us:List Val}{k:Nat}:∀{l:List Val},aE l=true→0<k→vwL P h k m=some us→vwL P h (l.length+k) (l++m)=some (l++us)
 |[],_,_,hm=>by simpa using hm
 |v::l,hc,hk,hm=>by simp only[aE,Bool.and_eq_true] at hc;have ih:=AT (l:=l) hc.2 hk hm;rw[List.length_cons,show l.length+1+k=(l.length+k)+1 by omega,List.cons_append];obtain⟨q,hq⟩:∃q,l.length+k=q+1:=⟨l.length+k-1,by omega⟩;simp only[vwL,ih];rw[hq,aG hc.1];rfl
theorem f33 (s:St)(hb:wRs s.res+wD s.doc<big):PureOk Tryz.prog Γ 33 [.ag (cSt s)] (.ag (cSt s)):=by
 have hw0:Wk (.ag (aJ s.doc++[gR ah s.res])) (.ag (cSt s)):=by
  rw[fm];refine Wk.ag ?_;have:∀l:List Val,WkL (l++[gR ah s.res]) (l++[sls ah s.res]):=by
   intro l;induction l with
   |nil=>exact⟨oA _ _,trivial⟩
   |cons v l ih=>exact⟨Wk.refl v,ih⟩
  exact this _
 refine PureOk.wk ?_ hw0;clear hw0;have h1:=f78 Γ s.doc (by omega);have h3:∀x∈s.res,PureOk Tryz.prog Γ 79 [.ag (ah x)] (.ag (ah x)):=fun x hx=>f79 Γ x (by have:=fa hx;unfold wR;omega)
 replace hb:s.res.length<big:=by have:=gf s.res;omega
 simp only[big] at hb;rw[fm];generalize s.doc=d at *
 generalize s.res=l at *
 clear s;refine Y1 26 Tryz.func33 rfl rfl fun a hl g0=>?_
 refine GG ?_;all_goals (try (refine aC h1 ?_))
 clear h1;refine GG ?_;refine lK (h':=[(1,.cells [.int .i64 0,.int .i64 0,.str [],.nils,.nils,.nils] 40 false),(5,.cells (aJ d++[.nils]) 40 false)]) (by (repeat (first|exact aP|refine aK (by simp[V.get, *]) ?_))) ?_;refine mo [(5,5),(14,24)] [13] 12 (fun k a h=>∃pre rest,l=pre++rest∧k=rest.length∧lk a 13=some (.int .i64 pre.length)∧h=gH ah 11 82 pre++[(1,.cells [.int .i64 0,.int .i64 0,.str [],.nils,.nils,.nils] 40 false),(5,.cells (aJ d++[gV 11 pre]) 40 false)]) (by omega) ⟨[],l,rfl,rfl,by simp[*],rfl⟩ ?_;intro a1 hk hk0 k a h hF hI;replace g2:=hF.a hk 2;replace g3:=hF.a hk 3;replace g11:=hF.a hk 11;replace g12:=hF.a hk 12;replace hl:a.length=26:=hF.len.trans (hk0.trans (by simp[*]));clear hk hk0;obtain⟨pre,rest,hl0,rfl,h13,rfl⟩:=hI;cases rest with
 |nil=>
  simp only[List.append_nil] at hl0;subst hl0;clear h3;rcases cz ah 8 eO eS iT 11 82 l with ⟨_,e1,e2,e3⟩|⟨n,cs,hn,hcs,e1,e2,e3,c1,c2,c3⟩<;>rw[e1,e2,e3]<;>clear e1 e2 e3
  ·simp only[List.nil_append];refine GG ?_;exact⟨by simp,.ag (aJ d++[.nils]),1,by simp[Tryz.f33,V.get,V.put,aY, *],aG (by simp)⟩
  ·simp only[List.cons_append,List.nil_append];refine GG ?_;exact⟨by simp,.ag (aJ d++[.so 11 0 n none]),(aJ d).length+(cs.length+3)+1,by simp[Tryz.f33,V.get,V.put,aY, *],fL (by simp) (AT (by simp) (by omega) (aI (dD rfl (by simp[c1]) c2 (by omega)) bP))⟩
 |cons x r=>
  have hlt:(pre.length:Int)<pre.length+(r.length+1):=(by omega);have hw:=ac ((pre.length:Int)+1) (by simp[hl0] at hb;omega) (by simp[hl0] at hb;omega);have i3:=h3 x (by simp[hl0]);have hln:pre.length<100000000000:=(by simp[hl0] at hb;omega);clear h3;rcases cz ah 8 eO eS iT 11 82 pre with ⟨hp0,e1,e2,e3⟩|⟨n,cs,hn,hcs,e1,e2,e3,c1,c2,c3⟩<;>rw[e1,e2]<;>simp only[List.cons_append,List.nil_append]
  ·subst hl0;refine GG ?_;refine aM i3 ?_;refine GG ?_;refine gn [(17,.cells (ah x) 82 false)] ?_;refine GG ?_;exact⟨(by (repeat refine Frm.set ?_ rfl);exact hF),[(18,11)],[(18,.cells (ah x) 82 true),(1,.cells [.int .i64 0,.int .i64 0,.str [],.nils,.nils,.nils] 40 false),(5,.cells (aJ d++[.so 18 0 1 none]) 40 false)],(by (repeat (first|exact aP|refine aK (by simp[V.get, *]) ?_))),(by simp),(by simp),(by simp[*,aS,aV,aD]),(by simp[*,bW,cN,aS,aV,aD]),_,rfl,fun a2 hF2 hL2=>⟨pre++[x],r,by simp,rfl,((hL2 13 (by simp)).trans (by simp[*]<;>omega)),by simp[*,gV,gH]⟩⟩
  ·subst hl0;have hn2:(n+1)*136≤140737488355328:=(by unfold Hid at hn;omega);have hnl:¬(n+1)*8≤n*8:=(by omega);have hta:List.take (n*8) cs=cs:=List.take_of_length_le (by omega);refine GG ?_;refine aM i3 ?_;refine GG ?_;refine gn [(11,.cells cs 82 true),(17,.cells (ah x) 82 false)] ?_;refine GG ?_;exact⟨(by (repeat refine Frm.set ?_ rfl);exact hF),[(18,11)],[(18,.cells (cs++ah x) 82 true),(1,.cells [.int .i64 0,.int .i64 0,.str [],.nils,.nils,.nils] 40 false),(5,.cells (aJ d++[.so 18 0 (n+1) none]) 40 false)],(by (repeat (first|exact aP|refine aK (by simp[V.get, *]) ?_))),(by simp),(by simp),(by simp[*,aS,aV,aD]),(by simp[*,bW,cN,aS,aV,aD]),_,rfl,fun a2 hF2 hL2=>⟨pre++[x],r,by simp,rfl,((hL2 13 (by simp)).trans (by simp[*]<;>omega)),by unfold Hid at hcs hn;simp[*,jQ,ga]⟩⟩
end
section
variable (Γ:Glo Tryz.prog)
attribute [local simp] veq
def kK:List Lns→Nat
 |[]=>0
 |s::r=>bQ s.subs+kK r
theorem ru (s:Lns):oW s=bQ s.subs:=by cases s;rfl
theorem ou (s:Lns):kf s=ak s.subs:=by cases s;rfl
theorem uS:∀l:List Lns,bQ l=l.length+kK l
 |[]=>rfl
 |s::l=>by rw[bQ,kK,ru,uS l,List.length_cons];omega
theorem uW:∀(l:List Lns)(s:Lns),kK (l++[s])=kK l+bQ s.subs
 |[],s=>by simp[kK]
 |x::l,s=>by simp only[List.cons_append,kK,uW l s];omega
theorem nk:∀(l:List Lns)(s:Lns),ak (l++[s])=max (ak l) (ak s.subs+1)
 |[],s=>by simp[ak,ou]
 |x::l,s=>by simp only[List.cons_append,ak,nk l s,ou];omega
theorem pq (l:List Lns)(ih:∀s∈l,bQ s.subs≤wNs s.subs):bQ l≤wNs l:=by
 induction l with
 |nil=>exact Nat.le_refl _
 |cons s l ihl=>
  have h1:=ih s (by simp);have h2:=ihl fun s hs=>ih s (by simp[hs])
  have h3:=eu s;rw[bQ,wNs,ru];omega
theorem rx (s:Lns):bQ s.subs≤wNs s.subs:=by
 induction s using Lns.ind with
 |h s ih=>exact pq _ ih
theorem Ag (s:Lns):ak s.subs≤bQ s.subs:=by
 have key:∀l:List Lns,(∀s∈l,ak s.subs≤bQ s.subs)→ak l≤bQ l:=by
  intro l;induction l with
  |nil=>intro _;exact Nat.le_refl _
  |cons s l ihl=>
   intro h;have h1:=h s (by simp);have h2:=ihl fun s hs=>h s (by simp[hs])
   rw[ak,bQ,ru,ou];omega
 induction s using Lns.ind with
 |h s ih=>exact key _ ih
theorem f28 (l:List Lns)(hb:wNs l<big)(ih:∀s∈l,PureOk Tryz.prog Γ 28 [sls aL s.subs] (.int .i64 (bQ s.subs))):PureOk Tryz.prog Γ 28 [sls aL l] (.int .i64 (bQ l)):=by
 have hk:=pq l fun s _=>rx s
 have hk2:=jX l;simp only[big] at hb;have hs:=uS l;obtain⟨v,hv⟩:∃v:Int,v=(bQ l:Nat):=⟨_,rfl⟩;have hv2:v=l.length+(kK l:Nat):=by rw[hv,hs];simp
 have hvb:(l.length:Int)+(kK l:Nat)<100000000000:=by omega
 rw[←hv];clear hv hs hk hb;refine Y1 21 Tryz.func28 rfl rfl fun a hl g0=>?_
 refine GG ?_;refine aq [(5,5),(11,19)] [10,3] (fun k a h=>h=[]∧∃pre rest,l=pre++rest∧k=rest.length∧lk a 10=some (.int .i64 pre.length)∧lk a 3=some (.int .i64 ((l.length:Int)+(kK pre:Nat)))) ⟨rfl,[],l,rfl,rfl,by simp[*],by simp[*,kK]⟩ ?_;intro a1 hk hk0 k a h hF hI;replace g8:=hF.a hk 8;replace g9:=hF.a hk 9;replace hl:a.length=21:=hF.len.trans (hk0.trans (by simp[*]));clear hk hk0;obtain⟨rfl,pre,rest,hl0,rfl,h10,h3⟩:=hI;subst hl0;cases rest with
 |nil=>
  simp only[List.append_nil] at *
  clear ih;refine GG ?_;exact⟨by simp,.int .i64 v,1,by simp[Tryz.f28, *],rfl⟩
 |cons x r=>
  have hlt:(pre.length:Int)<pre.length+(r.length+1):=(by omega);have hw:=ac ((pre.length:Int)+1) (by omega) (by simp at hvb;omega);have hsn:=uW pre x;have hsum:kK (pre++x::r)=kK pre+bQ x.subs+kK r:=by
   have:∀a b:List Lns,kK (a++b)=kK a+kK b:=by
    intro a b;induction a with
    |nil=>simp[kK]
    |cons y a ih=>simp only[List.cons_append,kK,ih];omega
   rw[this,kK];omega
  have hw2:=ac ((pre.length:Int)+(r.length+1)+(kK pre:Nat)+(bQ x.subs:Nat)) (by omega) (by simp at hvb;omega);have j1:=ih x (by simp);clear ih;refine GG ?_;refine aC j1 ?_;clear j1;refine GG ?_;exact NX [] fun a2 hF2=>⟨rfl,pre++[x],r,by simp,rfl,(hF2.q 10),((hF2.same 3 rfl).trans (by simp[*]<;>omega))⟩
theorem f28' (l:List Lns)(hb:wNs l<big):PureOk Tryz.prog Γ 28 [sls aL l] (.int .i64 (bQ l)):=by
 have key:∀s:Lns,wN s<big→PureOk Tryz.prog Γ 28 [sls aL s.subs] (.int .i64 (bQ s.subs)):=by
  intro s;induction s using Lns.ind with
  |h s ih=>intro hs;have:=eu s;exact f28 Γ s.subs (by simp only[big] at *;omega) fun x hx=>ih x hx (by have:=dg hx;simp only[big] at *;omega)
 exact f28 Γ l hb fun s hs=>key s (by have:=dg hs;simp only[big] at *;omega)
theorem f29 (l:List Lns)(hb:wNs l<big)(ih:∀s∈l,PureOk Tryz.prog Γ 29 [sls aL s.subs] (.int .i64 (ak s.subs))):PureOk Tryz.prog Γ 29 [sls aL l] (.int .i64 (ak l)):=by
 have hd:∀s∈l,ak s.subs<100000000000:=fun s hs=>by have:=Ag s;have:=rx s;have:=dg hs;have:=eu s;simp only[big] at hb;omega
 have hk2:=jX l;replace hb:l.length<big:=by omega
 simp only[big] at hb;clear hk2;obtain⟨v,hv⟩:∃v:Int,v=(ak l:Nat):=⟨_,rfl⟩;rw[←hv];refine Y1 20 Tryz.func29 rfl rfl fun a hl g0=>?_
 refine GG ?_;refine aq [(5,5),(9,17)] [8,3] (fun k a h=>h=[]∧∃pre rest,l=pre++rest∧k=rest.length∧lk a 8=some (.int .i64 pre.length)∧lk a 3=some (.int .i64 ((ak pre:Nat)-1))∧ak pre<100000000001) ⟨rfl,[],l,rfl,rfl,by simp[*],by simp[*,ak],by simp[ak]⟩ ?_;intro a1 hk hk0 k a h hF hI;replace g6:=hF.a hk 6;replace g7:=hF.a hk 7;replace hl:a.length=20:=hF.len.trans (hk0.trans (by simp[*]));clear hk hk0;obtain⟨rfl,pre,rest,hl0,rfl,h8,h3,hdp⟩:=hI;subst hl0;cases rest with
 |nil=>
  simp only[List.append_nil] at *
  have hw:=ac ((ak pre:Nat):Int) (by omega) (by omega);have he:((ak pre:Nat):Int)-1+1=(ak pre:Nat):=(by omega);clear ih hd;refine GG ?_;exact⟨by simp,.int .i64 v,1,by simp[Tryz.f29, *],rfl⟩
 |cons x r=>have hlt:(pre.length:Int)<pre.length+(r.length+1):=(by omega);have hw:=ac ((pre.length:Int)+1) (by omega) (by simp at hb;omega);have hsn:=nk pre x;have hdx:=hd x (by simp);have j1:=ih x (by simp);have hmx:(if ((ak pre:Nat):Int)-1<(ak x.subs:Nat) then ((ak x.subs:Nat):Int) else (ak pre:Nat)-1)=(ak (pre++[x]):Nat)-1:=(by rw[hsn];split<;>omega);have hlx:ak (pre++[x])<100000000001:=(by omega);clear ih hd hsn;refine GG ?_;refine aC j1 ?_;clear j1;refine GG ?_;exact NX [] fun a2 hF2=>⟨rfl,pre++[x],r,by simp,rfl,(hF2.q 8),((hF2.same 3 rfl).trans (by simp[*])),hlx⟩
theorem f29' (l:List Lns)(hb:wNs l<big):PureOk Tryz.prog Γ 29 [sls aL l] (.int .i64 (ak l)):=by
 have key:∀s:Lns,wN s<big→PureOk Tryz.prog Γ 29 [sls aL s.subs] (.int .i64 (ak s.subs)):=by
  intro s;induction s using Lns.ind with
  |h s ih=>intro hs;have:=eu s;exact f29 Γ s.subs (by simp only[big] at *;omega) fun x hx=>ih x hx (by have:=dg hx;simp only[big] at *;omega)
 exact f29 Γ l hb fun s hs=>key s (by have:=dg hs;simp only[big] at *;omega)
theorem f128m (l:List Lns)(hb:l.length<big):CallOk Tryz.prog Γ 128 [.so 0 0 l.length none] [(0,.cells (row aL l) 122 true)] 1 true (.tp []) [(0,.cells (row aL l.reverse) 122 true)] 1:=by
 simp only[big] at hb;obtain⟨n,hn⟩:∃n,Hid n l.length:=⟨_,rfl⟩;rw[show l.length=n from hn.symm] at hb ⊢;have hres:Hid (row aL l.reverse) (row aL l.reverse):=rfl;refine Z1 28 Tryz.func128 rfl rfl fun a hl g0=>?_
 have hw0:=ac ((n:Int)-1) (by omega) (by omega);refine GG ?_;refine aq [(7,27)] [2,3] (fun k a h=>∃A M B,l=A++(M++B)∧Hid A.length B.length∧M.length≤k∧lk a 2=some (.int .i64 A.length)∧lk a 3=some (.int .i64 ((A.length:Int)+M.length-1))∧h=[(0,.cells (row aL (B.reverse++(M++A.reverse))) 122 true)]) ⟨[],l,[],by simp,rfl,Nat.le_refl _,by simp[*],by unfold Hid at hn;simp[*],by simp⟩ ?_;intro a1 hk hk0 k a h hF hI;replace g0:=hF.a hk 0;replace hl:a.length=28:=hF.len.trans (hk0.trans (by simp[*]));clear hk hk0;obtain⟨A,M,B,hl0,hAB,hkM,h2,h3,rfl⟩:=hI;have hlen:n=A.length+M.length+A.length:=by unfold Hid at hn hAB;rw[hn,hl0];simp;omega
 rcases Nat.lt_or_ge M.length 2 with hM|hM
 ·have hrev:l.reverse=B.reverse++(M++A.reverse):=by
   rw[hl0]
   match M,hM with
   |[],_=>simp
   |[m],_=>simp
  have hnlt:¬(A.length:Int)<A.length+M.length-1:=(by omega);rw[hrev];clear hl0;refine GG ?_;exact⟨by simp,by simp[Tryz.f128, *],by (repeat (first|exact aP|refine aK (by simp[V.get, *]) ?_))⟩
 ·obtain⟨x,M',y,rfl⟩:∃x M' y,M=x::(M'++[y]):=by
   match M,hM with
   |x::M1,hM=>have:M1≠[]:=(by intro h;subst h;simp at hM);exact⟨x,M1.dropLast,M1.getLast this,by rw[List.dropLast_concat_getLast this]⟩
  obtain⟨k,rfl⟩:∃k',k=k'+1:=⟨k-1,by omega⟩;have hkM':M'.length≤k:=(by simp at hkM;omega);have hc:row aL (B.reverse++(x::(M'++[y])++A.reverse))=row aL B.reverse++(aL x++(row aL M'++(aL y++row aL A.reverse))):=(by simp[bf]);have hc2:row aL ((y::B).reverse++(M'++(A++[x]).reverse))=row aL B.reverse++(aL y++(row aL M'++(aL x++row aL A.reverse))):=(by simp[bf]);rw[hc];have hp1:(row aL B.reverse).length=A.length*16:=(by unfold Hid at hAB;simp[hAB]);have hp2:(row aL M').length=M'.length*16:=(by simp);have hp3:(row aL A.reverse).length=A.length*16:=(by simp);have hcl1:aE (row aL B.reverse)=true:=(by simp);have hcl2:aE (row aL M')=true:=(by simp);have hcl3:aE (row aL A.reverse)=true:=(by simp);have hlo1:aV 6 (row aL B.reverse)=true:=(by simp);have hlo2:aV 6 (row aL M')=true:=(by simp);have hlo3:aV 6 (row aL A.reverse)=true:=(by simp);generalize row aL B.reverse=P at *
  generalize row aL M'=Q at *
  generalize row aL A.reverse=S at *
  obtain⟨i,hi⟩:∃i,Hid i A.length:=⟨_,rfl⟩;obtain⟨j,hj⟩:∃j,Hid j M'.length:=⟨_,rfl⟩;have e3:((A.length:Int)+((x::(M'++[y])).length:Nat)-1)=i+j+1:=(by unfold Hid at hi hj;simp[hi,hj];omega);rw[e3] at h3;rw[show A.length=i from hi.symm] at h2 hp1 hp3;rw[show M'.length=j from hj.symm] at hp2;have hnn:n=i+j+2+i:=(by unfold Hid at hi hj;rw[hlen,hi,hj];simp;omega);subst hnn;have hlt:(i:Int)<i+j+1:=(by omega);have hlt2:(i:Int)<i+j+2+i:=(by omega);have hlt3:(i:Int)+j+1<i+j+2+i:=(by omega);have hpos:(0:Int)≤i+j+1:=(by omega);have hT:((i:Int)+j+1).toNat=i+j+1:=(by omega);have hw1:=ac ((i:Int)+1) (by omega) (by omega);have hw2:=ac ((i:Int)+j) (by omega) (by omega);have d1:List.drop ((i+j+1)*16) (P++(aL x++(Q++(aL y++S))))=aL y++S:=(by rw[show P++(aL x++(Q++(aL y++S)))=(P++(aL x++Q))++(aL y++S) by simp,show(i+j+1)*16=(P++(aL x++Q)).length by simp[hp1,hp2];omega];exact List.drop_left);have d2:List.drop (i*16) (P++(aL x++(Q++(aL y++S))))=aL x++(Q++(aL y++S)):=(by rw[←hp1];exact List.drop_left);have d3:List.take (i*16) (P++(aL x++(Q++(aL y++S))))=P:=(by rw[←hp1];exact List.take_left);have d4:List.drop (i*16+16) (P++(aL x++(Q++(aL y++S))))=Q++(aL y++S):=(by rw[show P++(aL x++(Q++(aL y++S)))=(P++aL x)++(Q++(aL y++S)) by simp,show i*16+16=(P++aL x).length by simp[hp1]];exact List.drop_left);have d5:List.take ((i+j+1)*16) (P++(aL y++(Q++(aL y++S))))=P++(aL y++Q):=(by rw[show P++(aL y++(Q++(aL y++S)))=(P++(aL y++Q))++(aL y++S) by simp,show(i+j+1)*16=(P++(aL y++Q)).length by simp[hp1,hp2];omega];exact List.take_left);have d6:List.drop ((i+j+1)*16+16) (P++(aL y++(Q++(aL y++S))))=S:=(by rw[show P++(aL y++(Q++(aL y++S)))=(P++(aL y++(Q++aL y)))++S by simp,show(i+j+1)*16+16=(P++(aL y++(Q++aL y))).length by simp[hp1,hp2];omega];exact List.drop_left);have hle1:(i+j+1)*16+16≤i*16+(16+(j*16+(16+i*16))):=(by omega);have hle3:(i+j+1)*16≤i*16+(16+(j*16+(16+i*16))):=(by omega);have hle2:i*16+16≤i*16+(16+(j*16+(16+i*16))):=(by omega);have hfin:Hid (((A++[x]).length:Nat)+(M'.length:Nat)-1:Int) ((i:Int)+j+1-1):=(by unfold Hid at hi hj ⊢;simp[←hi,←hj];omega);clear hb hM hlen e3 hc;refine GG ?_;exact NX [(0,.cells (P++(aL y++(Q++(aL x++S)))) 122 true)] fun a2 hF2=>⟨A++[x],M',y::B,by rw[hl0];simp,by unfold Hid at hAB ⊢;simp[hAB],hkM',((hF2.same 2 rfl).trans (by unfold Hid at hi;simp[*])),((hF2.same 3 rfl).trans (by unfold Hid at hfin;rw[hfin];clear hfin;simp[*])),by rw[hc2]⟩
@[simp] theorem K7:IntKind.i64.wrap 2=2:=rfl
@[simp] theorem K8:IntKind.i64.wrap 3=3:=rfl
@[simp] theorem K9:IntKind.i64.wrap 4=4:=rfl
@[simp] theorem Ka:IntKind.i64.wrap 5=5:=rfl
@[simp] theorem Kb:IntKind.i64.wrap 6=6:=rfl
@[simp] theorem Kc:IntKind.i64.wrap 7=7:=rfl
theorem BV (s:Lns):∃q:List Val,(∀k a b l,aL (.mk k a b s.ty s.doc s.swaps l)=.int .i64 k :: .str a :: .str b::(q++[sls aL l]))∧aL s=.int .i64 s.kind :: .str s.a :: .str s.b::(q++[sls aL s.subs])∧q.length=12∧aE q=true∧ae q=true:=by
 refine⟨cTy s.ty++(aJ s.doc++[sls cO s.swaps]),fun k a b l=>?_,?_,by simp,by simp[aE,Val.closed],by simp[ae,iO]⟩
 ·rw[ey];simp[Lns.kind,Lns.a,Lns.b,Lns.ty,Lns.doc,Lns.swaps,Lns.subs]
 ·rw[ey];simp
theorem Ck (s:Lns):turnN s=.mk (dC s.kind) (if s.kind=1 then s.b else s.a) (if s.kind=1 then s.a else s.b) s.ty s.doc s.swaps (if s.kind=9∨s.kind=10 then ba s.subs else s.subs):=by cases s;rfl
theorem f129 (s:Lns)(h74:PureOk Tryz.prog Γ 74 [sls aL s.subs] (sls aL (ba s.subs))):PureOk Tryz.prog Γ 129 [.ag (aL s)] (.ag (aL (turnN s))):=by
 obtain⟨q,q1,q2,q3,q4,q5⟩:=BV s;rw[Ck,q1,q2];clear q1 q2;have s9:sls aL s.subs=.sl (row aL s.subs) s.subs.length none:=rfl;have s10:sls aL (ba s.subs)=.sl (row aL (ba s.subs)) (ba s.subs).length none:=rfl;have hz:aE (row aL s.subs)=true:=by simp
 have hz2:aE (row aL (ba s.subs))=true:=by simp
 have hd1:∀v,List.drop 12 (q++[v])=[v]:=fun v=>by rw[←q3];exact List.drop_left
 have ht1:∀v,List.take 12 (q++[v])=q:=fun v=>by rw[←q3];exact List.take_left
 have hg1:∀v:Val,(q++[v])[12]?=some v:=fun v=>by rw[List.getElem?_append_right (by omega),q3];rfl
 have hat:∀(v:Val) (h:12<(q++[v]).length),(q++[v])[12]=v:=fun v h=>kO (hg1 v) h
 have hal:∀v:Val,List.take 13 (q++[v])=q++[v]:=fun v=>List.take_of_length_le (by simp[q3])
 have hdr:∀v:Val,List.drop 13 (q++[v])=[]:=fun v=>List.drop_of_length_le (by simp[q3])
 generalize s.a=sa at *
 generalize s.b=sb at *
 clear s9 s10;refine Y1 37 Tryz.func129 rfl rfl fun a hl g0=>?_
 repeat' first|refine G1 ?_|(refine G2 ?_ ?_<;>intro hc hd<;>try exact hd.elim)|fail
 all_goals (try (refine aC h74 ?_))
 clear h74;all_goals (repeat' first|refine G1 ?_|(refine G2 ?_ ?_<;>intro hc hd<;>try exact hd.elim)|fail)
 all_goals (refine⟨by simp,_,1,(by simp[Tryz.f129,V.get,V.put,aY, *];rfl),?_⟩;rw[aG (by simp[Val.closed,aE, *])];simp[dC, *])
theorem f109c (x0:Lns)(r0:List Lns)(hb:wNs (x0::r0)<big):CallOk Tryz.prog Γ 109 [sls aL (x0::r0)] [] 0 true (.so 0 0 (r0.length+1) none) [(0,.cells (row aL (x0::r0)) 122 true)] 1:=by
 refine bc Tryz.func109 rfl (by simp[Tryz.f109]) (by omega) (by simp[aS,aV]) (by simp[bW,cN]) fun a hla ha=>(I5 Γ x0 r0 hb (Hy Γ _ hb) _ rfl a hla (ha 0 _ rfl)).mono ?_
 rintro e' a' h' _ ⟨g1,g2,g3⟩;exact⟨g1,[(7,0)],.so 7 0 (r0.length+1) none,[(7,.cells (row aL (x0::r0)) 122 true)],_,_,by simp,by simp,by simp[Tryz.f109,g2],by simp,by simp,aK g3 aP,Clo.refl _ _⟩
theorem f128z:PureOk Tryz.prog Γ 128 [.sl [] 0 none] (.tp []):=by
 have hw:=ac (-1) (by omega) (by omega);refine Y1 28 Tryz.func128 rfl rfl fun a hl g0=>?_
 refine GG ?_;refine aq [(7,27)] [2,3] (fun k a h=>h=[]∧k=0∧lk a 2=some (.int .i64 0)∧lk a 3=some (.int .i64 (-1))) ⟨rfl,rfl,by simp[*],by simp[*]⟩ ?_;intro a1 hk hk0 k a h hF hI;replace g0:=hF.a hk 0;replace hl:a.length=28:=hF.len.trans (hk0.trans (by simp[*]));clear hk hk0;obtain⟨rfl,rfl,h2,h3⟩:=hI;refine GG ?_;exact⟨by simp,.tp [],2,by simp[Tryz.f128, *],rfl⟩
theorem wJ:∀l:List Lns,ba l=(l.map turnN).reverse
 |[]=>rfl
 |s::l=>by rw[ba,wJ l];simp
theorem f74 (l:List Lns)(hb:wNs l<big)(ih:∀s∈l,PureOk Tryz.prog Γ 74 [sls aL s.subs] (sls aL (ba s.subs))):PureOk Tryz.prog Γ 74 [sls aL l] (sls aL (ba l)):=by
 have hbl:l.length<big:=by have:=jX l;omega
 have j1:∀s∈l,PureOk Tryz.prog Γ 129 [.ag (aL s)] (.ag (aL (turnN s))):=fun s hs=>f129 Γ s (ih s hs)
 clear ih;cases l with
 |nil=>
  have h1:PureOk Tryz.prog Γ 109 [.sl [] 0 none] (.sl [] 0 none):=f109' Γ [] hb;have h2:=f128z Γ;refine Y1 24 Tryz.func74 rfl rfl fun a hl g0=>?_
  refine GG ?_;refine aC h1 ?_;refine GG ?_;refine aC h2 ?_;refine GG ?_;refine aq [(4,5),(13,22)] [12] (fun k a h=>h=[]∧k=0∧lk a 12=some (.int .i64 0)) ⟨rfl,rfl,by simp[*]⟩ ?_;intro a1 hk hk0 k a h hF hI;replace g3:=hF.a hk 3;replace g10:=hF.a hk 10;replace g11:=hF.a hk 11;replace hl:a.length=24:=hF.len.trans (hk0.trans (by simp[*]));clear hk hk0;obtain⟨rfl,rfl,h12⟩:=hI;refine GG ?_;exact⟨by simp,.sl [] 0 none,2,by simp[Tryz.f74, *],rfl⟩
 |cons x0 r0=>
  have h1:=(f109c Γ x0 r0 hb).ren [] 2 rfl (by simp[co]) (by simp) rfl;simp at h1;have h2:=(f128m Γ (x0::r0) hbl).ren [2] 5 rfl (by simp[co,fg]) (by simp) rfl;simp at h2;simp only[big] at hbl;have hbk:=wJ (x0::r0);rw[←List.map_reverse] at hbk;rw[hbk];replace j1:∀s∈(x0::r0).reverse,PureOk Tryz.prog Γ 129 [.ag (aL s)] (.ag (aL (turnN s))):=fun s hs=>j1 s (List.mem_reverse.1 hs)
  have hlen:Hid (x0::r0).reverse.length (r0.length+1):=(by simp[Hid]);have hrv:row aL (r0.reverse++[x0])=row aL (x0::r0).reverse:=(by simp);have hlb:r0.length+1<100000000000:=(by simpa using hbl);try rw[hrv] at h2
  generalize hL:(x0::r0).reverse=L at *
  clear hb hbk hrv hbl hL;refine Y1 24 Tryz.func74 rfl rfl fun a hl g0=>?_
  refine GG ?_;refine aw h1 ?_;refine GG ?_;refine aw h2 ?_;refine GG ?_;refine aq [(4,5),(13,22)] [12] (fun k a h=>∃pre rest P,Hid L (pre++rest)∧Hid P (pre.map turnN)∧P.length=pre.length∧k=rest.length∧lk a 12=some (.int .i64 P.length)∧h=[(2,.cells (row aL (P++rest)) 122 true)]) ⟨[],L,[],rfl,rfl,rfl,rfl,by simp[*],by simp[*]⟩ ?_;intro a1 hk hk0 k a h hF hI;replace g3:=hF.a hk 3;replace g10:=hF.a hk 10;replace g11:=hF.a hk 11;replace hl:a.length=24:=hF.len.trans (hk0.trans (by simp[*]));clear hk hk0;obtain⟨pre,rest,P,hL,hP,hPl,rfl,h12,rfl⟩:=hI;have hn:P.length+rest.length=r0.length+1:=(by unfold Hid at hL hlen;rw[hPl,←hlen,hL];simp);have hre:L.map turnN=pre.map turnN++rest.map turnN:=(by unfold Hid at hL;rw[hL];simp);rw[hre];rw[←show P=pre.map turnN from hP];cases rest with
  |nil=>have hnl:¬(P.length:Int)<r0.length+1:=(by simp at hn;omega);simp only[List.append_nil,List.map_nil];have hn':Hid P.length (r0.length+1):=(by simpa[Hid] using hn);clear j1 hre hPl hn;refine GG ?_;have hsl:sls aL P=.sl (row aL P) (r0.length+1) none:=(by unfold Hid at hn';rw[←hn']);refine⟨by simp,.so 2 0 (r0.length+1) none,(row aL P).length+3,by simp[Tryz.f74, *],?_⟩;rw[hsl];exact dD rfl (by unfold Hid at hn';simp[←hn']) (by simp) (by omega)
  |cons x r=>have hx:=j1 x (by unfold Hid at hL;simp[hL]);have hlt:(P.length:Int)<r0.length+1:=(by simp at hn;omega);have hw:=ac ((P.length:Int)+1) (by omega) (by simp at hn;omega);have hrd:=qM P r x;have ht:List.take (P.length*16) (row aL (P++x::r))=row aL P:=(by rw[bf];exact List.take_left' (by simp));have hdr:List.drop (P.length*16+16) (row aL (P++x::r))=row aL r:=(by rw[bf,cM,←List.append_assoc];exact List.drop_left' (by simp));clear j1 hre hn;have hPl':Hid P.length pre.length:=hPl;clear hPl;refine GG ?_;refine aC hx ?_;clear hx;refine GG ?_;exact NX [(2,.cells (row aL P++(aL (turnN x)++row aL r)) 122 true)] fun a2 hF2=>⟨pre++[x],r,P++[turnN x],by unfold Hid at *;simp[hL],by unfold Hid at *;simp[hP],by unfold Hid at *;simp[hPl'],rfl,(hF2.q 12),by simp[bf]⟩
theorem f74' (l:List Lns)(hb:wNs l<big):PureOk Tryz.prog Γ 74 [sls aL l] (sls aL (ba l)):=by
 have key:∀s:Lns,wN s<big→PureOk Tryz.prog Γ 74 [sls aL s.subs] (sls aL (ba s.subs)):=by
  intro s;induction s using Lns.ind with
  |h s ih=>intro hs;have:=eu s;exact f74 Γ s.subs (by simp only[big] at *;omega) fun x hx=>ih x hx (by have:=dg hx;simp only[big] at *;omega)
 exact f74 Γ l hb fun s hs=>key s (by have:=dg hs;simp only[big] at *;omega)
end
section
variable (Γ:Glo Tryz.prog)
attribute [local simp] veq jE ob jD sK
theorem Clo.cut {P:Program}{id n:Nat}{cs cs':List Val}{ty:TypeId}:Clo P (.so id 0 n none) [(id,.cells (cs++cs') ty true)] (.so id 0 n none) [(id,.cells cs ty true)]:=by
 intro F ρ w0 O w y m hr;refine⟨?_,hr⟩;obtain⟨L,x,h1,h2,h3,c',rfl,h5,h6,h7,h8⟩:=m.own id (.cells (cs++cs') ty true) (by simp[get]);have hb:BRel P F ρ L (.cells cs ty true) (.cells c' ty (0,0)):=by refine⟨c',rfl,h5,h6,?_,fun ho=>by cases ho⟩;have:=h7.take cs.length;rw[List.take_take,List.take_left,Nat.min_eq_left (by simp)] at this;exact this
 have:=m.reblk (blk':=.cells cs ty true) (blk:=.cells (cs++cs') ty true) (by simp[get]) h1 h3 hb
 simpa[put] using this
theorem xO {zs:List Val}(hz:zs≠[]){n:Nat}{v:Val}(h:v∈kM zs n):v∈zs:=by unfold kM at h;obtain⟨i,_,rfl⟩:=List.mem_map.1 h;have hp:0<zs.length:=List.length_pos_iff.2 hz;have hi:i % zs.length<zs.length:=Nat.mod_lt _ hp;rw[List.getD_eq_getElem?_getD,List.getElem?_eq_getElem hi];exact List.getElem_mem hi
theorem lW:∀l:List Val,aE l=true↔∀v∈l,v.closed=true
 |[]=>by simp[aE]
 |v::l=>by rw[aE,Bool.and_eq_true,lW l];simp
theorem nN:∀l:List Val,ae l=true↔∀v∈l,iO v=true
 |[]=>by simp[ae]
 |v::l=>by rw[ae,Bool.and_eq_true,nN l];simp
theorem yK {zs:List Val}(hz:zs≠[])(hc:aE zs=true)(n:Nat):aE (kM zs n)=true:=(lW _).2 fun v hv=>(lW _).1 hc v (xO hz hv)
theorem zS {zs:List Val}(hz:zs≠[])(hc:ae zs=true)(n:Nat):ae (kM zs n)=true:=(nN _).2 fun v hv=>(nN _).1 hc v (xO hz hv)
theorem pC {α:Type}{p:α→Bool}:∀{l:List α}{j:Nat},bg p l j=-1→∀x∈l,p x=false
 |[],_,_,_,h=>by cases h
 |y::l,j,h,x,hx=>by
  rw[bg] at h;split at h
  ·omega
  ·rename_i hp;rcases List.mem_cons.1 hx with rfl|hx
   ·simpa using hp
   ·exact pC h x hx
theorem pD {α:Type}{p:α→Bool}:∀{l:List α}{j:Nat},bg p l j≠-1→∃pre x r,l=pre++x::r∧(∀y∈pre,p y=false)∧p x=true∧bg p l j=((j+pre.length:Nat):Int)
 |[],_,h=>(h rfl).elim
 |y::l,j,h=>by
  rw[bg] at h ⊢;split
  ·rename_i hp;exact⟨[],y,l,rfl,by simp,hp,by simp⟩
  ·rename_i hp;rw[if_neg hp] at h;obtain⟨pre,x,r,h1,h2,h3,h4⟩:=pD h;refine⟨y::pre,x,r,by rw[h1];rfl,fun z hz=>?_,h3,by rw[h4];simp;omega⟩;rcases List.mem_cons.1 hz with rfl|hz
   ·simpa using hp
   ·exact h2 z hz
theorem f310 (f:Fld)(n:Str):PureOk Tryz.prog Γ 310 [.ag (ad f),.pp [.str n]] (.bool (decide (f.name=n))):=by
 refine Y2 8 Tryz.func310 rfl rfl fun a hl g0 g1=>?_
 refine GG ?_;all_goals first|(refine⟨by simp,.bool (decide (f.name=n)),1,?_,rfl⟩;(simp[Tryz.f310, *]<;>grind [List.length_eq_zero_iff]);done)|skip
theorem qs (n:Str):∀l m:List Fld,br n (l++m)=br n l++br n m
 |[],m=>rfl
 |f::l,m=>by simp only[List.cons_append,br,qs n l m];split<;>rfl
theorem vF {n:Str}:∀{l:List Fld},(∀f∈l,decide (f.name=n)=false)→br n l=l
 |[],_=>rfl
 |f::l,h=>by rw[br,if_neg (by simpa using h f (by simp)),vF fun g hg=>h g (by simp[hg])]
theorem f309z (nm:Str):PureOk Tryz.prog Γ 309 [.sl [] 0 none,.fn 310 [] [.pp [.str nm]]] (.sl [] 0 none):=by
 have h1:=f263 Γ [] (fun f=>decide (f.name=nm)) (by simp[big]) 310 [] [.pp [.str nm]] (fun x hx=>f310 Γ x nm) (by kernel_rfl) rfl rfl;have h2:PureOk Tryz.prog Γ 263 [.sl [] 0 none,.fn 310 [] [.pp [.str nm]]] (.int .i64 (-1)):=h1;refine Y2 42 Tryz.func309 rfl rfl fun a hl g0 g1=>?_
 refine GG ?_;all_goals (try (refine aC h2 ?_))
 refine GG ?_;exact⟨by simp,.sl [] 0 none,1,by simp[Tryz.f309, *],rfl⟩
theorem f309m (nm:Str)(fs:List Fld)(hne:fs≠[])(hb:fs.length<big):CallOk Tryz.prog Γ 309 [.so 0 0 fs.length none,.fn 310 [] [.pp [.str nm]]] [(0,.cells (row ad fs) 112 true)] 1 true (.so 0 0 (br nm fs).length none) [(0,.cells (row ad (br nm fs)) 112 true)] 1:=by
 have hx:∀f∈fs,PureOk Tryz.prog Γ 310 [.ag (ad f),.pp [.str nm]] (.bool (decide (f.name=nm))):=fun f _=>f310 Γ f nm
 have h1:=f263 Γ fs (fun f=>decide (f.name=nm)) hb 310 [] [.pp [.str nm]] (fun x hx=>f310 Γ x nm) (by kernel_rfl) rfl rfl;simp only[big] at hb;refine bc Tryz.func309 rfl (by simp[Tryz.f309]) (by omega) (by simp[aS,aV]) (by simp[bW,cN]) ?_;intro a hl ha;replace hl:a.length=42:=hl;have g0:=ha 0 _ rfl;have g1:=ha 1 _ rfl;clear ha;by_cases hi:bg (fun f=>decide (f.name=nm)) fs 0=-1
 ·rw[vF (pC hi)];rw[hi] at h1;clear hi hx;refine GG ?_;refine gp ((row ad fs).length+20) h1 ?_ ⟨[.so 0 0 fs.length none,.fn 310 [] [.pp [.str nm]]],by simp[*],aI (dD rfl (by simp) (by simp) (by omega)) (aI (aG (by simp[Val.closed,aE])) bP)⟩;refine GG ?_;exact⟨by simp,[],.so 0 0 fs.length none,[(0,.cells (row ad fs) 112 true)],_,_,by simp,by simp,by simp[Tryz.f309, *],by simp,by simp,by (repeat (first|exact aP|refine aK (by simp[V.get, *]) ?_)),Clo.refl _ _⟩
 ·obtain⟨pre0,x0,r0,e1,e2,e3,e4⟩:=pD hi;rw[e4] at h1;have hd0:br nm (pre0++[x0])=pre0:=(by rw[qs,vF e2];simp only[br];rw[if_pos (by simpa using e3)];simp);have hw0:=ac ((pre0.length:Int)+1) (by omega) (by rw[e1] at hb;simp at hb;omega);have hn1:¬(pre0.length:Int)=-1:=(by omega);obtain⟨n,hn⟩:∃n,Hid n fs.length:=⟨_,rfl⟩;rw[show fs.length=n from hn.symm] at g0 hb;have e5:sls ad fs=.sl (row ad fs) n none:=(by rw[show n=fs.length from hn]);rw[e5] at h1;have hcn:(row ad fs).length=n*8:=(by rw[show n=fs.length from hn];simp);have e1':Hid fs (pre0++x0::r0):=e1;clear hi e1 e2 e3 e4 e5 hne;refine GG ?_;refine gp ((row ad fs).length+20) h1 ?_ ⟨[.so 0 0 n none,.fn 310 [] [.pp [.str nm]]],by simp[*],aI (dD (t:=112) (cs:=row ad fs) rfl (by simp[hcn]) (by simp) (by omega)) (aI (aG (by simp[Val.closed,aE])) bP)⟩;clear h1;refine GG ?_;refine aq [(7,7),(16,35)] [6,5] (fun k a h=>∃done rest G,Hid fs (done++rest)∧k=rest.length∧Hid G.length ((done.length-(br nm done).length)*8)∧(br nm done).length<done.length∧aE G=true∧ae G=true∧lk a 5=some (.int .i64 (br nm done).length)∧lk a 6=some (.int .i64 done.length)∧h=[(0,.cells (row ad (br nm done)++(G++row ad rest)) 112 true)]) ⟨pre0++[x0],r0,ad x0,by simpa[Hid] using e1',rfl,by simp[Hid,hd0],by simp[hd0],by simp,by simp,by simp[*],by simp[*],by unfold Hid at e1';simp[hd0,e1',bf]⟩ ?_;intro a1 hk hk0 k a h hF hI;replace g0:=hF.a hk 0;replace g1:=hF.a hk 1;replace hl:a.length=42:=hF.len.trans (hk0.trans (by simp[*]));clear hk hk0;obtain⟨done,rest,G,hf,rfl,hG,hlt,hG2,hG3,h5,h6,rfl⟩:=hI;obtain⟨i,hi⟩:∃i,Hid i (br nm done).length:=⟨_,rfl⟩;obtain⟨g,hg⟩:∃g,Hid done.length (i+g):=⟨done.length-(br nm done).length,by unfold Hid at hi ⊢;omega⟩;obtain⟨K,hK⟩:∃K,Hid K (row ad (br nm done)):=⟨_,rfl⟩;have hKl:K.length=i*8:=(by unfold Hid at hK hi;rw[hK,hi];simp);have hGl:G.length=g*8:=(by unfold Hid at hG hg hi;rw[hG,hg,←hi];congr 1;omega);have hKc:aE K=true:=(by unfold Hid at hK;rw[hK];simp);have hg0:0<g:=(by unfold Hid at hg hi;omega);have hnl:Hid n (i+g+rest.length):=(by unfold Hid at hn hf hg ⊢;rw[hn,hf,List.length_append,hg]);rw[show(br nm done).length=i from hi.symm] at h5;rw[show done.length=i+g from hg] at h6;rw[show row ad (br nm done)=K from hK.symm];rw[show n=i+g+rest.length from hnl] at g0 hb;clear hlt hG hnl hcn e1' hd0 hw0 hn1;cases rest with
  |nil=>
   have hfd:fs=done:=(by unfold Hid at hf;simpa using hf);rw[hfd,show(br nm done).length=i from hi.symm,show row ad (br nm done)=K from hK.symm];simp only[List.length_nil,Nat.add_zero,eh,List.append_nil] at *
   clear hx hfd;have hii:(i:Int)≤i+g:=(by omega);have hc3:g≠0:=(by omega);have hzz:ae (kM [Val.str [],Val.bool false,Val.int IntKind.i64 0,Val.int IntKind.i64 0,Val.int IntKind.i64 0,Val.nils,Val.nils,Val.nils] (g*8))=true:=zS (by simp) rfl _;have hzl:(kM [Val.str [],Val.bool false,Val.int IntKind.i64 0,Val.int IntKind.i64 0,Val.int IntKind.i64 0,Val.nils,Val.nils,Val.nils] (g*8)).length=g*8:=sm _ _;have hzc:aE (kM [Val.str [],Val.bool false,Val.int IntKind.i64 0,Val.int IntKind.i64 0,Val.int IntKind.i64 0,Val.nils,Val.nils,Val.nils] (g*8))=true:=yK (by simp) rfl _;have ht:List.take (i*8) (K++G)=K:=(by rw[←hKl];exact List.take_left);have hd:List.drop (i*8+g*8) (K++G)=[]:=List.drop_of_length_le (by simp[hKl,hGl]);refine GG ?_;exact⟨by simp,[],.so 0 0 i none,_,.so 0 0 i none,[(0,.cells K 112 true)],by simp,by simp,by simp[Tryz.f309, *],by simp,by simp[*],(by (repeat (first|exact aP|refine aK (by simp[V.get, *];rfl) ?_))),Clo.cut⟩
  |cons x r=>
   have hfd:br nm (done++[x])=if x.name=nm then br nm done else br nm done++[x]:=by rw[qs];simp only[br];split<;>simp
   have j1:=hx x (by unfold Hid at hf;simp[hf]);generalize hp:decide (x.name=nm)=p at *
   have hlt:(i:Int)+g<i+g+(r.length+1):=(by omega);have hlt2:(i:Int)<i+g+(r.length+1):=(by omega);have hpos:(0:Int)≤i+g:=(by omega);have hT:((i:Int)+g).toNat=i+g:=(by omega);have hw:=ac ((i:Int)+g+1) (by omega) (by simp at hb;omega);have hw2:=ac ((i:Int)+1) (by omega) (by simp at hb;omega);have hd1:List.drop ((i+g)*8) (K++(G++(ad x++row ad r)))=ad x++row ad r:=(by rw[←List.append_assoc,show(i+g)*8=(K++G).length by simp[hKl,hGl];omega];exact List.drop_left);have hle1:(i+g)*8≤i*8+(g*8+(8+r.length*8)):=(by omega);have hle2:i*8+8≤i*8+(g*8+(8+r.length*8)):=(by omega);obtain⟨g1,g2,hgg,hg1,hg2⟩:∃g1 g2,Hid G (g1++g2)∧g1.length=8∧g2.length=g*8-8:=⟨_,_,(List.take_append_drop 8 G).symm,by simp[hGl];omega,by simp[hGl]⟩;have hgc:aE g2=true∧ae g2=true:=(by unfold Hid at hgg;rw[hgg] at hG2 hG3;simp only[au,bZ,Bool.and_eq_true] at hG2 hG3;exact⟨hG2.2,hG3.2⟩);have ht1:List.take (i*8) (K++(G++(ad x++row ad r)))=K:=(by rw[←hKl];exact List.take_left);have hd2:List.drop (i*8+8) (K++(G++(ad x++row ad r)))=g2++(ad x++row ad r):=(by unfold Hid at hgg;rw[hgg,show K++(g1++g2++(ad x++row ad r))=(K++g1)++(g2++(ad x++row ad r)) by simp,show i*8+8=(K++g1).length by simp[hKl,hg1]];exact List.drop_left);clear hx;refine GG ?_;refine aC j1 ?_;clear j1;repeat' first|refine G1 ?_|(refine G2 ?_ ?_<;>intro hc hd<;>try exact hd.elim)|fail
   ·have hcp:p=false:=(by simpa using hc);have hN:¬x.name=nm:=(by simpa using hp.trans hcp);have hfd':br nm (done++[x])=br nm done++[x]:=(by rw[hfd,if_neg hN]);have q1:Hid (done++[x]).length (i+g+1):=(by unfold Hid at hg ⊢;simp[hg]);have q2:Hid (br nm (done++[x])).length (i+1):=(by unfold Hid at hi ⊢;rw[hfd'];simp[hi]);have q3:Hid (row ad (br nm (done++[x]))++(g2++ad x++row ad r)) (K++(ad x++(g2++(ad x++row ad r)))):=(by unfold Hid at hK ⊢;rw[hfd',hK];simp[bf]);have q4:aE (g2++ad x)=true∧ae (g2++ad x)=true:=(by simp[hgc]);have q5:Hid (g2++ad x).length (((done++[x]).length-(br nm (done++[x])).length)*8):=(by unfold Hid at q1 q2 ⊢;rw[q1,q2];simp[hg2];omega);have q6:(br nm (done++[x])).length<(done++[x]).length:=(by unfold Hid at q1 q2;rw[q1,q2];omega);have hlo:aV 10 K=true∧aV 10 g2=true:=⟨aD _ hKc,aD _ hgc.1⟩;clear hfd hfd' hp;exact NX [(0,.cells (K++(ad x++(g2++(ad x++row ad r)))) 112 true)] fun a2 hF2=>⟨done++[x],r,g2++ad x,by unfold Hid at hf ⊢;simp[hf],rfl,q5,q6,q4.1,q4.2,((hF2.same 5 rfl).trans (by unfold Hid at q2;rw[q2];simp[*])),((hF2.same 6 rfl).trans (by unfold Hid at q1;rw[q1];simp[*])),by rw[show _=_ from q3]⟩
   ·have hcp:p=true:=(by simpa using hc);have hN:x.name=nm:=(by simpa using hp.trans hcp);have hfd':br nm (done++[x])=br nm done:=(by rw[hfd,if_pos hN]);have q1:Hid (done++[x]).length (i+g+1):=(by unfold Hid at hg ⊢;simp[hg]);have q2:Hid (br nm (done++[x])).length i:=(by unfold Hid at hi ⊢;rw[hfd'];exact hi.symm);have q3:Hid (row ad (br nm (done++[x]))++(G++ad x++row ad r)) (K++(G++(ad x++row ad r))):=(by unfold Hid at hK ⊢;rw[hfd',hK];simp);have q4:aE (G++ad x)=true∧ae (G++ad x)=true:=(by simp[hG2,hG3]);have q5:Hid (G++ad x).length (((done++[x]).length-(br nm (done++[x])).length)*8):=(by unfold Hid at q1 q2 ⊢;rw[q1,q2];simp[hGl];omega);have q6:(br nm (done++[x])).length<(done++[x]).length:=(by unfold Hid at q1 q2;rw[q1,q2];omega);have hlo:aV 10 K=true∧aV 10 G=true:=⟨aD _ hKc,aD _ hG2⟩;clear hfd hfd' hp;exact NX [(0,.cells (K++(G++(ad x++row ad r))) 112 true)] fun a2 hF2=>⟨done++[x],r,G++ad x,by unfold Hid at hf ⊢;simp[hf],rfl,q5,q6,q4.1,q4.2,((hF2.same 5 rfl).trans (by unfold Hid at q2;rw[q2];simp[*])),((hF2.same 6 rfl).trans (by unfold Hid at q1;rw[q1];simp[*])),by rw[show _=_ from q3]⟩
end
end Go.V
end
section
namespace Go.V
open Go Go.Proofs
section
variable {P:Program} {Γ:Glo P}
def Df (h1 h2:Heap):Bool:=h1.all fun p=>h2.all fun q=>decide (p.1≠q.1)
theorem B9 {h1 h2:Heap}(hd:Df h1 h2=true)(i:Nat)(g1:(get h1 i).isSome=true)(g2:(get h2 i).isSome=true):False:=by
 cases e1:get h1 i with
 |none=>rw[e1] at g1;cases g1
 |some b1=>
  cases e2:get h2 i with
  |none=>rw[e2] at g2;cases g2
  |some b2=>obtain⟨p,hp,k1⟩:=gC e1;obtain⟨q,hq,k2⟩:=gC e2;unfold Df at hd;simp only[List.all_eq_true,decide_eq_true_eq] at hd;exact hd p hp q hq (k1.trans k2.symm)
def setTs:List (Nat×Val)→List Val→List Val
 |[],a=>a
 |(t,u)::r,a=>setTs r (a.set t u)
theorem RelL.setTs {F:Fro}{ρ:Pl}:∀(us:List (Nat×Val)){a:List Val}{xs:List Value},RelL F ρ a xs→(∀p∈us,∀x,xs[p.1]?=some x→Rel F ρ p.2 x)→(∀p∈us,p.1<xs.length)→RelL F ρ (V.setTs us a) xs
 |[],_,_,h,_,_=>h
 |(t,u)::r,a,xs,h,hu,hl=>by have ht:=hl (t,u) (by simp);obtain⟨x,hx⟩:∃x,xs[t]?=some x:=⟨_,List.getElem?_eq_getElem ht⟩;exact RelL.setTs r (h.setAt hx (hu (t,u) (by simp) x hx)) (fun p hp=>hu p (by simp[hp])) (fun p hp=>hl p (by simp[hp]))
theorem jt {c:Code}{a:List Val}{h h1 h2:Heap}{N:Nat}{Q:Post}(n:Nat)(us:List (Nat×Val))(hs1:∀i b,get h1 i=some b→get h i=some b)(hs2:∀i b,get h2 i=some b→get h i=some b)(hdj:Df h1 h2=true)
  (hu:∀p∈us,∃v,lk a p.1=some v∧vw P h1 n v=some p.2) (hw:W P Γ c (setTs us a) h2 N Q):W P Γ c a h N Q:=by
 intro F ρ w0 O w act hG m hf ha hdf;have m1:=m.sub hs1
 let F':=frz F (cm h1 ρ) w
 have hle:FLe F F':=lj _;have hL:∀b,cm h1 ρ b→∃i L,(get h1 i).isSome=true∧ρ i=some L∧L.b=b:=by intro b hb;exact hb
 have m2:Mem P F' ρ h2 w0 O w:=by
  have m3:=m.sub hs2;refine⟨vO m1 _,fun i blk hg=>?_,m3.inj,m3.ours,m3.fr⟩;obtain⟨L,x,q1,q2,q3,q4⟩:=m3.own i blk hg;refine⟨L,x,q1,?_,q3,q4.mono P hle (PLe.refl ρ)⟩;cases hF:F' L.b with
  |none=>rfl
  |some c=>
   rcases nz hF with h|⟨h,_⟩
   ·rw[q2] at h;cases h
   ·exfalso;obtain⟨j,L',g1,g2,g3⟩:=hL _ h;cases hg1:get h1 j with
    |none=>rw[hg1] at g1;cases g1
    |some b1=>have:=m.inj i j L L' (by rw[hs2 i blk hg];rfl) (by rw[hs1 j b1 hg1];rfl) q1 g2 g3.symm;subst this;exact B9 hdj i g1 (by rw[hg];rfl)
 have hext:Ext F F' ρ ρ w0 O N N:=by
  refine⟨hle,PLe.refl ρ,fun b c hb=>?_,fun _ _=>rfl⟩;rcases nz hb with h|⟨h,_⟩
  ·exact .inl h
  ·obtain⟨j,L',g1,g2,g3⟩:=hL _ h;have:=m1.ours j L' g1 g2;rw[g3] at this;exact .inr this
 have ha2:RelL F' ρ (setTs us a) act.tmps.toList:=by
  refine RelL.setTs us (RelL.mono hle (PLe.refl ρ) _ _ ha) (fun p hp x hx=>?_) (fun p hp=>?_)
  ·obtain⟨v,hv1,hv2⟩:=hu p hp;obtain⟨y,hy,hr⟩:=ha.get hv1;rw[hx] at hy;cases hy;exact Rel.mono (FLe.refl _) (oK ρ) _ _ (oe m1 n v hv2 hr)
  ·obtain⟨v,hv1,_⟩:=hu p hp;obtain⟨y,hy,_⟩:=ha.get hv1;rcases Nat.lt_or_ge p.1 act.tmps.toList.length with h|h
   ·exact h
   ·rw[List.getElem?_eq_none h] at hy;cases hy
 exact wp_mono (hw F' ρ w0 O w act (hG.mono hle) m2 hf ha2 hdf) fun e act w hc=>hc.later hext (Nat.le_refl _)
theorem RelL.split {F:Fro}{ρ:Pl}{vs:List Val}:∀{us:List Val}{xs:List Value},RelL F ρ (us ++ .sl [] 0 none::vs) xs→RelL F ρ (us ++ .nils::vs) xs∨RelL F ρ (us ++ .sle::vs) xs
 |[],xs,h=>by
  simp only[List.nil_append,RelL] at h ⊢;obtain⟨y,ys,rfl,h2,h3⟩:=h;simp only[Rel] at h2;rcases h2 with ⟨h4|⟨p0,h4⟩,_⟩|⟨b,o,c,k,h4,_⟩
  ·exact .inl ⟨y,ys,rfl,by simp only[Rel];exact h4,h3⟩
  ·exact .inr ⟨y,ys,rfl,by simp only[Rel];exact⟨p0,0,h4⟩,h3⟩
  ·exact .inr ⟨y,ys,rfl,by simp only[Rel];exact⟨⟨b,o,none⟩,k,h4⟩,h3⟩
 |u::us,xs,h=>by
  simp only[List.cons_append,RelL] at h ⊢;obtain⟨y,ys,rfl,h2,h3⟩:=h;rcases RelL.split h3 with h4|h4
  ·exact .inl ⟨y,ys,rfl,h2,h4⟩
  ·exact .inr ⟨y,ys,rfl,h2,h4⟩
theorem se {c:Code}{a:List Val}{h:Heap}{N:Nat}{Q:Post}(id:Nat){us vs:List Val}{ty:TypeId}{o:Bool}(hg:get h id=some (.cells (us ++ .sl [] 0 none::vs) ty o))(h1:W P Γ c a (put h id (.cells (us ++ .nils::vs) ty o)) N Q)(h2:W P Γ c a (put h id (.cells (us ++ .sle::vs) ty o)) N Q):W P Γ c a h N Q:=by
 intro F ρ w0 O w act hG m hf ha hd;obtain⟨L,x,q1,q2,q3,c',rfl,q5,q6,q7,q8⟩:=m.own id _ hg;have hlen:∀v:Val,(us++v::vs).length=(us ++ .sl [] 0 none::vs).length:=fun v=>by simp
 rcases RelL.split q7 with h4|h4
 ·exact h1 F ρ w0 O w act hG (m.reblk hg q1 q3 ⟨c',rfl,q5,q6,by rw[hlen];exact h4,fun ho=>by rw[hlen];exact q8 ho⟩) hf ha hd
 ·exact h2 F ρ w0 O w act hG (m.reblk hg q1 q3 ⟨c',rfl,q5,q6,by rw[hlen];exact h4,fun ho=>by rw[hlen];exact q8 ho⟩) hf ha hd
theorem CallOk.freeze {f:FuncId}{vs us:List Val}{r:Val}{hs:Heap}{n:Nat}(N:Nat)(hk:PureOk P Γ f us r)(hv:vwL P hs n vs=some us):CallOk P Γ f vs hs N true r [] N:=by
 refine⟨Nat.le_refl _,fun F ρ w0 O w xs hG m hf ha=>?_⟩;refine(hk (frz F (cm hs ρ) w) w xs (hG.mono (lj _)) (vO m _) (el m n _ hv ha)).mono ?_;rintro e w' ⟨F',x,rfl,a1,a2,a3,a4,a5⟩;refine⟨F',ρ,x,rfl,⟨(lj _).trans a1,PLe.refl ρ,fun b c hb=>?_,fun _ _=>rfl⟩,Rel.mono (FLe.refl _) (oK ρ) _ _ a4,⟨a3,fun i b hg=>by simp[get] at hg,fun i j Li Lj hi=>by simp[get] at hi,fun i L hi=>by simp[get] at hi,m.fr.trans a5 (fun _ h=>h.elim)⟩⟩;rcases a2 b c hb with h|h
 ·rcases nz h with h|⟨⟨i,L,g1,g2,g3⟩,_⟩
  ·exact .inl h
  ·have:=m.ours i L g1 g2;rw[g3] at this;exact .inr this
 ·exact .inr (.inr (Nat.le_trans m.fr.size h))
end
attribute [simp] setTs Df
end Go.V
end
section
set_option maxHeartbeats 4000000
namespace Go.V
open Go Go.Proofs
attribute [local irreducible] W bM WD aO yl aU bU
section
variable (Γ:Glo Tryz.prog)
attribute [local simp] veq
def lL:Fld:=.mk [] false zeroTy
def nE (r:Ty)(n:Str):Val:=.tp [.ag (ad ((fieldR r n).getD lL)),.bool (fieldR r n).isSome]
theorem sj:Wk (.ag [.str [],.bool false,.int .i64 0,.int .i64 0,.int .i64 0,.nils,.nils,.nils]) (.ag (ad lL)):=Wk.ag ⟨Wk.refl _,Wk.refl _,Wk.refl _,Wk.refl _,Wk.refl _,Wk.nils,Wk.nils,Wk.nils,trivial⟩
@[simp] theorem KY:cU Tryz.prog 112 []=some [.str [],.bool false,.int .i64 0,.int .i64 0,.int .i64 0,.nils,.nils,.nils]:=by kernel_rfl
@[simp] theorem Lh (n:Str)(t:Ty):cU Tryz.prog 112 [(0,.str n),(2,.ag (cTy t))]=some (.str n :: .bool false::cTy t):=by cases t;kernel_rfl
@[simp] theorem Lm (c:List Val)(n:Nat)(k:Option Nat):cU Tryz.prog 26 [(0,.int .i64 1),(4,.sl c n k)]=some [.int .i64 1,.int .i64 0,.int .i64 0,.nils,.sl c n k,.nils]:=by kernel_rfl
@[simp] theorem Ll (i o n:Nat)(k:Option Nat):cU Tryz.prog 26 [(0,.int .i64 1),(4,.so i o n k)]=some [.int .i64 1,.int .i64 0,.int .i64 0,.nils,.so i o n k,.nils]:=by kernel_rfl
@[simp] theorem KZ (v0 v1 v2 v3 v4 v5:Val):cU Tryz.prog 125 [(0,.ag [v0,v1,v2,v3,v4,v5])]=some [v0,v1,v2,v3,v4,v5]:=by kernel_rfl
theorem oz (n:Str):∀(l:List Fld)(j:Nat),(aj n l=none∧bg (fun f=>decide (f.name=n)) l j=-1)∨∃pre f r,l=pre++f::r∧aj n l=some f∧bg (fun f=>decide (f.name=n)) l j=((j+pre.length:Nat):Int)
 |[],j=>.inl ⟨rfl,rfl⟩
 |f::l,j=>by
  rw[aj,bg];by_cases h:f.name=n
  ·right;exact⟨[],f,l,rfl,by simp[h],by simp[h]⟩
  ·simp only[h,if_false,decide_false,Bool.false_eq_true];rcases oz n l (j+1) with ⟨h1,h2⟩|⟨pre,g,r,h1,h2,h3⟩
   ·exact .inl ⟨h1,h2⟩
   ·exact .inr ⟨f::pre,g,r,by rw[h1];rfl,h2,by rw[h3];simp;omega⟩
theorem f127 (r:Ty)(n:Str)(hb:wT r<big):PureOk Tryz.prog Γ 127 [.ag (cTy r),.str n] (nE r n):=by
 have h1:=f189 Γ r n hb;have hbl:r.fields.length<100000000000:=by have:=du r;simp only[big] at hb;omega
 unfold nE fieldR;by_cases hk:r.kind=1
 ·rw[if_pos hk] at h1 ⊢;rcases oz n r.fields 0 with ⟨e1,e2⟩|⟨pre,f,q,e1,e2,e3⟩
  ·rw[e1];rw[e2] at h1;refine PureOk.wk (r:=.tp [.ag [.str [],.bool false,.int .i64 0,.int .i64 0,.int .i64 0,.nils,.nils,.nils],.bool false]) ?_ (Wk.tp ⟨sj,Wk.refl _,trivial⟩);clear e1 e2 hk hbl hb;refine Y2 20 Tryz.func127 rfl rfl fun a hl g0 g1=>?_
   refine GG ?_;all_goals (try (refine aC h1 ?_))
   refine GG ?_;exact⟨by simp,_,20,(by simp[Tryz.f127,V.get,V.put,aY, *];rfl),rfl⟩
  ·rw[e2];rw[e3] at h1;simp only[Nat.zero_add,Option.getD_some,Option.isSome_some] at h1 ⊢;have hlt:(pre.length:Int)<pre.length+(q.length+1):=(by omega);have hnn:¬(pre.length:Int)<0:=(by omega);have hrd:=n9 pre q f;clear e2 e3 hk hb;refine Y2 20 Tryz.func127 rfl rfl fun a hl g0 g1=>?_
   refine GG ?_;all_goals (try (refine aC h1 ?_))
   refine GG ?_;exact⟨by simp,.tp [.ag (ad f),.bool true],1,by simp[Tryz.f127,V.get,V.put,aY, *],aG (by simp[Val.closed,aE])⟩
 ·rw[if_neg hk] at h1 ⊢;refine PureOk.wk (r:=.tp [.ag [.str [],.bool false,.int .i64 0,.int .i64 0,.int .i64 0,.nils,.nils,.nils],.bool false]) ?_ (Wk.tp ⟨sj,Wk.refl _,trivial⟩);clear hk hbl hb;refine Y2 20 Tryz.func127 rfl rfl fun a hl g0 g1=>?_
  refine GG ?_;all_goals (try (refine aC h1 ?_))
  refine GG ?_;exact⟨by simp,_,20,(by simp[Tryz.f127,V.get,V.put,aY, *];rfl),rfl⟩
theorem AD (c:List Val)(n:Nat)(l:List Fld)(h:Wk (.sl c n none) (sls ad l)):Wk (.ag [.int .i64 1,.int .i64 0,.int .i64 0,.nils,.sl c n none,.nils]) (.ag (cTy (d8 l))):=by
 have e:cTy (d8 l)=[.int .i64 1,.int .i64 0,.int .i64 0,sls aZ [],sls ad l,sls cTy []]:=by rw[fC];rfl
 rw[e];exact Wk.ag ⟨Wk.refl _,Wk.refl _,Wk.refl _,Wk.nils,h,Wk.nils,trivial⟩
theorem f260 (r:Ty)(n:Str)(hb:wT r<big):PureOk Tryz.prog Γ 260 [.ag (cTy r),.str n] (.ag (cTy (bE r n))):=by
 have hbl:r.fields.length<big:=by have:=du r;omega
 refine PureOk.wk ?_ (AD (row ad (br n r.fields)) (br n r.fields).length (br n r.fields) (Wk.refl _));cases hf:r.fields with
 |nil=>
  have h1:PureOk Tryz.prog Γ 72 [.sl [] 0 none] (.sl [] 0 none):=f72 Γ [] (by simp[big]);have h2:=f309z Γ n;refine Y2 15 Tryz.func260 rfl rfl fun a hl g0 g1=>?_
  (repeat' refine fM ?_);refine dM ?_;(repeat' first|refine eR ?_|refine gK ?_);refine db ?_;simp only[eH,cX,cV]
  refine jt (h1:=[(1,.cells [.str n] 9 false)]) (h2:=[(0,.cells (cTy r) 125 false),(2,.cells [.int .i64 0,.int .i64 0,.int .i64 0,.nils,.nils,.nils] 125 false)]) 30 [(3,.pp [.str n])] (by (repeat (first|exact aP|refine aK (by simp[V.get, *]) ?_))) (by (repeat (first|exact aP|refine aK (by simp[V.get, *]) ?_))) (by simp) (by simp only[List.mem_cons,List.not_mem_nil,or_false,forall_eq_or_imp,forall_eq];exact⟨.pr 1 0,by simp[*],od rfl (by simp[Val.closed,aE]) (by simp)⟩) ?_;simp only[setTs];refine GG ?_;all_goals (try (refine aC h1 ?_))
  refine GG ?_;all_goals (try (refine aC h2 ?_))
  refine GG ?_;exact⟨by simp,.ag [.int .i64 1,.int .i64 0,.int .i64 0,.nils,.sl [] 0 none,.nils],1,by simp[Tryz.f260,V.get,V.put,aY, *],by simp[br,vw,Val.closed,aE]⟩
 |cons x0 r0=>
  rw[hf] at hbl;have h1:=(f72c Γ x0 r0 (by simpa using hbl)).ren [] 6 rfl (by simp[co]) (by simp) rfl;have h2:=(f309m Γ n (x0::r0) (by simp) hbl).ren [11] 13 rfl (by simp[co,fg,aV,aS]) (by simp) rfl;simp at h1 h2;have hrc:(row ad (br n (x0::r0))).length=(br n (x0::r0)).length*8:=(by simp);have hrd:aE (row ad (br n (x0::r0)))=true:=(by simp);generalize row ad (br n (x0::r0))=cs at *
  generalize (br n (x0::r0)).length=m at *
  refine Y2 15 Tryz.func260 rfl rfl fun a hl g0 g1=>?_
  (repeat' refine fM ?_);refine dM ?_;(repeat' first|refine eR ?_|refine gK ?_);refine db ?_;simp only[eH,cX,cV]
  refine jt (h1:=[(1,.cells [.str n] 9 false)]) (h2:=[(0,.cells (cTy r) 125 false),(2,.cells [.int .i64 0,.int .i64 0,.int .i64 0,.nils,.nils,.nils] 125 false)]) 30 [(3,.pp [.str n])] (by (repeat (first|exact aP|refine aK (by simp[V.get, *]) ?_))) (by (repeat (first|exact aP|refine aK (by simp[V.get, *]) ?_))) (by simp) (by simp only[List.mem_cons,List.not_mem_nil,or_false,forall_eq_or_imp,forall_eq];exact⟨.pr 1 0,by simp[*],od rfl (by simp[Val.closed,aE]) (by simp)⟩) ?_;simp only[setTs];refine GG ?_;refine aw h1 ?_;refine GG ?_;refine aw h2 ?_;refine GG ?_;exact⟨by simp,.ag [.int .i64 1,.int .i64 0,.int .i64 0,.nils,.so 11 0 m none,.nils],cs.length+20,by simp[Tryz.f260,V.get,V.put,aY, *],fL (by simp[aE,Val.closed]) (aI (aG rfl) (aI (aG rfl) (aI (aG rfl) (aI (aG rfl) (aI (dD (t:=112) (cs:=cs) rfl (by simp[hrc]) hrd (by omega)) (aI (aG rfl) bP))))))⟩
end
end Go.V
end
