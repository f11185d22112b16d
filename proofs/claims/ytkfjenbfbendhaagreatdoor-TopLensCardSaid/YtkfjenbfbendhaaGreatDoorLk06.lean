/-
  A part of a proof: V15 V16 V17 V18 V19.
-/
import Derived.Test.YtkfjenbfbendhaaGreatDoorLk05
import Derived.LoopN
set_option linter.unusedSimpArgs false
set_option linter.unusedVariables false
section
namespace Go.V
open Go
section
variable {P:Program} {Γ:Glo P}
structure Inv (P:Program)(ops:Array Oper)(rs:Nat→Rec)(a0:List Val)(h0:Heap)(N N':Nat)(F0:Fro)(ρ0:Pl)(w0:World)(O:Nat→Prop)(S:Nat→Bool)(act:Act)(w:World)
  (F:Fro) (ρ:Pl) (a:List Val) (h:Heap):Prop where
 ext:Ext F0 F ρ0 ρ w0 O N N'
 rel:RelL F ρ a act.tmps.toList
 len:a.length=a0.length
 vals:∀t,a[t]?=ep (wrA ops rs a0.length) (fun t=>a0[t]?) S ops.size t
 mem:Mem P F ρ h w0 O w
 heap:∀id,get h id=ep (wrH rs) (get h0) S ops.size id
 fre:∀i,N≤i→(∀k,k<ops.size→S k=true→¬((rs k).n≤i∧i<(rs k).n'))→ρ i=none
 df:act.defers=[]
structure Plan (P:Program)(Γ:Glo P)(ops:Array Oper)(rs:Nat→Rec)(a0:List Val)(h0:Heap)(N N':Nat):Prop where
 low:∀j o e,ops[j]?=some o→e∈o.after→Region.binds .any e=true→e.on<j
 start:N≤N'
 num:∀k,k<ops.size→N≤(rs k).n∧(rs k).n≤(rs k).n'∧(rs k).n'≤N'∧∀i,i<k→(rs i).n'≤(rs k).n
 does:∀k o,ops[k]?=some o→∃a,(∀t,t∈o.looksAt ops→a[t]?=ep (wrA ops rs a0.length) (fun t=>a0[t]?) (fun _=>true) k t)∧
  ((aO ops o a=true∧jo P Γ o a (rs k)∧∀id b,get (rs k).fp id=some b→ep (wrH rs) (get h0) (fun _=>true) k id=some b)∨(aO ops o a=false∧vb (rs k)))
 free:∀i j oi oj,i<j→ops[i]?=some oi→ops[j]?=some oj→up ops j i=false→Bp ops rs i j oi oj
theorem Ext.widen {F F':Fro}{ρ ρ':Pl}{w0:World}{O:Nat→Prop}{n n' N N':Nat}(h:Ext F F' ρ ρ' w0 O n n')(h1:N≤n)(h2:n'≤N'):Ext F F' ρ ρ' w0 O N N':=
 ⟨h.f,h.p,h.new,fun i hi=>h.out i (by omega)⟩
theorem Ext.comp {F F' F'':Fro}{ρ ρ' ρ'':Pl}{w0:World}{O:Nat→Prop}{N N':Nat}(h:Ext F F' ρ ρ' w0 O N N')(k:Ext F' F'' ρ' ρ'' w0 O N N'):Ext F F'' ρ ρ'' w0 O N N':=
 ⟨h.f.trans k.f,h.p.trans k.p,fun b c hb=>(k.new b c hb).elim (fun h'=>h.new b c h') .inr,fun i hi=>by rw[k.out i hi,h.out i hi]⟩
theorem xM {ops:Array Oper}{o:Oper}{t:Tmp}(h:Operand.tmp t∈o.op.operands):t∈o.looksAt ops:=by
 unfold Oper.looksAt
 refine List.mem_append_left _ (List.mem_filterMap.2 ⟨.tmp t,by simpa using h,rfl⟩)
theorem AT {P:Program}{Γ:Glo P}{a a':List Val}{x:Operand}(h:∀t,x=.tmp t→a'[t]?=a[t]?):ev Γ a' x=ev Γ a x:=by
 cases x with
 |tmp t=>exact h t rfl
 |_=>rfl
theorem ug {ops:Array Oper}{o:Oper}{a a':List Val}(h:∀t,t∈o.looksAt ops→a'[t]?=a[t]?):aO ops o a'=aO ops o a:=by
 unfold aO
 cases hg:o.guard with
 |none=>rfl
 |some g=>
  obtain⟨j,want⟩:=g
  simp only
  have:aS ops a' j=aS ops a j:=by
   unfold aS
   cases ho:ops[j]? with
   |none=>rfl
   |some oj=>
    simp only
    cases hd:oj.dst with
    |none=>rfl
    |some d=>
     simp only
     rw[h d ?_]
     unfold Oper.looksAt
     refine List.mem_append_right _ ?_
     simp[hg,ho,hd]
  rw[this]
theorem zl {ops:Array Oper}{rs:Nat→Rec}{len k t:Nat}(h:wrA ops rs len k t≠none):∃o,ops[k]?=some o∧o.dst=some t:=by
 unfold wrA at h
 cases ho:ops[k]? with
 |none=>simp[ho] at h
 |some o=>
  refine⟨o,rfl,?_⟩
  simp only[ho] at h
  by_cases hd:o.dst=some t
  ·
   exact hd
  ·
   simp[hd] at h
theorem vW {rs:Nat→Rec}{k id:Nat}(h:wrH rs k id≠none):wri (rs k) id:=by
 unfold wrH at h
 split at h
 ·
  assumption
 ·
  exact(h rfl).elim
section
variable {ops:Array Oper} {rs:Nat→Rec} {a0:List Val} {h0:Heap} {N N':Nat} {S:Nat→Bool}
theorem Plan.ahead (p:Plan P Γ ops rs a0 h0 N N')(hd:Down ops S){j:Nat}{oj:Oper}(hj:ops[j]?=some oj)(hS:S j=false)(hr:∀e,e∈oj.after→Region.binds .any e=true→S e.on=true)
  {k:Nat} {ok:Oper} (hk:ops[k]?=some ok) (hb:∀i l oi ol,i<l→((i=j∧oi=oj∧l=k∧ol=ok)∨(i=k∧oi=ok∧l=j∧ol=oj))→Bp ops rs i l oi ol→False):S k=true↔k<j:=by
 constructor
 ·
  intro hs
  rcases Nat.lt_trichotomy k j with h|h|h
  ·
   exact h
  ·
   subst h;rw[hS] at hs;cases hs
  ·
   exfalso
   by_cases hdb:up ops k j=true
   ·
    have:=hd.dep (od hdb) hs;rw[hS] at this;cases this
   ·
    exact hb j k oj ok h (.inl ⟨rfl,rfl,rfl,rfl⟩) (p.free j k oj ok h hj hk (by simpa using hdb))
 ·
  intro h
  by_cases hdb:up ops j k=true
  ·
   exact(od hdb).first hd (fun o e ho he hbd=>by rw[hj] at ho;cases ho;exact hr e he hbd)
  ·
   exact(hb k j ok oj h (.inr ⟨rfl,rfl,rfl,rfl⟩) (p.free k j ok oj h hk hj (by simpa using hdb))).elim
theorem Plan.behind (p:Plan P Γ ops rs a0 h0 N N')(hd:Down ops S){j:Nat}{oj:Oper}(hj:ops[j]?=some oj)(hS:S j=false){k:Nat}{ok:Oper}(hk:ops[k]?=some ok)(hlt:j<k)(hs:S k=true):Bp ops rs j k oj ok:=by
 refine p.free j k oj ok hlt hj hk ?_
 cases hdb:up ops k j with
 |false=>rfl
 |true=>have:=hd.dep (od hdb) hs;rw[hS] at this;cases this
theorem ki {k:Nat}{o:Oper}(h:ops[k]?=some o):k<ops.size:=by
 rcases Nat.lt_or_ge k ops.size with h'|h'
 ·
  exact h'
 ·
  simp[Array.getElem?_eq_none h'] at h
theorem Plan.step (p:Plan P Γ ops rs a0 h0 N N'){F0:Fro}{ρ0:Pl}{w0 w:World}{O:Nat→Prop}{act:Act}{F:Fro}{ρ:Pl}{a:List Val}{h:Heap}(hG:GOk F0 Γ)
  (iv:Inv P ops rs a0 h0 N N' F0 ρ0 w0 O S act w F ρ a h) (hd:Down ops S) {j:Nat} {oj:Oper} (hj:ops[j]?=some oj) (hS:S j=false) (hr:∀e,e∈oj.after→Region.binds .any e=true→S e.on=true)
  {S':Nat→Bool} (hS':∀k,S' k=(S k||k==j)) {K:Act→World→Prop} {Q:Exit→Act→World→Prop}
  (hK:∀act' w' F' ρ' a' h',Inv P ops rs a0 h0 N N' F0 ρ0 w0 O S' act' w' F' ρ' a' h'→K act' w'):wpOp P ops Q j K act w:=by
 have hjn:=ki hj
 obtain⟨al,hal,hdo⟩:=p.does j oj hj
 obtain⟨nu1,nu2,nu3,nu4⟩:=p.num j hjn
 have look:∀t,t∈oj.looksAt ops→a[t]?=al[t]?:=by
  intro t ht
  rw[iv.vals t,hal t ht]
  refine qq (Nat.le_of_lt hjn) (fun k hk hw=>?_)
  obtain⟨ok,hok,hdst⟩:=zl hw
  refine p.ahead hd hj hS hr hok ?_
  rintro i l oi ol hlt (⟨rfl,rfl,rfl,rfl⟩|⟨rfl,rfl,rfl,rfl⟩) hf
  ·
   exact(Oper.apart_spec hf.1).2.2 t hdst ht
  ·
   exact(Oper.apart_spec hf.1).1 t hdst ht
 have hwant:aO ops oj a=aO ops oj al:=ug look
 have vals':∀v:Val,v=(rs j).v→∀t,(dJ a oj.dst v)[t]?=ep (wrA ops rs a0.length) (fun t=>a0[t]?) S' ops.size t:=by
  intro v hv t
  rw[ox hS' hS hjn (fun hw k h1 h2 h3=>?_),←iv.vals t]
  ·
   unfold wrA
   simp only[hj]
   cases hdst:oj.dst with
   |none=>simp[dJ]
   |some d=>
    simp only[dJ,Option.some.injEq,List.getElem?_set,iv.len]
    by_cases e:d=t
    ·
     subst e
     simp only[if_true]
     split<;>simp[hv]
    ·
     simp[e]
  ·
   obtain⟨o',ho',hdst⟩:=zl hw
   rw[hj] at ho';cases ho'
   have hk:ops[k]?=some ops[k]:=Array.getElem?_eq_getElem h2
   have hf:=p.behind hd hj hS hk h1 h3
   unfold wrA
   rw[hk]
   have:=(Oper.apart_spec hf.1).2.1 t hdst
   simp[this]
 have len':∀v:Val,(dJ a oj.dst v).length=a0.length:=by
  intro v
  cases oj.dst with
  |none=>exact iv.len
  |some d=>simp[dJ,iv.len]
 unfold wpOp
 simp only[hj]
 rw[r7 iv.rel,hwant]
 rcases hdo with ⟨hw,⟨hs1,hs2,hs3,hs4⟩,hfp⟩|⟨hw,hsk⟩
 ·
  rw[if_pos hw]
  left
  have sub:∀id b,get (rs j).fp id=some b→get h id=some b:=by
   intro id b hb
   rw[iv.heap id,←hfp id b hb]
   refine qq (Nat.le_of_lt hjn) (fun k hk hw=>?_)
   have wk:=vW hw
   have hok:ops[k]?=some ops[k]:=Array.getElem?_eq_getElem hk
   refine p.ahead hd hj hS hr hok ?_
   have tj:tou (rs j) id:=.inl (by simp[hb])
   rintro i l oi ol hlt (⟨rfl,rfl,rfl,rfl⟩|⟨rfl,rfl,rfl,rfl⟩) hf
   ·
    exact hf.2.1.2 id wk tj
   ·
    exact hf.2.1.1 id wk tj
  have fresh:Fresh' ρ (rs j).n (rs j).n' (rs j).all:=by
   intro i hi hor
   refine iv.fre i (by omega) (fun k hk hsk=>?_)
   have hok:ops[k]?=some ops[k]:=Array.getElem?_eq_getElem hk
   rcases Nat.lt_trichotomy k j with h1|h1|h1
   ·
    have:=nu4 k h1;omega
   ·
    subst h1;rw[hS] at hsk;cases hsk
   ·
    have hkj:=(p.num k hk).2.2.2 j h1
    rcases hor with ha|hlt
    ·
     have:=(p.behind hd hj hS hok h1 hsk).2.2.1 ha;omega
    ·
     omega
  refine hs4 a (fun x hx=>AT fun t ht=>by subst ht;exact look t (xM hx)) F ρ w (cL (rs j).fp ρ) w act K Q (hG.mono iv.ext.f) (iv.mem.rebase sub) fresh iv.rel ?_
  intro F' ρ' x w' hx hrx hm
  obtain⟨hm2,hx2⟩:=iv.mem.carry (hm:=dw h (rs j)) sub hm hx (by
   intro i b hb
   by_cases hro:(rs j).ro=true
   ·
    unfold dw at hb
    rw[if_pos hro] at hb
    obtain⟨r1,r2⟩:=hs2 hro
    by_cases ht:(get (rs j).fp i).isSome=true
    ·
     left
     rw[r1]
     cases hg:get (rs j).fp i with
     |none=>simp[hg] at ht
     |some c=>have:=sub i c hg;rw[this] at hb;cases hb;exact⟨rfl,.inl rfl⟩
    ·
     exact .inr ⟨hb,ht,by omega⟩
   ·
    haveI:Decidable (tou (rs j) i):=Classical.propDecidable _
    rw[pA hs3 (by simpa using hro)] at hb
    split at hb
    ·
     rename_i ht;exact .inl ⟨hb,ht⟩
    ·
     rename_i ht;unfold tou at ht;rw[not_or] at ht;exact .inr ⟨hb,ht.1,ht.2⟩)
  refine hK _ _ F' ρ' (dJ a oj.dst (rs j).v) (dw h (rs j)) ⟨iv.ext.comp (hx2.widen nu1 nu3),dq (RelL.mono hx2.f hx2.p _ _ iv.rel) hrx _,len' _,vals' _ rfl,hm2,fun id=>?_,fun i hi hn=>?_,by rw[cP];exact iv.df⟩
  ·
   rw[ox hS' hS hjn (fun hw k h1 h2 h3=>?_),←iv.heap id]
   ·
    unfold wrH
    haveI:Decidable (wri (rs j) id):=Classical.propDecidable _
    rw[qv hs3 sub]
    by_cases hwj:wri (rs j) id
    ·
     rw[if_pos hwj,if_pos hwj]
    ·
     rw[if_neg hwj,if_neg hwj]
   ·
    have wj:=vW hw
    have hok:ops[k]?=some ops[k]:=Array.getElem?_eq_getElem h2
    have hf:=p.behind hd hj hS hok h1 h3
    unfold wrH
    rw[if_neg (fun hk=>hf.2.1.1 id wj hk.2.1)]
  ·
   have hj':=hn j hjn (by rw[hS'];simp)
   rw[hx2.out i hj']
   exact iv.fre i hi (fun k hk hs=>hn k hk (by rw[hS',hs];rfl))
 ·
  rw[if_neg (by rw[hw];simp)]
  obtain⟨k1,k2,k3,k4,k5,k6⟩:=hsk
  refine hK _ _ F ρ (dJ a oj.dst uv) h ⟨iv.ext,dq iv.rel lW _,len' _,vals' _ k1.symm,iv.mem,fun id=>?_,fun i hi hn=>iv.fre i hi (fun k hk hs=>hn k hk (by rw[hS',hs];rfl)),by rw[cP];exact iv.df⟩
  rw[ox hS' hS hjn (fun hw2=>?_),←iv.heap id]
  ·
   unfold wrH
   rw[if_neg (fun hw=>by rw[hw.1] at k4;cases k4)]
  ·
   have:=(vW hw2).1;rw[k4] at this;cases this
end
end
end Go.V
end
section
namespace Go.V
open Go
section
variable {P:Program} {Γ:Glo P}
theorem Plan.any {ops:Array Oper}{rs:Nat→Rec}{a0:List Val}{h0:Heap}{N N':Nat}(p:Plan P Γ ops rs a0 h0 N N'){F0:Fro}{ρ0:Pl}{w0:World}{O:Nat→Prop}(hG:GOk F0 Γ){Q:Exit→Act→World→Prop}
  (hQ:∀act w F ρ a h,Inv P ops rs a0 h0 N N' F0 ρ0 w0 O (fun _=>true) act w F ρ a h→Q .normal act w) :
  ∀(fuel:Nat) (listed:Array Bool) (act:Act) (w:World) (F:Fro) (ρ:Pl) (a:List Val) (h:Heap),listed.size=ops.size→cnt (fun k=>listed.getD k false) ops.size=fuel→Down ops (fun k=>listed.getD k false)→
   Inv P ops rs a0 h0 N N' F0 ρ0 w0 O (fun k=>listed.getD k false) act w F ρ a h→wpAny P .any ops Q fuel listed act w:=by
 have done:∀(listed:Array Bool) act w F ρ a h,cnt (fun k=>listed.getD k false) ops.size=0→Inv P ops rs a0 h0 N N' F0 ρ0 w0 O (fun k=>listed.getD k false) act w F ρ a h→Q .normal act w:=by
  intro listed act w F ρ a h hc iv
  have hall:=lm hc
  exact hQ act w F ρ a h ⟨iv.ext,iv.rel,iv.len,fun t=>by rw[iv.vals t,tZ hall],iv.mem,fun id=>by rw[iv.heap id,tZ hall],fun i hi hn=>iv.fre i hi (fun k hk _=>hn k hk rfl),iv.df⟩
 have getD_true:∀(listed:Array Bool) k,k<listed.size→listed.getD k true=listed.getD k false:=by
  intro listed k hk
  simp[Array.getD_eq_getD_getElem?,hk]
 intro fuel
 induction fuel with
 |zero=>
  intro listed act w F ρ a h hs hc hd iv
  refine⟨?_,done listed act w F ρ a h hc iv⟩
  unfold Region.ready
  rw[List.filter_eq_nil_iff]
  intro i hi
  have hi':i<ops.size:=by simpa using hi
  have:=lm hc i hi'
  rw[getD_true listed i (by omega),this]
  simp
 |succ fuel ih=>
  intro listed act w F ρ a h hs hc hd iv
  refine⟨fun hnil=>?_,fun j hj=>?_⟩
  ·
   exfalso
   obtain⟨k,h1,h2,h3⟩:=vu (S:=fun k=>listed.getD k false) (n:=ops.size) (by omega)
   have:k∈Region.ready .any ops listed:=by
    unfold Region.ready
    rw[List.mem_filter]
    refine⟨by simpa using h1,?_⟩
    have hk:ops[k]?=some ops[k]:=Array.getElem?_eq_getElem h1
    simp only[hk,Option.map_some,Option.getD_some,Bool.and_eq_true,Bool.not_eq_true']
    refine⟨by rw[getD_true listed k (by omega)];exact h2,?_⟩
    rw[Array.all_eq_true]
    intro e he
    by_cases hb:Region.binds .any ops[k].after[e]=true
    ·
     have:=h3 _ (p.low k ops[k] _ hk (Array.getElem_mem _) hb)
     rw[this];simp
    ·
     simp[hb]
   rw[hnil] at this
   cases this
  ·
   unfold Region.ready at hj
   rw[List.mem_filter] at hj
   obtain⟨j1,j2⟩:=hj
   have hjn:j<ops.size:=by simpa using j1
   have hjo:ops[j]?=some ops[j]:=Array.getElem?_eq_getElem hjn
   simp only[hjo,Option.map_some,Option.getD_some,Bool.and_eq_true,Bool.not_eq_true'] at j2
   have hS:listed.getD j false=false:=by rw[←getD_true listed j (by omega)];exact j2.1
   have hr:∀e,e∈ops[j].after→Region.binds .any e=true→listed.getD e.on false=true:=by
    intro e he hb
    have:=Array.all_eq_true'.1 j2.2 e he
    simpa[hb] using this
   have hS':∀k,(listed.setIfInBounds j true).getD k false=(listed.getD k false||k==j):=by
    intro k
    simp only[Array.getD_eq_getD_getElem?,Array.getElem?_setIfInBounds]
    by_cases e:j=k
    ·
     subst e;simp[hs,hjn]
    ·
     have:(k==j)=false:=by simpa using fun h=>e h.symm
     simp[e,this]
   refine p.step hG iv hd hjo hS hr (S':=fun k=>(listed.setIfInBounds j true).getD k false) hS' (fun act' w' F' ρ' a' h' iv'=>?_)
   refine ih _ act' w' F' ρ' a' h' (by simp[hs]) ?_ ?_ iv'
   ·
    have:=(vt (S:=fun k=>listed.getD k false) (S':=fun k=>(listed.setIfInBounds j true).getD k false) hS' hS (n:=ops.size)).2 hjn
    omega
   ·
    intro k o e hk ho he hb
    simp only[hS'] at hk ⊢
    by_cases ek:k=j
    ·
     subst ek
     rw[hjo] at ho;cases ho
     rw[hr e he hb];rfl
    ·
     have hkk:listed.getD k false=true:=by
      have:(k==j)=false:=by simpa using ek
      rw[this] at hk;simpa using hk
     have:listed.getD e.on false=true:=hd k o e hkk ho he hb
     rw[this];rfl
abbrev Post:=Exit→List Val→Heap→Nat→Prop
def Conc (P:Program)(Q:Post)(F:Fro)(ρ:Pl)(w0:World)(O:Nat→Prop)(N:Nat):Exit→Act→World→Prop:=fun e act w=>
 ∃F' ρ' a h N',N≤N'∧Ext F F' ρ ρ' w0 O N N'∧RelL F' ρ' a act.tmps.toList∧act.defers=[]∧Mem P F' ρ' h w0 O w∧Q e a h N'
def W (P:Program)(Γ:Glo P)(c:Code)(a:List Val)(h:Heap)(N:Nat)(Q:Post):Prop:=
 ∀F ρ w0 O w (act:Act),GOk F Γ→Mem P F ρ h w0 O w→Fresh' ρ N N true→RelL F ρ a act.tmps.toList→act.defers=[]→c.wp P (Conc P Q F ρ w0 O N) act w
theorem Fresh'.later {ρ ρ':Pl}{N N':Nat}{F F':Fro}{w0:World}{O:Nat→Prop}(h:Fresh' ρ N N true)(hx:Ext F F' ρ ρ' w0 O N N')(hle:N≤N'):Fresh' ρ' N' N' true:=by
 intro i hi _
 rw[hx.out i (by omega)]
 exact h i (by omega) (.inl rfl)
theorem Fresh'.range {ρ:Pl}{N N':Nat}{b:Bool}(h:Fresh' ρ N N true):Fresh' ρ N N' b:=fun i hi _=>h i hi (.inl rfl)
theorem Conc.later {Q:Post}{F F':Fro}{ρ ρ':Pl}{w0:World}{O:Nat→Prop}{N N':Nat}(hx:Ext F F' ρ ρ' w0 O N N')(hle:N≤N'){e:Exit}{act:Act}{w:World}(h:Conc P Q F' ρ' w0 O N' e act w):Conc P Q F ρ w0 O N e act w:=by
 obtain⟨F'',ρ'',a,h',N'',h1,h2,h3⟩:=h
 exact⟨F'',ρ'',a,h',N'',Nat.le_trans hle h1,hx.trans h2 hle h1,h3⟩
theorem W.mono {c:Code}{a:List Val}{h:Heap}{N:Nat}{Q Q':Post}(hw:W P Γ c a h N Q)(hq:∀e a h N,Q e a h N→Q' e a h N):W P Γ c a h N Q':=by
 intro F ρ w0 O w act hG m hf ha hd
 refine wp_mono (hw F ρ w0 O w act hG m hf ha hd) ?_
 rintro e act' w' ⟨F',ρ',a',h',N',h1,h2,h3,h4,h5,h6⟩
 exact⟨F',ρ',a',h',N',h1,h2,h3,h4,h5,hq _ _ _ _ h6⟩
theorem Conc.here {Q:Post}{F:Fro}{ρ:Pl}{w0:World}{O:Nat→Prop}{N:Nat}{e:Exit}{act:Act}{w:World}{a:List Val}{h:Heap}(m:Mem P F ρ h w0 O w)(ha:RelL F ρ a act.tmps.toList)(hd:act.defers=[])(hq:Q e a h N):Conc P Q F ρ w0 O N e act w:=
 ⟨F,ρ,a,h,N,Nat.le_refl _,Ext.refl F ρ w0 O N N,ha,hd,m,hq⟩
theorem jp {a:List Val}{h:Heap}{N:Nat}{Q:Post}(hq:Q .normal a h N):W P Γ .skip a h N Q:=
 fun _ _ _ _ _ _ _ m _ ha hd=>wp_skip (Conc.here m ha hd hq)
theorem re {id:Nat}{a:List Val}{h:Heap}{N:Nat}{Q:Post}(hq:Q (.exit id) a h N):W P Γ (.exit id) a h N Q:=
 fun _ _ _ _ _ _ _ m _ ha hd=>wp_exit (Conc.here m ha hd hq)
theorem vf {a:List Val}{h:Heap}{N:Nat}{Q:Post}(hq:Q .ret a h N):W P Γ .ret a h N Q:=
 fun _ _ _ _ _ _ _ m _ ha hd=>wp_ret (Conc.here m ha hd hq)
def eD (next:List Val→Heap→Nat→Prop)(Q:Post):Post
 |.normal,a,h,N=>next a h N
 |e,a,h,N=>Q e a h N
theorem jq {c:Code}{a:List Val}{h:Heap}{N:Nat}{Q:Post}{K:List Val→Heap→Nat→Prop}(h1:W P Γ c a h N (eD K Q)){F:Fro}{ρ:Pl}{w0:World}{O:Nat→Prop}{w:World}{act:Act}(hG:GOk F Γ)(m:Mem P F ρ h w0 O w)(hf:Fresh' ρ N N true)
  (ha:RelL F ρ a act.tmps.toList) (hd:act.defers=[]) {next:Act→World→Prop}
  (hn:∀F' ρ' a' h' N' act' w',N≤N'→Ext F F' ρ ρ' w0 O N N'→RelL F' ρ' a' act'.tmps.toList→act'.defers=[]→Mem P F' ρ' h' w0 O w'→K a' h' N'→next act' w'):c.wp P (Exit.then next (Conc P Q F ρ w0 O N)) act w:=by
 refine wp_mono (h1 F ρ w0 O w act hG m hf ha hd) ?_
 rintro e act' w' ⟨F',ρ',a',h',N',g1,g2,g3,g4,g5,g6⟩
 cases e with
 |normal=>exact hn F' ρ' a' h' N' act' w' g1 g2 g3 g4 g5 g6
 |exit id=>exact⟨F',ρ',a',h',N',g1,g2,g3,g4,g5,g6⟩
 |goto l=>exact⟨F',ρ',a',h',N',g1,g2,g3,g4,g5,g6⟩
 |ret=>exact⟨F',ρ',a',h',N',g1,g2,g3,g4,g5,g6⟩
 |panic ch=>exact⟨F',ρ',a',h',N',g1,g2,g3,g4,g5,g6⟩
 |outgrown=>exact⟨F',ρ',a',h',N',g1,g2,g3,g4,g5,g6⟩
theorem ey {x y:Code}{a:List Val}{h:Heap}{N:Nat}{Q:Post}(hx:W P Γ x a h N (eD (fun a h N=>W P Γ y a h N Q) Q)):W P Γ (.seq x y) a h N Q:=by
 intro F ρ w0 O w act hG m hf ha hd
 refine wp_seq (jq hx hG m hf ha hd ?_)
 intro F' ρ' a' h' N' act' w' g1 g2 g3 g4 g5 g6
 exact wp_mono (g6 F' ρ' w0 O w' act' (hG.mono g2.f) g5 (hf.later g2 g1) g3 g4) fun _ _ _ hc=>hc.later g2 g1
theorem oW {c:Operand}{x y:Code}{b:Bool}{a:List Val}{h:Heap}{N:Nat}{Q:Post}(hc:ev Γ a c=some (.bool b))(hw:W P Γ (if b then x else y) a h N Q):W P Γ (.cond c x y) a h N Q:=by
 intro F ρ w0 O w act hG m hf ha hd
 have:=aT hG ha hc
 simp only[Rel] at this
 exact wp_cond this (hw F ρ w0 O w act hG m hf ha hd)
def cN (id:Nat)(Q:Post):Post
 |.exit id',a,h,N=>if id'=id then Q .normal a h N else Q (.exit id') a h N
 |e,a,h,N=>Q e a h N
theorem fb {id:Nat}{c:Code}{a:List Val}{h:Heap}{N:Nat}{Q:Post}(hw:W P Γ c a h N (cN id Q)):W P Γ (.block id c) a h N Q:=by
 intro F ρ w0 O w act hG m hf ha hd
 refine wp_block (wp_mono (hw F ρ w0 O w act hG m hf ha hd) ?_)
 rintro e act' w' ⟨F',ρ',a',h',N',g1,g2,g3,g4,g5,g6⟩
 cases e with
 |exit id'=>
  simp only[cN] at g6
  simp only[Exit.inBlock]
  split
  ·
   rename_i hi;rw[if_pos hi] at g6;exact⟨F',ρ',a',h',N',g1,g2,g3,g4,g5,g6⟩
  ·
   rename_i hi;rw[if_neg hi] at g6;exact⟨F',ρ',a',h',N',g1,g2,g3,g4,g5,g6⟩
 |normal=>exact⟨F',ρ',a',h',N',g1,g2,g3,g4,g5,g6⟩
 |goto l=>exact⟨F',ρ',a',h',N',g1,g2,g3,g4,g5,g6⟩
 |ret=>exact⟨F',ρ',a',h',N',g1,g2,g3,g4,g5,g6⟩
 |panic ch=>exact⟨F',ρ',a',h',N',g1,g2,g3,g4,g5,g6⟩
 |outgrown=>exact⟨F',ρ',a',h',N',g1,g2,g3,g4,g5,g6⟩
def WR (P:Program)(Γ:Glo P)(c:Code)(Q:Post):Nat→List Val→Heap→Nat→Prop
 |0,_,_,_=>False
 |n+1,a,h,N=>W P Γ c a h N (eD (WR P Γ c Q n) Q)
theorem x9 {c:Code}{a:List Val}{h:Heap}{N:Nat}{Q:Post}(n:Nat)(hw:WR P Γ c Q n a h N):W P Γ (.loop c) a h N Q:=by
 intro F ρ w0 O w act hG m hf ha hd
 refine wp_loop_rounds n ?_
 have key:∀n a h N F ρ w act,WR P Γ c Q n a h N→GOk F Γ→Mem P F ρ h w0 O w→Fresh' ρ N N true→RelL F ρ a act.tmps.toList→act.defers=[]→Code.rounds P c (Conc P Q F ρ w0 O N) n act w:=by
  intro n
  induction n with
  |zero=>intro a h N F ρ w act hw;exact hw.elim
  |succ n ih=>
   intro a h N F ρ w act hw hG m hf ha hd
   rw[rounds_succ]
   refine jq hw hG m hf ha hd ?_
   intro F' ρ' a' h' N' act' w' g1 g2 g3 g4 g5 g6
   have:=ih a' h' N' F' ρ' w' act' g6 (hG.mono g2.f) g5 (hf.later g2 g1) g3 g4
   have mono:∀n Q1 Q2 act w,(∀e a w,Q1 e a w→Q2 e a w)→Code.rounds P c Q1 n act w→Code.rounds P c Q2 n act w:=by
    intro n
    induction n with
    |zero=>intro _ _ _ _ _ h;exact h.elim
    |succ n ihn=>
     intro Q1 Q2 act w hq hr
     rw[rounds_succ] at hr ⊢
     refine wp_mono hr ?_
     intro e a w he
     cases e with
     |normal=>exact ihn Q1 Q2 a w hq he
     |exit id=>exact hq _ _ _ he
     |goto l=>exact hq _ _ _ he
     |ret=>exact hq _ _ _ he
     |panic ch=>exact hq _ _ _ he
     |outgrown=>exact hq _ _ _ he
   exact mono n _ _ act' w' (fun _ _ _ hc=>hc.later g2 g1) this
 exact key n a h N F ρ w act hw hG m hf ha hd
theorem x8 {id:Nat}{ops:Array Oper}{rs:Nat→Rec}{a:List Val}{h:Heap}{N N':Nat}{Q:Post}(hm:P.follows .mixedOrders=true)(p:Plan P Γ ops rs a h N N')
  {an:List Val} {hn:Heap} (hl:an.length=a.length) (hv:∀t,an[t]?=ep (wrA ops rs a.length) (fun t=>a[t]?) (fun _=>true) ops.size t) (hh:∀i,get hn i=ep (wrH rs) (get h) (fun _=>true) ops.size i) (hq:Q .normal an hn N'):W P Γ (.region id ops true) a h N Q:=by
 intro F ρ w0 O w act hG m hf ha hd
 refine wp_region_any hm ?_
 have e0:∀k,(Array.replicate ops.size false).getD k false=false:=by
  intro k
  rw[Array.getD_eq_getD_getElem?,Array.getElem?_replicate]
  split<;>rfl
 have hz:(fun k=>(Array.replicate ops.size false).getD k false)=fun _=>false:=funext e0
 have f0:∀{X Y:Type} (wr:Nat→X→Option Y) (s0:X→Y) (n:Nat) (x:X),ep wr s0 (fun _=>false) n x=s0 x:=by
  intro X Y wr s0 n x
  induction n with
  |zero=>rfl
  |succ n ih=>simp[ep,ih]
 refine p.any hG (Q:=Conc P Q F ρ w0 O N) ?_ ops.size _ act _ F ρ a h (by simp) ?_ ?_ ⟨Ext.refl F ρ w0 O N N',ha,rfl,fun t=>by rw[hz,f0],m.same rfl rfl rfl rfl,fun i=>by rw[hz,f0],fun i hi _=>hf i hi (.inl rfl),hd⟩
 ·
  intro act' w' F' ρ' a' h' iv
  have e:a'=an:=List.ext_getElem? fun t=>by rw[iv.vals t,hv t]
  subst e
  exact⟨F',ρ',a',hn,N',p.start,iv.ext,iv.rel,iv.df,iv.mem.sub (fun i b hb=>by rw[iv.heap i,←hh i];exact hb),hq⟩
 ·
  have:∀n,cnt (fun _=>false) n=n:=by
   intro n
   induction n with
   |zero=>rfl
   |succ n ih=>simp[cnt,ih]
  rw[hz]
  exact this _
 ·
  intro k o e hk
  cases hk.symm.trans (e0 k)
end
end Go.V
end
section
namespace Go.V
open Go
section
variable {P:Program} {Γ:Glo P}
inductive StepV (P:Program)(Γ:Glo P)(o:Oper)(a:List Val)(h:Heap)(N:Nat)(K:List Val→Heap→Nat→Prop):Prop where
 |op {v:Val} {h':Heap} (he:bW P Γ o a h N=some (v,h')) (hk:K (dJ a o.dst v) h' (N+1))
 |pure {f:FuncId} {vs:List Val} {r:Val} (hc:callee Γ a o=some (f,vs)) (hp:bL P f=true) (hcl:aE vs=true) (hr:PureOk P Γ f vs r) (hk:K (dJ a o.dst r) h N)
 |borrow {f:FuncId} {vs us:List Val} {r:Val} {n:Nat} (hc:callee Γ a o=some (f,vs)) (hp:bL P f=true) (hv:vwL P h n vs=some us) (hr:PureOk P Γ f us r) (hf:r.flat=true) (hk:K (dJ a o.dst r) h N)
 |call {f:FuncId} {vs:List Val} {r:Val} {h':Heap} {N':Nat} {all:Bool} (hc:callee Γ a o=some (f,vs)) (hp:bL P f=true) (hr:CallOk P Γ f vs h N all r h' N') (hk:K (dJ a o.dst r) h' N')
def bO (P:Program)(Γ:Glo P)(ops:Array Oper)(K:List Val→Heap→Nat→Prop):List Oper→List Val→Heap→Nat→Prop
 |[],a,h,N=>K a h N
 |o::os,a,h,N=>if aO ops o a=true then StepV P Γ o a h N (bO P Γ ops K os) else bO P Γ ops K os (dJ a o.dst uv) h N
theorem gX {ops:Array Oper}{K:List Val→Heap→Nat→Prop}{Q:Post}(hK:∀a h N,K a h N→Q .normal a h N):∀(l done:List Oper),ops.toList=done++l→∀{a:List Val}{h:Heap}{N:Nat}{F:Fro}{ρ:Pl}{w0:World}{O:Nat→Prop}{w:World}{act:Act},
  bO P Γ ops K l a h N→GOk F Γ→Mem P F ρ h w0 O w→Fresh' ρ N N true→RelL F ρ a act.tmps.toList→act.defers=[]→
  wpOps P ops (Conc P Q F ρ w0 O N) ((List.range l.length).map (· + done.length)) act w
 |[],done,_,a,h,N,F,ρ,w0,O,w,act,hw,hG,m,hf,ha,hd=>Conc.here m ha hd (hK _ _ _ hw)
 |o::l,done,hl,a,h,N,F,ρ,w0,O,w,act,hw,hG,m,hf,ha,hd=>by
  have e1:(List.range (o::l).length).map (· + done.length)=done.length::(List.range l.length).map (· + (done++[o]).length):=by
   rw[List.length_cons,List.range_succ_eq_map]
   simp only[List.map_cons,Nat.zero_add,List.map_map,List.length_append,List.length_cons,List.length_nil]
   congr 1
   apply List.map_congr_left
   intro x _
   simp only[Function.comp]
   omega
  have ho:ops[done.length]?=some o:=by rw[←Array.getElem?_toList,hl];simp
  have hl':ops.toList=(done++[o])++l:=by simp[hl]
  have weak:∀{F':Fro} {ρ':Pl} {N':Nat} {act':Act} {w':World},Ext F F' ρ ρ' w0 O N N'→N≤N'→wpOps P ops (Conc P Q F' ρ' w0 O N') ((List.range l.length).map (· + (done++[o]).length)) act' w'→wpOps P ops (Conc P Q F ρ w0 O N) ((List.range l.length).map (· + (done++[o]).length)) act' w':=by
   intro F' ρ' N' act' w' hx hle
   generalize (List.range l.length).map (· + (done++[o]).length)=is
   have key:∀(is:List Nat) act' w' (Q1 Q2:Exit→Act→World→Prop),(∀e a w,Q1 e a w→Q2 e a w)→wpOps P ops Q1 is act' w'→wpOps P ops Q2 is act' w':=by
    intro is
    induction is with
    |nil=>intro act' w' Q1 Q2 hq hh;exact hq _ _ _ hh
    |cons i is ih=>
     intro act' w' Q1 Q2 hq hh
     simp only[wpOps] at hh ⊢
     split
     ·
      rename_i hi;rw[hi] at hh;exact ih _ _ _ _ hq hh
     ·
      rename_i o' hi
      rw[hi] at hh
      simp only at hh
      split
      ·
       rename_i hwt
       rw[if_pos hwt] at hh
       rcases hh with hh|⟨h1,a',w'',h2⟩
       ·
        left
        unfold Oper.wp at *
        generalize (execOp act'.eval o').run P w'=r at *
        cases r with
        |ok n w1=>
         cases n<;>simp only[Oper.upon] at hh ⊢ <;>
          first
           |exact ih _ _ _ _ hq hh
           |exact Calls.mono hh (fun e w'' he=>by
             cases e with
             |returned v=>exact ih _ _ _ _ hq he
             |panicked ch=>exact hq _ _ _ he
             |outgrown=>obtain⟨a1,w2,h3⟩:=he;exact⟨a1,w2,hq _ _ _ h3⟩)
           |exact Rows.mono hh (fun _ _ he=>ih _ _ _ _ hq he)
        |halt x w1=>cases x<;>simp only[Oper.upon] at hh ⊢ <;> first|exact hq _ _ _ hh|exact hh
       ·
        right;exact⟨h1,a',w'',hq _ _ _ h2⟩
      ·
       rename_i hwt
       rw[if_neg hwt] at hh
       exact ih _ _ _ _ hq hh
   exact key is act' w' _ _ (fun _ _ _ hc=>hc.later hx hle)
  rw[e1,wpOps_cons]
  unfold wpOp
  simp only[ho]
  rw[r7 ha]
  simp only[bO] at hw
  split
  ·
   rename_i hwt
   rw[if_pos hwt] at hw
   left
   cases hw with
   |op he hk=>
    obtain⟨ρ',x,w',g1,g2,g3,g4,g5⟩:=oo m hG ha (hf N (Nat.le_refl _) (.inl rfl)) he
    have hx:Ext F F ρ ρ' w0 O N (N+1):=⟨FLe.refl F,g2,fun _ _ h=>.inl h,fun i hi=>g3 i (by omega)⟩
    have next:=weak hx (by omega) (gX hK l (done++[o]) hl' hk hG g5 (hf.later hx (by omega)) (dq (RelL.mono (FLe.refl F) g2 _ _ ha) g4 o.dst) (by rw[cP];exact hd))
    unfold Oper.wp
    rcases g1 with g1|⟨g1,rfl⟩
    ·
     rw[g1];exact next
    ·
     rw[g1];exact next
   |pure hc hp hcl hr hk=>
    refine wU m hG ha hc hp hcl hr ?_
    intro F' x w' f1 f2 f3 f4
    have hx:Ext F F' ρ ρ w0 O N N:=⟨f1,PLe.refl ρ,fun b c hb=>(f2 b c hb).elim .inl (fun h=>.inr (.inr (Nat.le_trans m.fr.size h))),fun _ _=>rfl⟩
    exact weak hx (Nat.le_refl _) (gX hK l (done++[o]) hl' hk (hG.mono f1) f4 (hf.later hx (Nat.le_refl _)) (dq (RelL.mono f1 (PLe.refl ρ) _ _ ha) f3 o.dst) (by rw[cP];exact hd))
   |borrow hc hp hv hr hfl hk=>
    refine qY m hG ha hc hp hv hr hfl ?_
    intro x w' f3 f4
    exact weak (Ext.refl F ρ w0 O N N) (Nat.le_refl _) (gX hK l (done++[o]) hl' hk hG f4 hf (dq ha f3 o.dst) (by rw[cP];exact hd))
   |call hc hp hr hk=>
    refine rp m hG ha hc hp hr hf.range ?_
    intro F' ρ' x w' hx f3 f4
    exact weak hx hr.1 (gX hK l (done++[o]) hl' hk (hG.mono hx.f) f4 (hf.later hx hr.1) (dq (RelL.mono hx.f hx.p _ _ ha) f3 o.dst) (by rw[cP];exact hd))
  ·
   rename_i hwt
   rw[if_neg hwt] at hw
   exact gX hK l (done++[o]) hl' hw hG m hf (dq ha lW o.dst) (by rw[cP];exact hd)
theorem dX {id:Nat}{ops:Array Oper}{a:List Val}{h:Heap}{N:Nat}{Q:Post}(hw:bO P Γ ops (fun a h N=>Q .normal a h N) ops.toList a h N):W P Γ (.region id ops false) a h N Q:=by
 intro F ρ w0 O w act hG m hf ha hd
 refine wp_region ?_
 have:=gX (Q:=Q) (K:=fun a h N=>Q .normal a h N) (fun _ _ _ h=>h) ops.toList [] rfl hw hG m hf ha hd
 simpa using this
end
end Go.V
end
section
namespace Go.V
open Go
def jc:Op→Bool
 |.move _|.assign _|.pick ..|.build ..|.load ..|.nilCheck _|.binOp ..|.unOp ..|.convert ..|.makeInterface ..|.makeFunc ..|.slice ..|.fieldAddr ..|.field ..|.indexAddr ..|.index ..
 |.lookup ..|.extract ..=>true
 |.call ⟨.builtin .len,_,_⟩|.call ⟨.builtin .cap,_,_⟩|.call ⟨.builtin .max,_,_⟩|.call ⟨.builtin .min,_,_⟩=>true
 |_=>false
section
variable {P:Program} {Γ:Glo P} {F:Fro} {ρ:Pl} {h:Heap} {w0 w:World} {O:Nat→Prop} {a:List Val} {act:Act}
theorem AU (m:Mem P F ρ h w0 O w)(hG:GOk F Γ)(ha:RelL F ρ a act.tmps.toList){o:Oper}{i:Nat}{v:Val}{h':Heap}(hro:jc o.op=true)(he:bW P Γ o a h i=some (v,h')) :
  h'=h∧∃x,oV P o act w x w∧Rel F ρ v x:=by
 have val:∀{s:Sem Value} {x:Value} {w':World},execOp act.eval o=(do pure (.value (←s)):Sem Next)→s.run P w=.ok x w'→oV P o act w x w':=by
  intro s x w' h1 h2
  left
  rw[h1]
  simp only[Sem.run_bind,h2,Result.andThen_ok,Sem.run_pure]
 have pureV:∀{s:Sem Value} {u:Val},execOp act.eval o=(do pure (.value (←s)):Sem Next)→(∃z,s.run P w=.ok z w∧Rel F ρ u z)→u=v→h=h'→
   h'=h∧∃x,oV P o act w x w∧Rel F ρ v x:=by
  rintro s u h1 ⟨z,h2,h3⟩ rfl rfl
  exact⟨rfl,z,val h1 h2,h3⟩
 obtain⟨dst,op,type,pos,after,guard⟩:=o
 unfold bW at he
 simp only at he
 split at he
 case h_1|h_2=>
  obtain⟨u,h1,h2⟩:=map_some he
  cases h2
  exact⟨rfl,_,.inl rfl,aT hG ha h1⟩
 case h_3=>
  split at he
  ·
   rename_i b hb
   obtain⟨u,h1,h2⟩:=map_some he
   cases h2
   have:=aT hG ha hb
   simp only[Rel] at this
   refine⟨rfl,_,.inl ?_,aT hG ha h1⟩
   cases b<;>simp[execOp,this,asBool]
  ·
   cases he
 case h_4=>simp[jc] at hro
 case h_5=>simp[jc] at hro
 case h_6=>
  split at he
  ·
   rename_i l hl
   obtain⟨u,h1,h2⟩:=map_some he
   cases h2
   have hp:=ke hG ha hl
   have:=mf (w:=w) h1 hp
   refine pureV (s:=Instr.build _ _) ?_ this rfl rfl
   simp only[execOp]
   congr 2
   apply Array.ext'
   simp
  ·
   cases he
 case h_7=>simp[jc] at hro
 case h_8=>
  split at he
  ·
   rename_i u hu
   obtain⟨r,h1,h2⟩:=map_some he
   cases h2
   exact pureV rfl (kV m h1 (aT hG ha hu)) rfl rfl
  ·
   cases he
 case h_9=>simp[jc] at hro
 case h_10=>
  split at he
  ·
   rename_i u hu
   obtain⟨r,h1,h2⟩:=map_some he
   cases h2
   obtain⟨q1,q2⟩:=nx (P:=P) (w:=w) (act:=act) h1 (aT hG ha hu) ⟨dst,.nilCheck _,type,pos,after,guard⟩ _ rfl rfl
   exact⟨rfl,_,.inl q1,q2⟩
  ·
   cases he
 case h_11=>
  split at he
  ·
   rename_i u v' hu hv
   obtain⟨r,h1,h2⟩:=map_some he
   cases h2
   exact pureV rfl (pi (w:=w) h1 (aT hG ha hu) (aT hG ha hv)) rfl rfl
  ·
   cases he
 case h_12=>
  split at he
  ·
   rename_i u hu
   obtain⟨r,h1,h2⟩:=map_some he
   cases h2
   exact pureV rfl (rV h1 (aT hG ha hu)) rfl rfl
  ·
   cases he
 case h_13=>
  split at he
  ·
   rename_i u hu
   obtain⟨r,h1,h2⟩:=map_some he
   cases h2
   exact pureV rfl (nq h1 (aT hG ha hu)) rfl rfl
  ·
   cases he
 case h_14=>
  rename_i t x
  split at he
  ·
   rename_i u hu hif
   cases he
   have hx:=aT hG ha hu
   refine pureV (s:=Instr.makeInterface t (act.eval x)) (u:=.ifc t u) rfl ⟨.iface t (act.eval x),?_,?_⟩ rfl rfl
   ·
    unfold oL at hif
    split at hif<;>cases hif
    rename_i d h1 hd
    unfold Instr.makeInterface
    simp only[Sem.run_bind,run_underlying hd,Result.andThen_ok]
    rfl
   ·
    simp only[Rel];exact⟨_,rfl,hx⟩
  ·
   cases he
 case h_15=>
  rename_i f first cap
  split at he
  ·
   rename_i us vs h1 h2
   cases he
   refine pureV (s:=Instr.makeFunc _ _ _) (u:=.fn f us vs) rfl ⟨.func (.func f) (first.map act.eval) (cap.map act.eval),rfl,?_⟩ rfl rfl
   simp only[Rel]
   exact⟨_,_,rfl,by simpa using gF hG ha h1,by simpa using gF hG ha h2⟩
  ·
   cases he
 case h_16=>simp[jc] at hro
 case h_17=>simp[jc] at hro
 case h_18=>
  split at he
  ·
   rename_i u l k mm hu hl hk hm
   obtain⟨r,h1,h2⟩:=map_some he
   cases h2
   exact pureV rfl (mo m h1 (aT hG ha hu) (iH hG ha hl) (iH hG ha hk) (iH hG ha hm)) rfl rfl
  ·
   cases he
 case h_19=>
  split at he
  ·
   rename_i u hu
   obtain⟨r,h1,h2⟩:=map_some he
   cases h2
   exact pureV rfl (mg h1 (aT hG ha hu)) rfl rfl
  ·
   cases he
 case h_20=>
  split at he
  ·
   rename_i u hu
   obtain⟨r,h1,h2⟩:=map_some he
   cases h2
   exact pureV rfl (mh h1 (aT hG ha hu)) rfl rfl
  ·
   cases he
 case h_21=>
  split at he
  ·
   rename_i u v' hu hv
   obtain⟨r,h1,h2⟩:=map_some he
   cases h2
   exact pureV rfl (mj h1 (aT hG ha hu) (aT hG ha hv)) rfl rfl
  ·
   cases he
 case h_22=>
  split at he
  ·
   rename_i u v' hu hv
   obtain⟨r,h1,h2⟩:=map_some he
   cases h2
   exact pureV rfl (ml h1 (aT hG ha hu) (aT hG ha hv)) rfl rfl
  ·
   cases he
 case h_23=>
  split at he
  ·
   rename_i u v' hu hv
   obtain⟨r,h1,h2⟩:=map_some he
   cases h2
   exact pureV rfl (nu m h1 (aT hG ha hu) (aT hG ha hv)) rfl rfl
  ·
   cases he
 case h_24=>simp[jc] at hro
 case h_25=>
  split at he
  ·
   rename_i u hu
   obtain⟨r,h1,h2⟩:=map_some he
   cases h2
   exact pureV rfl (kU h1 (aT hG ha hu)) rfl rfl
  ·
   cases he
 case h_26=>simp[jc] at hro
 case h_27=>simp[jc] at hro
 case h_28=>
  rename_i args ts
  split at he
  ·
   rename_i x t hargs hts
   obtain rfl:args=#[x]:=Array.ext' hargs
   obtain rfl:ts=#[t]:=Array.ext' hts
   split at he
   ·
    rename_i u hu
    obtain⟨r,h1,h2⟩:=map_some he
    cases h2
    exact pureV (s:=Builtin.len_ #[t] type #[act.eval x]) (by rw[cX];simp[Go.builtin]) (pw m h1 (aT hG ha hu)) rfl rfl
   ·
    cases he
  ·
   cases he
 case h_29=>
  rename_i args ts
  split at he
  ·
   rename_i x t hargs hts
   obtain rfl:args=#[x]:=Array.ext' hargs
   obtain rfl:ts=#[t]:=Array.ext' hts
   split at he
   ·
    rename_i u hu
    obtain⟨r,h1,h2⟩:=map_some he
    cases h2
    exact pureV (s:=Builtin.cap_ #[t] type #[act.eval x]) (by rw[cX];simp[Go.builtin]) (pj h1 (aT hG ha hu)) rfl rfl
   ·
    cases he
  ·
   cases he
 case h_30=>
  rename_i args ts
  split at he
  ·
   rename_i x y hargs
   obtain rfl:args=#[x,y]:=Array.ext' hargs
   split at he
   ·
    rename_i u v' hu hv
    obtain⟨r,h1,h2⟩:=map_some he
    cases h2
    obtain⟨z,q1,q2⟩:=nv (P:=P) (w:=w) h1 (aT hG ha hu) (aT hG ha hv)
    exact pureV (s:=Builtin.max_ ts type #[act.eval x,act.eval y]) (by rw[cX];simp[Go.builtin]) ⟨z,by simp[Builtin.max_,q1],q2⟩ rfl rfl
   ·
    cases he
  ·
   cases he
 case h_31=>
  rename_i args ts
  split at he
  ·
   rename_i x y hargs
   obtain rfl:args=#[x,y]:=Array.ext' hargs
   split at he
   ·
    rename_i u v' hu hv
    obtain⟨r,h1,h2⟩:=map_some he
    cases h2
    obtain⟨z,q1,q2⟩:=nw (P:=P) (w:=w) h1 (aT hG ha hu) (aT hG ha hv)
    exact pureV (s:=Builtin.min_ ts type #[act.eval x,act.eval y]) (by rw[cX];simp[Go.builtin]) ⟨z,by simp[Builtin.min_,q1],q2⟩ rfl rfl
   ·
    cases he
  ·
   cases he
 case h_32=>simp[jc] at hro
 case h_33=>simp[jc] at hro
 case h_34=>simp[jc] at hro
 case h_35=>cases he
end
end Go.V
end
section
namespace Go.V
open Go
section
variable {P:Program} {Γ:Glo P}
def oB (P:Program)(a:List Val)(h:Heap):List ResultVar→Option (List Val)
 |[]=>some []
 |.tmp t::rs=>match a[t]?,oB P a h rs with
  |some v,some vs=>some (v::vs)
  |_,_=>none
 |.cell t ty::rs=>match a[t]?,oB P a h rs with
  |some p,some vs=>(nt P ty h p).map (· :: vs)
  |_,_=>none
def sQ (tmps:Array Value):ResultVar→Sem Value
 |.tmp t=>pure (tmps.getD t undef)
 |.cell a t=>do loadVar t (←asAddr (tmps.getD a undef))
def uA:List Val→Val
 |[v]=>v
 |vs=>.tp vs
def gr (P:Program)(fn:Func)(a:List Val)(h:Heap):Option Val:=(oB P a h fn.results.toList).map uA
section
variable {F:Fro} {ρ:Pl} {h:Heap} {w0 w:World} {O:Nat→Prop} {a:List Val} {act:Act}
theorem lX (m:Mem P F ρ h w0 O w)(ha:RelL F ρ a act.tmps.toList):∀{rs:List ResultVar}{vs:List Val},oB P a h rs=some vs→
  ∃xs:List Value,(rs.mapM (sQ act.tmps)).run P w=.ok xs w∧RelL F ρ vs xs
 |[],vs,hv=>by simp only[oB] at hv;cases hv;exact⟨[],by simp,.nil⟩
 |.tmp t::rs,vs,hv=>by
  simp only[oB] at hv
  split at hv
  ·
   rename_i v us h1 h2
   cases hv
   obtain⟨xs,h3,h4⟩:=lX m ha h2
   obtain⟨x,h5,h6⟩:=ha.get h1
   rw[Array.getElem?_toList] at h5
   have h7:act.tmps.getD t undef=x:=by rw[Array.getD_eq_getD_getElem?,h5];rfl
   refine⟨x::xs,?_,.cons h6 h4⟩
   simp only[List.mapM_cons,sQ,Sem.run_bind,Sem.run_pure,Result.andThen_ok,h3,h7]
  ·
   cases hv
 |.cell t ty::rs,vs,hv=>by
  simp only[oB] at hv
  split at hv
  ·
   rename_i p us h1 h2
   obtain⟨u,h8,rfl⟩:=map_some hv
   obtain⟨xs,h3,h4⟩:=lX m ha h2
   obtain⟨x,h5,h6⟩:=ha.get h1
   rw[Array.getElem?_toList] at h5
   have h7:act.tmps.getD t undef=x:=by rw[Array.getD_eq_getD_getElem?,h5];rfl
   obtain⟨y,h9,h10⟩:=kV m h8 h6
   have h11:(do loadVar ty (←asAddr x):Sem Value).run P w=.ok y w:=by
    have hp:∃a,x=.pointer (some a):=by
     cases p<;>simp only[Rel] at h6<;>simp[nt,iW] at h8
     case pp cs=>obtain⟨b,o,c,rfl,_⟩:=h6;exact⟨_,rfl⟩
     case pr id off=>obtain⟨L,_,rfl⟩:=h6;exact⟨_,rfl⟩
    obtain⟨a,rfl⟩:=hp
    simpa[Instr.loadAt,Instr.sureAddr,asAddr] using h9
   refine⟨y::xs,?_,.cons h10 h4⟩
   simp only[List.mapM_cons,sQ,h7]
   rw[Sem.run_bind,h11]
   simp only[Result.andThen_ok,Sem.run_bind,h3,Sem.run_pure]
  ·
   cases hv
theorem ja (m:Mem P F ρ h w0 O w)(ha:RelL F ρ a act.tmps.toList){fn:Func}{r:Val}(hv:gr P fn a h=some r):∃x,(results fn act.tmps).run P w=.ok x w∧Rel F ρ r x:=by
 unfold gr at hv
 obtain⟨vs,h1,rfl⟩:=map_some hv
 obtain⟨xs,h2,h3⟩:=lX m ha h1
 have e:results fn act.tmps=(do let vs ←fn.results.mapM (sQ act.tmps);pure (if h:vs.size=1 then vs[0] else .tuple vs)):=rfl
 rw[e,Array.mapM_eq_mapM_toList]
 simp only[map_eq_pure_bind,bind_assoc,pure_bind,Sem.run_bind]
 rw[h2]
 simp only[Result.andThen_ok,Sem.run_pure]
 refine⟨_,rfl,?_⟩
 have hl:=h3.length
 cases vs with
 |nil=>
  have:xs=[]:=List.eq_nil_of_length_eq_zero (by simpa using hl)
  subst this
  simp only[uA,Rel]
  exact⟨#[],by simp,.nil⟩
 |cons v vs=>
  cases vs with
  |nil=>
   simp only[RelL] at h3
   obtain⟨y,ys,rfl,h4,h5⟩:=h3
   subst h5
   simpa[uA] using h4
  |cons v' vs'=>
   have hn:¬(xs.toArray.size=1):=by simp at hl;simp;omega
   rw[dif_neg hn]
   simp only[uA,Rel]
   exact⟨_,rfl,by simpa using h3⟩
end
theorem mW {F:Fro}{ρ:Pl}{vs:List Val}{xs:Array Value}(h:RelL F ρ vs xs.toList)(n:Nat):RelL F ρ (vs++List.replicate (n-vs.length) uv) (xs++Array.replicate (n-xs.size) undef).toList:=by
 have hl:=h.length
 simp only[Array.length_toList] at hl
 simp only[Array.toList_append,Array.toList_replicate,hl]
 exact h.append (RelL.replicate lW _)
theorem sr {f:FuncId}{fn:Func}{c:Code}{vs:List Val}{h h2:Heap}{N N':Nat}{r:Val}(hf:P.funcs[f]?=some fn)(hb:fn.body=some c)(hN:N≤N')
  (hw:W P Γ c (vs++List.replicate (fn.ntmps-vs.length) uv) h N (fun e a h' N''=>(e=.normal∨e=.ret)∧N''≤N'∧gr P fn a h'=some r∧∀i b,get h2 i=some b→get h' i=some b)):CallOk P Γ f vs h N true r h2 N':=by
 refine⟨hN,fun F ρ w0 O w xs hG m hfr ha=>?_⟩
 refine calls_of_wp hf hb ?_
 refine wp_mono (hw F ρ w0 O w _ hG m (fun i hi _=>hfr i hi (.inl rfl)) (mW ha _) rfl) ?_
 rintro e act' w' ⟨F',ρ',a',h',N'',g1,g2,g3,g4,g5,g6,g7,g8,g9⟩
 obtain⟨x,h1,h2'⟩:=ja g5 g3 g8
 have post:bodyPost P fn (fun e w'=>∃F' ρ' x,e=.returned x∧Ext F F' ρ ρ' w0 O N N'∧Rel F' ρ' r x∧Mem P F' ρ' h2 w0 O w') .ret act' w':=
  ⟨g4,x,h1,F',ρ',x,rfl,g2.widen (Nat.le_refl _) g7,h2',g5.sub g9⟩
 rcases g6 with rfl|rfl
 ·
  exact post
 ·
  exact post
theorem ni {f:FuncId}{fn:Func}{c:Code}{vs:List Val}{r:Val}(hf:P.funcs[f]?=some fn)(hb:fn.body=some c)
  (hw:W P Γ c (vs++List.replicate (fn.ntmps-vs.length) uv) [] 0 (fun e a h' _=>(e=.normal∨e=.ret)∧∃r0 n,gr P fn a h'=some r0∧vw P h' n r0=some r)):PureOk P Γ f vs r:=by
 intro F w xs hG hF ha
 refine calls_of_wp hf hb ?_
 have m:Mem P F (fun _=>none) [] w (fun _=>False) w:=⟨hF,fun i b hb=>by simp[get] at hb,fun i j Li Lj hi=>by simp[get] at hi,fun i L hi=>by simp[get] at hi,Fr.refl w _⟩
 refine wp_mono (hw F _ w _ w _ hG m (fun _ _ _=>rfl) (mW ha _) rfl) ?_
 rintro e act' w' ⟨F',ρ',a',h',N'',g1,g2,g3,g4,g5,g6,r0,n,g8,g9⟩
 obtain⟨x,h1,h2'⟩:=ja g5 g3 g8
 have post:bodyPost P fn (fun e w'=>∃F' x,e=.returned x∧FLe F F'∧(∀b c,F' b=some c→F b=some c∨w.heap.size≤b)∧FOk F' w'∧Rel F' (fun _=>none) r x∧Fr w (fun _=>False) w') .ret act' w':=by
  refine⟨g4,x,h1,frz F' (cL h' ρ') w',x,rfl,g2.f.trans (kB _),fun b c hb=>?_,sB g5 _,mq g5 n r0 g9 h2',g5.fr⟩
  rcases mH hb with h3|⟨⟨i,L,h3,h4,rfl⟩,_⟩
  ·
   rcases g2.new b c h3 with h4|h4|h4
   ·
    exact .inl h4
   ·
    exact h4.elim
   ·
    exact .inr h4
  ·
   rcases g5.ours i L h3 h4 with h5|h5
   ·
    exact h5.elim
   ·
    exact .inr h5
 rcases g6 with rfl|rfl
 ·
  exact post
 ·
  exact post
theorem om {a a':List Val}{o:Oper}(h:∀x∈o.op.operands,ev Γ a' x=ev Γ a x)(hp:Heap)(i:Nat):bW P Γ o a' hp i=bW P Γ o a hp i:=by
 have hL:∀xs:List Operand,(∀x∈xs,ev Γ a' x=ev Γ a x)→evL Γ a' xs=evL Γ a xs:=by
  intro xs
  induction xs with
  |nil=>intro _;rfl
  |cons x xs ih=>intro hx;simp only[evL,hx x (by simp),ih (fun y hy=>hx y (by simp[hy]))]
 have hP:∀xs:List (Nat×Operand),(∀x∈xs.map (·.2),ev Γ a' x=ev Γ a x)→evP Γ a' xs=evP Γ a xs:=by
  intro xs
  induction xs with
  |nil=>intro _;rfl
  |cons x xs ih=>intro hx;simp only[evP,hx x.2 (by simp),ih (fun y hy=>hx y (by simp at hy ⊢;exact .inr hy))]
 have hO:∀x:Option Operand,(∀y,x=some y→ev Γ a' y=ev Γ a y)→evO Γ a' x=evO Γ a x:=by
  intro x hx
  cases x with
  |none=>rfl
  |some y=>simp only[evO,hx y rfl]
 obtain⟨dst,op,type,pos,after,guard⟩:=o
 simp only at h
 unfold bW
 simp only
 cases op with
 |pick c x y=>
  have h1:=h c (by simp[Op.operands]);have h2:=h x (by simp[Op.operands]);have h3:=h y (by simp[Op.operands])
  simp only[h1]
  split
  ·
   rename_i b _;cases b<;>simp[h2,h3]
  ·
   rfl
 |build t ps=>simp only[hP ps.toList (fun x hx=>h x (by simpa[Op.operands] using hx))]
 |buildSlice t n ps=>simp only[hP ps.toList (fun x hx=>h x (by simpa[Op.operands] using hx))]
 |makeFunc fn first cap=>
  cases fn<;>simp only
  rw[hL first.toList (fun x hx=>h x (by simp[Op.operands];exact .inl (by simpa using hx))),hL cap.toList (fun x hx=>h x (by simp[Op.operands];exact .inr (by simpa using hx)))]
 |slice t x lo hi mx=>
  simp only[h x (by simp[Op.operands]),hO lo (fun y hy=>h y (by subst hy;simp[Op.operands])),hO hi (fun y hy=>h y (by subst hy;simp[Op.operands])),hO mx (fun y hy=>h y (by subst hy;simp[Op.operands]))]
 |makeMap t r=>cases r<;>rfl
 |call c=>
  obtain⟨cal,args,ts⟩:=c
  have ha:∀x∈args.toList,ev Γ a' x=ev Γ a x:=fun x hx=>h x (by simp[Op.operands,Call.operands];exact .inr (by simpa using hx))
  cases cal with
  |value f=>cases f<;>simp only;rw[hL args.toList ha]
  |builtin b=>
   rcases args with ⟨l⟩
   rcases ts with ⟨lt⟩
   simp only at ha
   cases b<;>simp only<;>(first|rfl|(rcases l with _|⟨x,_|⟨y,_|⟨z,r⟩⟩⟩<;>first|rfl|(rcases lt with _|⟨t,_|⟨tx,_|⟨tz,rt⟩⟩⟩<;>first|rfl|simp[ha])|simp[ha]))
  |_=>rfl
 |_=>first|rfl|(simp only[h _ (by simp[Op.operands])];done)|simp[Op.operands] at h;simp only[h]
theorem hE {a a':List Val}{o:Oper}(h:∀x∈o.op.operands,ev Γ a' x=ev Γ a x):callee Γ a' o=callee Γ a o:=by
 have hL:∀xs:List Operand,(∀x∈xs,ev Γ a' x=ev Γ a x)→evL Γ a' xs=evL Γ a xs:=by
  intro xs
  induction xs with
  |nil=>intro _;rfl
  |cons x xs ih=>intro hx;simp only[evL,hx x (by simp),ih (fun y hy=>hx y (by simp[hy]))]
 obtain⟨dst,op,type,pos,after,guard⟩:=o
 simp only at h
 unfold callee
 simp only
 cases op with
 |call c=>
  obtain⟨cal,args,ts⟩:=c
  cases cal with
  |value f=>
   simp only[h f (by simp[Op.operands,Call.operands]),hL args.toList (fun x hx=>h x (by simp[Op.operands,Call.operands];exact .inr (by simpa using hx)))]
  |_=>rfl
 |_=>rfl
end
end Go.V
end
