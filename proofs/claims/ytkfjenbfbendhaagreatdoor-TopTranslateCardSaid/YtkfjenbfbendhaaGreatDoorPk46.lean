/-
  A part of a proof: H7 H8 M1 M2.
-/
import Derived.Test.YtkfjenbfbendhaaGreatDoorPk10
import Derived.Test.YtkfjenbfbendhaaGreatDoorPk14
import Derived.Test.YtkfjenbfbendhaaGreatDoorPk15
import Derived.Test.YtkfjenbfbendhaaGreatDoorPk45
set_option linter.unusedSimpArgs false
set_option linter.unusedVariables false
section
namespace Go.V
def gQ (k:Int):Nat→List Jn→List Hop
 |_,[]=>[]
 |i,j::l=>if j.src=k∨j.dst=k then ⟨i,decide (j.dst=k)⟩::gQ k (i+1) l else gQ k (i+1) l
def hopsT (r:Reg)(k:Int):List Hop:=gQ k 0 r.joins
theorem uC {k:Int}:∀{l:List Jn}{i:Nat},(∀j∈l,j.src≠j.dst)→gQ k i l=ej k i l
 |[],_,_=>rfl
 |j::l,i,h=>by
  have h1:=h j (by simp);have ih:=uC (k:=k) (l:=l) (i:=i+1) fun x hx=>h x (by simp[hx])
  rw[gQ,ej,ih];by_cases c1:k=j.src
  ·have:¬j.dst=k:=fun e=>h1 (c1.symm.trans e.symm)
   simp[c1.symm,this]
  ·by_cases c2:k=j.dst
   ·rw[if_pos (.inr c2.symm),if_neg c1,if_pos c2];simp[c2.symm]
   ·rw[if_neg (by rintro(e|e);exact c1 e.symm;exact c2 e.symm),if_neg c1,if_neg c2]
theorem RegOk.hopsT {r:Reg}(H:RegOk r)(k:Int):V.hopsT r k=dF r k:=uC fun j hj=>by obtain⟨n,hn⟩:=List.getElem?_of_mem hj;exact H.cut.ne hn
def mM (r:Reg)(fill:Int→Int→St→Option (St×Int))(k:Int)(h:Hop)(s:St):Option (St×Int):=
 match ky r k h s with
 |none=>none
 |some s1=>match ju r k h s1 with
  |none=>none
  |some (s2,e)=>if e≠0 then some (s2,e) else match fill (cJ r h) h.join s2 with
   |none=>none
   |some (s3,e)=>if e≠0 then some (s3,e) else ju r (cJ r h) (li h) s3
def lg (run:Hop→St→Option (St×Int))(come:Int):List Hop→St→Int→Option (St×Int)
 |[],s,e=>some (s,e)
 |h::l,s,e=>if e=0∧h.join≠come then (match run h s with
  |none=>none
  |some (s',e')=>lg run come l s' e') else lg run come l s e
def jG (r:Reg):Nat→Int→Int→St→Option (St×Int)
 |0,_,_,_=>none
 |n+1,k,come,s=>if okS s then match lg (mM r (jG r n) k) come (hopsT r k) s (jg r k s) with
  |none=>none
  |some (s',e)=>if e≠0 then some (bu,e) else some (s',0)
 else none
theorem ox {run:Hop→St→Option (St×Int)}{come e:Int}(he:e≠0):∀{l:List Hop}{s:St},lg run come l s e=some (s,e)
 |[],_=>rfl
 |h::l,s=>by rw[lg,if_neg (fun c=>he c.1)];exact ox he
section
variable {r:Reg} {a:Int} {d:Doc}
def Sub (r:Reg)(a:Int)(w:List Hop)(e:Int):Prop:=∃v k,Edge r a v k∧k.join=e∧w <+: v
def Fct (r:Reg)(a:Int)(d:Doc)(v:List Hop)(k:Hop):Prop:=
 ∃s s',GoodS r a d v (fun _=>True) s∧GoodS r a d (v++[k]) (fun _=>True) s'∧ju r (kG r a v) k s=some (s',0)∧ju r (cJ r k) (li k) s'=some (s,0)∧jg r (cJ r k) s'=0
def Gl (r:Reg)(a:Int)(d:Doc)(D:Int→Prop)(w:List Hop):Prop:=(∀v k,Edge r a v k→D k.join)→∀v k,Edge r a v k→w <+: v→Fct r a d v k
def wA (r:Reg)(a:Int)(d:Doc)(D:Int→Prop):Prop:=∀v k,Edge r a v k→D k.join→VD r a d v
theorem GoodS.all {w:List Hop}{D:Int→Prop}{s:St}(h:GoodS r a d w D s)(hD:∀v k,Edge r a v k→D k.join):GoodS r a d w (fun _=>True) s:=h.iff fun v k hk=>⟨fun _=>trivial,fun _=>hD v k hk⟩
theorem A5 (ha:bF r a=true){x:Int}{w:List Hop}(hx:(x,w)∈bT r a):w.length+1≤r.schemas.length:=by
 obtain⟨s1,_,_⟩:=cg ha;have key:∀(n:Nat) (x:Int) (w:List Hop),w.length=n→(x,w)∈bT r a→∃l:List Int,l.length=n+1∧l.Nodup∧∀y∈l,∃v,(y,v)∈bT r a∧v.length≤n:=by
  intro n;induction n with
  |zero=>intro x w hn hx;exact⟨[x],rfl,by simp,fun y hy=>⟨w,by rw[List.mem_singleton.1 hy];exact hx,by omega⟩⟩
  |succ n ih=>
   intro x w hn hx;rcases s1.lnk x w hx with ⟨h1,_⟩|⟨p,v,h,h1,h2,h3,h4⟩
   ·rw[h1] at hn;simp at hn
   ·obtain⟨l,l1,l2,l3⟩:=ih p v (by rw[h1] at hn;simpa using hn) h2;refine⟨x::l,by simp[l1],List.nodup_cons.2 ⟨fun hm=>?_,l2⟩,fun y hy=>?_⟩
    ·obtain⟨v',h5,h6⟩:=l3 x hm;rw[s1.fun h5 hx,hn] at h6;omega
    ·rcases List.mem_cons.1 hy with rfl|hy
     ·exact⟨w,hx,by omega⟩
     ·obtain⟨v',h5,h6⟩:=l3 y hy;exact⟨v',h5,by omega⟩
 obtain⟨l,l1,l2,l3⟩:=key w.length x w rfl hx;have hr:∀y∈l,bF r y=true:=fun y hy=>by obtain⟨v,hv,_⟩:=l3 y hy;exact s1.rng y v hv
 have:=rC r.schemas.length (l.map Int.toNat) (List.Pairwise.map _ (fun _ _ h=>h) (List.Pairwise.imp_of_mem (fun{x y} hx hy hxy e=>hxy (by have:=ff.1 (hr x hx);have:=ff.1 (hr y hy);omega)) l2)) fun x hx=>by obtain⟨y,hy,rfl⟩:=List.mem_map.1 hx;have:=ff.1 (hr y hy);omega
 simp at this;omega
theorem oy (H:RegOk r)(ha:bF r a=true):∀(n:Nat)(x:Int)(w:List Hop)(come:Int)(D:Int→Prop)(s:St),(x,w)∈bT r a→r.schemas.length≤n+w.length→((w=[]∧come=-1)∨∃v g,w=v++[g]∧come=g.join)→
  GoodS r a d w D s→wD s.doc<400000000→wA r a d D→(∀v,v <+: w→v≠w→VD r a d v)→
  ∃s' e,jG r n x come s=some (s',e)∧(e≠0→s'=bu)∧(e=0→GoodS r a d w (fun e=>D e∨Sub r a w e) s'∧wA r a d (fun e=>D e∨Sub r a w e)∧jg r x s=0∧Gl r a d D w∧∀v k,Edge r a v k→w <+: v→VD r a d v∧VD r a d (v++[k]))
 |0,x,w,come,D,s,hx,hn,_,_,_,_,_=>by have:=A5 ha hx;omega
 |n+1,x,w,come,D,s,hx,hn,hcome,hg,hdoc,hD,hpre=>by
  have hend:=mR H ha hx;rw[jG,H.hopsT,if_pos (mB (hg.small H ha hD) hdoc)];by_cases hf:jg r x s=0;case neg=>rw[ox hf];simp only;rw[if_pos hf];exact⟨_,_,rfl,fun _=>rfl,fun h=>(hf h).elim⟩
  rw[hf];obtain⟨hv0,hr0⟩:=vL hf;have hv:VD r a d w:=(by unfold VD;rw[hend,←hg.doc];exact hv0);have one:∀(h:Hop) (D:Int→Prop) (s:St),h∈dF r x→h.join≠come→GoodS r a d w D s→wA r a d D→bC s.res=true→
    Edge r a w h∧∃s' e,mM r (jG r n) x h s=some (s',e)∧(e=0→GoodS r a d w (fun e=>D e∨e=h.join∨Sub r a (w++[h]) e) s'∧wA r a d (fun e=>D e∨e=h.join∨Sub r a (w++[h]) e)∧bC s'.res=true∧((∀v k,Edge r a v k→D k.join)→Fct r a d w h)∧Gl r a d D (w++[h])∧VD r a d (w++[h])∧∀v k,Edge r a v k→(w++[h]) <+: v→VD r a d v∧VD r a d (v++[k])):=by
   intro h D s hh hne hg hD hr;have he:Edge r a w h:=by
    rcases I0 H ha hx hh with hdn|⟨v,hv1,hv2⟩
    ·exact(Edge.of ha hdn).1
    ·exfalso;rcases hcome with ⟨h1,_⟩|⟨v',g,h1,h2⟩
     ·rw[h1] at hv1;simp at hv1
     ·rw[h1] at hv1;have:=List.append_inj' hv1 rfl;simp only[List.cons.injEq,and_true] at this;apply hne;rw[h2,this.2];rfl
   refine⟨he,?_⟩;have hflat:wA r a d (fun e=>D e∨e=h.join):=fun v k hk hd=>by
    rcases hd with hd|hd
    ·exact hD v k hk hd
    ·obtain⟨rfl,rfl⟩:=hk.inj H ha he hd;exact hv
   unfold mM;obtain⟨s1,k1,k2⟩:=xP H ha he hg hD hv;have hr1:bC s1.res=true∨bC s1.res=false:=(by cases bC s1.res<;>simp);rw[hend] at k1;rw[k1];simp only;have down:∃s2 f,ju r x h s1=some (s2,f)∧(f=0→GoodS r a d (w++[h]) (fun e=>D e∨e=h.join) s2∧VD r a d (w++[h])∧bC s2.res=true):=by
    rcases hr1 with hr1|hr1
    ·rcases k2 with k2|k2
     ·have:=xC H ha he k2 hD hr1 hv;rw[hend] at this;exact this
     ·have:=xC H ha he k2 hflat hr1 hv;rw[hend] at this;obtain⟨s2,f,m1,m2⟩:=this;refine⟨s2,f,m1,fun hf=>?_⟩;obtain⟨m3,m4⟩:=m2 hf;exact⟨m3.iff fun v k _=>by simp[or_assoc],m4⟩
    ·have hz:=(he.thru H ha hv).lz;have hok:okS s1=true:=by
      have hd1:wD s1.doc<400000000:=(by have:=iz (show cD _ (jN r a d w)=true from hv);rcases k2 with k2|k2<;>(rw[k2.doc];omega));rcases k2 with k2|k2
      ·exact mB (k2.small H ha hD) hd1
      ·exact mB (k2.small H ha hflat) hd1
     have:ju r x h s1=some (bu,1):=(by rw[qP hok];unfold goB jx;have ht:=hz.target;rw[hend] at ht;unfold om at ht;rw[ht];simp[hr1]);exact⟨_,_,this,fun h=>by cases h⟩
   obtain⟨s2,f,m1,m2⟩:=down;rw[m1];simp only;by_cases hf2:f=0;case neg=>rw[if_pos hf2];exact⟨_,_,rfl,fun h=>(hf2 h).elim⟩
   rw[if_neg (by simp[hf2])];obtain⟨g2,v2,r2⟩:=m2 hf2;have hx2:(cJ r h,w++[h])∈bT r a:=(by obtain⟨_,_,_,h3⟩:=he;exact h3);obtain⟨s3,e3,n1,n2,n3⟩:=oy H ha n (cJ r h) (w++[h]) h.join (fun e=>D e∨e=h.join) s2 hx2 (by simp;omega) (.inr ⟨w,h,rfl,rfl⟩) g2 (by have:=iz (show cD _ (jN r a d (w++[h]))=true from v2);rw[g2.doc];omega) hflat (fun v hv1 hv2=>by
    rcases rc.1 hv1 with e|hv1
    ·exact(hv2 e).elim
    ·by_cases e:v=w
     ·rw[e];exact hv
     ·exact hpre v hv1 e)
   rw[n1];simp only;by_cases he3:e3=0;case neg=>rw[if_pos he3];exact⟨_,_,rfl,fun h=>(he3 h).elim⟩
   rw[if_neg (by simp[he3])];obtain⟨g3,a3,f3,c3,d3⟩:=n3 he3;have hr3:bC s3.res=true∨bC s3.res=false:=(by cases bC s3.res<;>simp);have up:∃s4 f,ju r (cJ r h) (li h) s3=some (s4,f)∧(f=0→GoodS r a d w (fun e=>(D e∨e=h.join)∨Sub r a (w++[h]) e) s4∧bC s4.res=true):=by
    rcases hr3 with hr3|hr3
    ·exact Fg H ha he g3 (.inl (.inr rfl)) a3 hr3 hv v2
    ·have hz:=(he.thru H ha hv).lz.turn;have hok:okS s3=true:=mB (g3.small H ha a3) (by have:=iz (show cD _ (jN r a d (w++[h]))=true from v2);rw[g3.doc];omega);have:ju r (cJ r h) (li h) s3=some (bu,1):=(by rw[qP hok];unfold goB jx;have ht:=hz.target;unfold om at ht;show Option.map _ (if (bH _ (if (!h.back)=true then ba (mw r h.join).lens else (mw r h.join).lens)).2.2≠0 then _ else _)=_;rw[ht];simp[hr3]);exact⟨_,_,this,fun h=>by cases h⟩
   obtain⟨s4,f4,u1,u2⟩:=up;refine⟨s4,f4,u1,fun hf4=>?_⟩;obtain⟨u3,u4⟩:=u2 hf4;refine⟨u3.iff fun v k _=>or_assoc,fun v k hk hd=>a3 v k hk (or_assoc.2 hd),u4,fun hall=>?_,fun hall=>c3 fun v k hk=>.inl (hall v k hk),v2,d3⟩;have gs1:GoodS r a d w (fun _=>True) s1:=by
    rcases k2 with k2|k2
    ·exact k2.all hall
    ·exact k2.all fun v k hk=>.inl (hall v k hk)
   have gs2:=g2.all fun v k hk=>.inl (hall v k hk)
   have gs3:=g3.all fun v k hk=>.inl (.inl (hall v k hk))
   have gs4:=u3.all fun v k hk=>.inl (.inl (hall v k hk))
   have e23:=gs2.uniq gs3;have e14:=gs1.uniq gs4;subst e23;subst e14;rw[hf2] at m1;rw[hf4] at u1;exact⟨s1,s2,gs1,gs2,by rw[hend];exact m1,u1,f3⟩
  have loop:∀(l:List Hop) (D:Int→Prop) (s:St),(∀h∈l,h∈dF r x)→GoodS r a d w D s→wA r a d D→bC s.res=true→
    ∃s' e,lg (mM r (jG r n) x) come l s 0=some (s',e)∧(e=0→GoodS r a d w (fun e=>D e∨∃h∈l,h.join≠come∧(e=h.join∨Sub r a (w++[h]) e)) s'∧wA r a d (fun e=>D e∨∃h∈l,h.join≠come∧(e=h.join∨Sub r a (w++[h]) e))∧
     ∀h∈l,h.join≠come→Edge r a w h∧((∀v k,Edge r a v k→D k.join)→Fct r a d w h∧∀v k,Edge r a v k→(w++[h]) <+: v→Fct r a d v k)∧VD r a d (w++[h])∧∀v k,Edge r a v k→(w++[h]) <+: v→VD r a d v∧VD r a d (v++[k])):=by
   intro l;induction l with
   |nil=>intro D s _ hg hD _;exact⟨s,0,rfl,fun _=>⟨hg.iff fun v k _=>by simp,fun v k hk hd=>hD v k hk (by simpa using hd),by simp⟩⟩
   |cons h l ih=>
    intro D s hin hg hD hr;rw[lg];by_cases hc:h.join=come
    ·rw[if_neg (fun h=>h.2 hc)];obtain⟨s',e,q1,q2⟩:=ih D s (fun h' hh=>hin h' (by simp[hh])) hg hD hr;refine⟨s',e,q1,fun he=>?_⟩;obtain⟨q3,q4,q5⟩:=q2 he;have hiff:∀e,(D e∨∃h∈l,h.join≠come∧(e=h.join∨Sub r a (w++[h]) e))↔(D e∨∃h'∈h::l,h'.join≠come∧(e=h'.join∨Sub r a (w++[h']) e)):=fun e=>by simp[hc]
     refine⟨q3.iff fun v k _=>hiff _,fun v k hk hd=>q4 v k hk ((hiff _).2 hd),fun h' hh hne=>?_⟩;rcases List.mem_cons.1 hh with rfl|hh
     ·exact(hne hc).elim
     ·exact q5 h' hh hne
    ·rw[if_pos ⟨rfl,hc⟩];obtain⟨he,s1,e1,q1,q2⟩:=one h D s (hin h (by simp)) hc hg hD hr;rw[q1];simp only;by_cases he1:e1=0;case neg=>rw[ox he1];exact⟨_,_,rfl,fun h=>(he1 h).elim⟩
     subst he1;obtain⟨q3,q4,q5,q6,q7,q8,q9⟩:=q2 rfl;obtain⟨s',e,p1,p2⟩:=ih _ s1 (fun h' hh=>hin h' (by simp[hh])) q3 q4 q5;refine⟨s',e,p1,fun he0=>?_⟩;obtain⟨p3,p4,p5⟩:=p2 he0;have hiff:∀e,((D e∨e=h.join∨Sub r a (w++[h]) e)∨∃h∈l,h.join≠come∧(e=h.join∨Sub r a (w++[h]) e))↔(D e∨∃h'∈h::l,h'.join≠come∧(e=h'.join∨Sub r a (w++[h']) e)):=fun e=>by simp[hc,or_assoc]
     refine⟨p3.iff fun v k _=>hiff _,fun v k hk hd=>p4 v k hk ((hiff _).2 hd),fun h' hh hne=>?_⟩;rcases List.mem_cons.1 hh with rfl|hh
     ·exact⟨he,fun hall=>⟨q6 hall,q7 hall⟩,q8,q9⟩
     ·obtain⟨t1,t2,t3⟩:=p5 h' hh hne;exact⟨t1,fun hall=>t2 fun v k hk=>.inl (hall v k hk),t3⟩
  obtain⟨s',e,q1,q2⟩:=loop (dF r x) D s (fun _ h=>h) hg hD hr0;rw[q1];simp only;by_cases he:e=0;case neg=>rw[if_pos he];exact⟨_,_,rfl,fun _=>rfl,fun h=>(he h).elim⟩
  rw[if_neg (by simp[he])];obtain⟨q3,q4,q5⟩:=q2 he;have first:∀v k,Edge r a v k→w <+: v→∃h∈dF r x,h.join≠come∧((v=w∧k=h)∨(w++[h]) <+: v):=by
   intro v k hk hw;obtain⟨t,ht⟩:=hw;have hne:∀h,Edge r a w h→h.join≠come:=fun h hh e=>by
    rcases hcome with ⟨h1,h2⟩|⟨v',g,h1,h2⟩
    ·obtain⟨p,_,h3,_⟩:=hh;obtain⟨m,_,_,h4,_⟩:=hY.1 h3;omega
    ·subst h1;have:=(Edge.of ha hx).1.inj H ha hh (by rw[e,h2]);have:=congrArg List.length this.1;simp at this
   cases t with
   |nil=>have hvw:v=w:=(by rw[←ht];simp);subst hvw;obtain⟨p,h1,h2,h3⟩:=hk;have hpx:p=x:=(cg ha).1.inj h1 hx;subst hpx;exact⟨k,h2,hne k ⟨p,h1,h2,h3⟩,.inl ⟨rfl,rfl⟩⟩
   |cons h t=>obtain⟨p,h1,_⟩:=hk;obtain⟨q,hq⟩:=yI ha t.length p (w++[h]) t rfl (by rw[List.append_assoc];rw[List.singleton_append,ht];exact h1);obtain⟨hE,_⟩:=Edge.of ha hq;obtain⟨p',h3,h4,h5⟩:=hE;have hpx:p'=x:=(cg ha).1.inj h3 hx;subst hpx;exact⟨h,h4,hne h ⟨p',h3,h4,h5⟩,.inr ⟨t,by rw[←ht];simp⟩⟩
  have hiff:∀v k,Edge r a v k→((D k.join∨∃h∈dF r x,h.join≠come∧(k.join=h.join∨Sub r a (w++[h]) k.join))↔(D k.join∨Sub r a w k.join)):=by
   intro v k hk;constructor
   ·rintro(h|⟨h,h1,h2,h3⟩)
    ·exact .inl h
    ·obtain⟨hE,_⟩:=q5 h h1 h2;rcases h3 with h3|⟨v',k',h4,h5,h6⟩
     ·exact .inr ⟨w,h,hE,h3.symm,List.prefix_refl _⟩
     ·exact .inr ⟨v',k',h4,h5,(List.prefix_append _ _).trans h6⟩
   ·rintro(h|⟨v',k',h1,h2,h3⟩)
    ·exact .inl h
    ·obtain⟨h,h4,h5,h6⟩:=first v' k' h1 h3
     rcases h6 with ⟨_,h7⟩|h7
     ·exact .inr ⟨h,h4,h5,.inl (by rw[←h2,h7])⟩
     ·exact .inr ⟨h,h4,h5,.inr ⟨v',k',h1,h2,h7⟩⟩
  refine⟨_,_,rfl,fun h=>(h rfl).elim,fun _=>⟨q3.iff hiff,fun v k hk hd=>q4 v k hk ((hiff v k hk).2 hd),trivial,fun hall v k hk hw=>?_,fun v k hk hw=>?_⟩⟩
  ·obtain⟨h,h4,h5,h6⟩:=first v k hk hw
   obtain⟨_,t2,_⟩:=q5 h h4 h5;rcases h6 with ⟨rfl,rfl⟩|h7
   ·exact(t2 hall).1
   ·exact(t2 hall).2 v k hk h7
  ·obtain⟨h,h4,h5,h6⟩:=first v k hk hw
   obtain⟨_,_,t3,t4⟩:=q5 h h4 h5;rcases h6 with ⟨rfl,rfl⟩|h7
   ·exact⟨hv,t3⟩
   ·exact t4 v k hk h7
end
def hJ (r:Reg)(k:Int)(s:St):Option (St×Int):=jG r r.schemas.length k (-1) s
def lQ (r:Reg)(k:Int):Int:=if fA r=false then 1 else if bF r k=false then 3 else 0
def pS (r:Reg)(k:Int)(s:St):Option (St×Int):=
 if lQ r k≠0 then some (bu,lQ r k) else match hJ r k s with
  |none=>none
  |some (s1,e)=>if e≠0 then some (bu,e) else hJ r k s1
def Bd:List Res→List Res→Bool
 |[],[]=>true
 |a::x,b::y=>decide (dP a b=0)&&Bd x y
 |_,_=>false
def hZ (r:Reg)(a b:Int):List Hop×Int:=
 if fA r=false then ([],1) else if bF r a=false∨bF r b=false then ([],3) else match gP b (bT r a) with
  |none=>([],12)
  |some w=>(w,0)
def fT (r:Reg):Int→List Hop→St→Option (St×Int)
 |_,[],s=>some (s,0)
 |x,h::w,s=>match ju r x h s with
  |none=>none
  |some (s',e)=>if e≠0 then some (bu,e) else fT r (cJ r h) w s'
def GoR (r:Reg)(a b:Int)(s:St):Option (St×Int):=
 if (hZ r a b).2≠0 then some (bu,(hZ r a b).2) else if okS s=false then none else if jg r a s≠0∧(hZ r a b).1=[] then some (bu,jg r a s) else fT r a (hZ r a b).1 s
theorem tf:∀l:List Res,Bd l l=true
 |[]=>rfl
 |a::l=>by rw[Bd,tf l];have:dP a a=0:=(by rw[kY];exact(iE.zero _ _).2 rfl);simp[this]
section
variable {r:Reg} {a:Int} {d:Doc}
structure Comp (r:Reg)(a:Int)(d:Doc)(s:St):Prop where
 good:GoodS r a d [] (fun _=>True) s
 fine:jg r a s=0
 fct:∀v k,Edge r a v k→Fct r a d v k
 vd:∀v k,Edge r a v k→VD r a d v∧VD r a d (v++[k])
 full:hJ r a s=some (s,0)
 bare:hJ r a ⟨d,[]⟩=some (s,0)
theorem BB (hR:fA r=true)(ha:bF r a=true)(hw:wD d<300000000):∃s e,pS r a ⟨d,[]⟩=some (s,e)∧(e≠0→s=bu)∧(e=0→Comp r a d s):=by
 have H:=ka hR;obtain⟨s1,hroot,_⟩:=cg ha;have hmay:lQ r a=0:=by unfold lQ;rw[if_neg (by simp[hR]),if_neg (by simp[ha])]
 unfold pS;rw[if_neg (by simp[hmay])];have g0:GoodS r a d [] (fun _=>False) ⟨d,[]⟩:=⟨rfl,by simp[srt],fun v k _ h=>h.elim,fun _ _=>rfl⟩;obtain⟨x,e,h1,h2,h3⟩:=oy H ha r.schemas.length a [] (-1) _ _ hroot (by simp) (.inl ⟨rfl,rfl⟩) g0 (by show wD d<_;omega) (fun v k _ h=>h.elim) (fun v h1 h2=>(h2 (List.prefix_nil.1 h1)).elim);unfold hJ;rw[h1];simp only;by_cases he:e=0;case neg=>rw[if_pos he];exact⟨_,_,rfl,fun _=>rfl,fun h=>(he h).elim⟩
 rw[if_neg (by simp[he])];obtain⟨g1,a1,f1,_,v1⟩:=h3 he;have hsub:∀v k,Edge r a v k→(False∨Sub r a [] k.join):=fun v k hk=>.inr ⟨v,k,hk,rfl,List.nil_prefix⟩
 have gT:=g1.all hsub;have aT:wA r a d (fun _=>True):=fun v k hk _=>(v1 v k hk List.nil_prefix).1
 have hx:x.doc=d:=g1.doc;obtain⟨y,e2,k1,k2,k3⟩:=oy H ha r.schemas.length a [] (-1) _ _ hroot (by simp) (.inl ⟨rfl,rfl⟩) gT (by rw[hx];omega) aT (fun v h1 h2=>(h2 (List.prefix_nil.1 h1)).elim);refine⟨y,e2,k1,k2,fun he2=>?_⟩;obtain⟨g2,a2,f2,c2,v2⟩:=k3 he2;have gy:GoodS r a d [] (fun _=>True) y:=g2.all fun v k _=>.inl trivial
 have e3:=gT.uniq gy;subst e3;subst he;subst he2;exact⟨gT,f2,fun v k hk=>c2 (fun _ _ _=>trivial) v k hk List.nil_prefix,fun v k hk=>v2 v k hk List.nil_prefix,k1,h1⟩
theorem Ak (h:Hop):li (li h)=h:=by cases h;simp[li]
theorem Ah (H:RegOk r){x:Int}{h:Hop}(hh:h∈dF r x):cJ r (li h)=x:=(H.hop hh).2.2.2.2.1
variable {s0:St}
theorem Comp.hop (H:RegOk r)(ha:bF r a=true)(C:Comp r a d s0){x:Int}{w:List Hop}(hx:(x,w)∈bT r a){s:St}(hg:GoodS r a d w (fun _=>True) s){h:Hop}(hh:h∈dF r x) :
  ∃w' s',(cJ r h,w')∈bT r a∧GoodS r a d w' (fun _=>True) s'∧ju r x h s=some (s',0):=by
 have hend:=mR H ha hx;rcases I0 H ha hx hh with hdn|⟨v,rfl,hv2⟩
 ·obtain⟨he,_⟩:=Edge.of ha hdn;obtain⟨t,t',g1,g2,q1,q2,q3⟩:=C.fct w h he;have:=g1.uniq hg;subst this;rw[hend] at q1;exact⟨_,t',hdn,g2,q1⟩
 ·obtain⟨he,hxe⟩:=Edge.of ha hx;obtain⟨t,t',g1,g2,q1,q2,q3⟩:=C.fct v (li h) he;have:=g2.uniq hg;subst this;rw[←hxe,Ak] at q2;exact⟨v,t,hv2,g1,q2⟩
theorem rM {h:Hop}:∀(w:List Hop)(x:Int)(s s1:St),fT r x w s=some (s1,0)→fT r x (w++[h]) s=fT r (kG r x w) [h] s1
 |[],x,s,s1,hh=>by simp only[fT,Option.some.injEq,Prod.mk.injEq,and_true] at hh;subst hh;rfl
 |k::w,x,s,s1,hh=>by
  rw[fT] at hh;rw[List.cons_append,fT];cases hq:ju r x k s with
  |none=>rw[hq] at hh;cases hh
  |some p=>
   obtain⟨s',e⟩:=p;rw[hq] at hh;simp only at hh ⊢;by_cases he:e=0
   ·rw[if_neg (by simp[he])] at hh ⊢;exact rM w _ _ _ hh
   ·rw[if_pos he] at hh;simp only[Option.some.injEq,Prod.mk.injEq] at hh;exact(he hh.2).elim
theorem Comp.way (H:RegOk r)(ha:bF r a=true)(C:Comp r a d s0){x:Int}{w:List Hop}(hx:(x,w)∈bT r a){s:St}(hg:GoodS r a d w (fun _=>True) s):∀(n:Nat)(y:Int)(p:List Hop),p.length=n→(y,p)∈bT r x→
  ∃w' s',(y,w')∈bT r a∧GoodS r a d w' (fun _=>True) s'∧fT r x p s=some (s',0)
 |n,y,p,hn,hp=>by
  have hxt:=(cg ha).1.rng x w hx;rcases(cg hxt).1.lnk y p hp with ⟨rfl,rfl⟩|⟨q,v,h,rfl,h2,h3,rfl⟩
  ·exact⟨w,s,hx,hg,rfl⟩
  ·cases n with
   |zero=>simp at hn
   |succ n=>obtain⟨w1,s1,a1,a2,a3⟩:=Comp.way H ha C hx hg n q v (by simpa using hn) h2;obtain⟨w2,s2,b1,b2,b3⟩:=C.hop H ha a1 a2 h3;refine⟨w2,s2,b1,b2,?_⟩;rw[rM _ _ _ _ a3,mR H hxt h2,fT,b3];rfl
theorem Comp.fineAt (ha:bF r a=true)(C:Comp r a d s0){x:Int}{w:List Hop}(hx:(x,w)∈bT r a){s:St}(hg:GoodS r a d w (fun _=>True) s):jg r x s=0:=by
 rcases(cg ha).1.lnk x w hx with ⟨rfl,rfl⟩|⟨q,v,h,rfl,h2,h3,rfl⟩
 ·have:=C.good.uniq hg;subst this;exact C.fine
 ·obtain⟨t,t',g1,g2,q1,q2,q3⟩:=C.fct v h (Edge.of ha hx).1;have:=g2.uniq hg;subst this;exact q3
theorem ng (H:RegOk r)(ha:bF r a=true){Q:Int→Prop}(hQ:∀x,Q x→∀h∈dF r x,Q (cJ r h)):∀(n:Nat)(y:Int)(w:List Hop),w.length=n→(y,w)∈bT r a→(Q a↔Q y)
 |n,y,w,hn,hy=>by
  rcases(cg ha).1.lnk y w hy with ⟨rfl,rfl⟩|⟨q,v,h,rfl,h2,h3,rfl⟩
  ·rfl
  ·cases n with
   |zero=>simp at hn
   |succ n=>
    rw[ng H ha hQ n q v (by simpa using hn) h2];refine⟨fun hq=>hQ q hq h h3,fun hq=>?_⟩;have h4:=(H.hop h3).2.2.2.1;have:=hQ _ hq (li h) h4
    rwa[Ah H h3] at this
theorem tV (H:RegOk r)(ha:bF r a=true){x y:Int}{w:List Hop}(hx:(x,w)∈bT r a):(∃p,(y,p)∈bT r x)↔∃p,(y,p)∈bT r a:=by
 have hxt:=(cg ha).1.rng x w hx;have clo:∀b,bF r b=true→∀z,(∃p,(z,p)∈bT r b)→∀h∈dF r z,∃p,(cJ r h,p)∈bT r b:=fun b hb z ⟨p,hp⟩ h hh=>(cg hb).2.2 z p hp h hh (H.hop hh).2.1
 have hax:∃p,(a,p)∈bT r x:=(ng H ha (clo x hxt) _ x w rfl hx).2 ⟨[],(cg hxt).2.1⟩;constructor
 ·rintro⟨p,hp⟩;exact(ng H hxt (clo a ha) _ y p rfl hp).1 ⟨w,hx⟩
 ·rintro⟨p,hp⟩;exact(ng H ha (clo x hxt) _ y p rfl hp).1 hax
theorem CI (hR:fA r=true){x y:Int}{p:List Hop}(hx:bF r x=true)(hp:(y,p)∈bT r x):hZ r x y=(p,0):=by unfold hZ;rw[if_neg (by simp[hR]),if_neg (by simp[hx,(cg hx).1.rng y p hp]),mc (cg hx).1.nod hp]
theorem Ar (hR:fA r=true){x y:Int}(hx:bF r x=true)(hp:¬∃p,(y,p)∈bT r x):hZ r x y=([],if bF r y=false then 3 else 12):=by
 unfold hZ;rw[if_neg (by simp[hR])];by_cases hy:bF r y=true
 ·rw[if_neg (by simp[hx,hy])];cases hq:gP y (bT r x) with
  |none=>simp[hy]
  |some w=>exact(hp ⟨w,oE hq⟩).elim
 ·simp only[Bool.not_eq_true] at hy;rw[if_pos (.inr hy),if_pos hy]
theorem Comp.go (hR:fA r=true)(ha:bF r a=true)(C:Comp r a d s0)(hw:wD d<300000000){x y:Int}{w:List Hop}(hx:(x,w)∈bT r a){s:St}(hg:GoodS r a d w (fun _=>True) s) :
  okS s=true∧((∃p,(y,p)∈bT r a)→∃w' s',(y,w')∈bT r a∧GoodS r a d w' (fun _=>True) s'∧GoR r x y s=some (s',0))∧((¬∃p,(y,p)∈bT r a)→(hZ r x y).2=(if bF r y=false then 3 else 12)∧GoR r x y s=some (bu,if bF r y=false then 3 else 12)):=by
 have H:=ka hR;have hxt:=(cg ha).1.rng x w hx;have hok:okS s=true:=by
  refine mB (hg.small H ha fun v k hk _=>(C.vd v k hk).1) ?_;rw[hg.doc];rcases(cg ha).1.lnk x w hx with ⟨rfl,rfl⟩|⟨q,v,h,rfl,h2,h3,rfl⟩
  ·show wD d<_;omega
  ·have:=iz (show cD _ (jN r a d (v++[h]))=true from(C.vd v h (Edge.of ha hx).1).2);omega
 refine⟨hok,fun hy=>?_,fun hy=>?_⟩
 ·obtain⟨p,hp⟩:=(tV H ha hx).2 hy;obtain⟨w',s',b1,b2,b3⟩:=C.way H ha hx hg _ y p rfl hp;have e:=CI hR hxt hp;refine⟨w',s',b1,b2,?_⟩;unfold GoR;rw[e];simp only[ne_eq,not_true_eq_false,if_false,hok,Bool.true_eq_false,C.fineAt ha hx hg,false_and];exact b3
 ·have e:=Ar hR hxt fun h=>hy ((tV H ha hx).1 h)
  rw[e];refine⟨rfl,?_⟩;unfold GoR;rw[e];simp only;rw[if_pos];split<;>decide
end
theorem BD (r:Reg)(a b c:Int)(d:Doc)(hw:wD d<300000000) :
  ∃s e,pS r a ⟨d,[]⟩=some (s,e)∧(e≠0→s=bu)∧(e=0→bF r a=true∧s.doc=d∧okS s=true∧lQ r a=0∧hJ r a s=some (s,0)∧hJ r a ⟨d,[]⟩=some (s,0)∧cD (gU r a) d=true∧
   ∃x f,GoR r a b s=some (x,f)∧okS x=true∧(f≠0→(hZ r a b).2=f∧(f=12∨f=3))∧(f=0→bF r b=true∧cD (gU r b) x.doc=true∧GoR r b a x=some (s,0)∧
    ∃u h,GoR r a c s=some (u,h)∧GoR r b c x=some (u,h)∧okS u=true)):=by
 cases hR:fA r with
 |false=>have hm:lQ r a=1:=(by unfold lQ;rw[if_pos hR]);refine⟨bu,1,?_,fun _=>rfl,fun h=>by cases h⟩;unfold pS;rw[hm];rfl
 |true=>
 cases ha:bF r a with
 |false=>have hm:lQ r a=3:=(by unfold lQ;rw[if_neg (by simp[hR]),if_pos ha]);refine⟨bu,3,?_,fun _=>rfl,fun h=>by cases h⟩;unfold pS;rw[hm];rfl
 |true=>
 have H:=ka hR;obtain⟨s,e,h1,h2,h3⟩:=BB (d:=d) hR ha hw;refine⟨s,e,h1,h2,fun he=>?_⟩;have C:=h3 he;have hroot:=(cg ha).2.1;have hd:s.doc=d:=C.good.doc;have hz:okS bu=true:=by decide
 have hmay:lQ r a=0:=by unfold lQ;rw[if_neg (by simp[hR]),if_neg (by simp[ha])]
 refine⟨rfl,hd,(C.go hR ha hw (y:=a) hroot C.good).1,hmay,C.full,C.bare,by rw[←hd];exact(vL C.fine).1,?_⟩;have hb:=(C.go hR ha hw (y:=b) hroot C.good).2;by_cases hin:∃p,(b,p)∈bT r a;case neg=>
  replace hb:=hb.2 hin;refine⟨bu,_,hb.2,hz,fun _=>⟨hb.1,?_⟩,fun h=>?_⟩
  ·split<;>simp
  ·split at h<;>cases h
 obtain⟨w',x,b1,b2,b3⟩:=hb.1 hin;have hbt:=(cg ha).1.rng b w' b1;have hback:=(C.go hR ha hw (y:=a) b1 b2);have hxo:=hback.1;obtain⟨w2,y,c1,c2,c3⟩:=hback.2.1 ⟨[],hroot⟩;have e2:=(cg ha).1.fun c1 hroot;subst e2;have e3:=c2.uniq C.good;subst e3;refine⟨x,0,b3,hxo,fun h=>(h rfl).elim,fun _=>⟨hbt,(vL (C.fineAt ha b1 b2)).1,c3,?_⟩⟩;have ht1:=(C.go hR ha hw (y:=c) hroot C.good).2;have ht2:=(C.go hR ha hw (y:=c) b1 b2).2;by_cases hc:∃p,(c,p)∈bT r a
 ·obtain⟨w3,u,d1,d2,d3⟩:=ht1.1 hc;obtain⟨w4,v,e1,e2,e3⟩:=ht2.1 hc;have e5:=(cg ha).1.fun d1 e1;subst e5;have e6:=d2.uniq e2;subst e6;exact⟨u,0,d3,e3,(C.go hR ha hw (y:=a) d1 d2).1⟩
 ·exact⟨bu,_,(ht1.2 hc).2,(ht2.2 hc).2,hz⟩
open Go Go.Proofs
def bn (h:Hop):List Val:=[.int .i64 h.join,.bool h.back]
def cNm (n:Nm):List Val:=.str n.name::cTy n.ty
def cJn (j:Jn):List Val:=[.int .i64 j.src,.int .i64 j.dst,sls aL j.lens]
def bN (r:Reg):List Val:=[sls cNm r.schemas,sls cJn r.joins]
@[simp] theorem qj (h:Hop):(bn h).length=2:=rfl
@[simp] theorem vA (h:Nm):(cNm h).length=7:=by simp[cNm]
@[simp] theorem qK (h:Jn):(cJn h).length=3:=rfl
@[simp] theorem lV (h:Reg):(bN h).length=2:=rfl
@[simp] theorem dH (l:List Hop):(row bn l).length=l.length*2:=fk qj l
@[simp] theorem Em (l:List Nm):(row cNm l).length=l.length*7:=fk vA l
@[simp] theorem Ek (l:List Jn):(row cJn l).length=l.length*3:=fk qK l
@[simp] theorem yP (d:Hop):ae (bn d)=true:=rfl
@[simp] theorem Gb (d:Nm):ae (cNm d)=true:=by simp[cNm,ae,iO]
@[simp] theorem G8 (d:Jn):ae (cJn d)=true:=rfl
@[simp] theorem FX (d:Reg):ae (bN d)=true:=rfl
@[simp] theorem e9 (l:List Hop):ae (row bn l)=true:=gD yP l
@[simp] theorem jv (d:Hop):aE (bn d)=true:=rfl
@[simp] theorem yS (d:Nm):aE (cNm d)=true:=by simp[cNm,aE,Val.closed]
@[simp] theorem yQ (d:Jn):aE (cJn d)=true:=by simp[cJn,aE,Val.closed]
@[simp] theorem dQ (l:List Hop):aE (row bn l)=true:=dL fun d _=>jv d
@[simp] theorem Fx (l:List Nm):aE (row cNm l)=true:=dL fun d _=>yS d
@[simp] theorem Fv (l:List Jn):aE (row cJn l)=true:=dL fun d _=>yQ d
@[simp] theorem en (d:Reg):aE (bN d)=true:=by simp[bN,aE,Val.closed]
@[simp] theorem HM (N:Nat)(d:Hop):aV N (bn d)=true:=aD _ (jv d)
@[simp] theorem BW (N:Nat)(d:Reg):aV N (bN d)=true:=aD _ (en d)
@[simp] theorem IG (N:Nat)(d:List Hop):aV N (row bn d)=true:=aD _ (dQ d)
@[simp] theorem Iq (pre r:List Hop)(x:Hop):(row bn (pre++x::r)).drop (pre.length*2)=bn x++row bn r:=jn qj pre r x
@[simp] theorem FW (pre r:List Nm)(x:Nm):(row cNm (pre++x::r)).drop (pre.length*7)=cNm x++row cNm r:=jn vA pre r x
@[simp] theorem FV (pre r:List Jn)(x:Jn):(row cJn (pre++x::r)).drop (pre.length*3)=cJn x++row cJn r:=jn qK pre r x
@[simp] theorem HJ (d:Hop)(h:0<(bn d).length):(bn d)[0]=.int .i64 d.join:=rfl
@[simp] theorem G6 (d:Hop):(bn d)[0]?=some (.int .i64 d.join):=rfl
@[simp] theorem HK (d:Hop)(h:1<(bn d).length):(bn d)[1]=.bool d.back:=rfl
@[simp] theorem G7 (d:Hop):(bn d)[1]?=some (.bool d.back):=rfl
@[simp] theorem Iw (d:Nm)(h:0<(cNm d).length):(cNm d)[0]=.str d.name:=rfl
@[simp] theorem H0 (d:Nm):(cNm d)[0]?=some (.str d.name):=rfl
@[simp] theorem Ix (d:Nm):(cNm d).drop 1=cTy d.ty:=rfl
@[simp] theorem H1 (d:Nm):(cNm d).tail=cTy d.ty:=rfl
@[simp] theorem Is (d:Jn)(h:0<(cJn d).length):(cJn d)[0]=.int .i64 d.src:=rfl
@[simp] theorem HR (d:Jn):(cJn d)[0]?=some (.int .i64 d.src):=rfl
@[simp] theorem It (d:Jn)(h:1<(cJn d).length):(cJn d)[1]=.int .i64 d.dst:=rfl
@[simp] theorem HS (d:Jn):(cJn d)[1]?=some (.int .i64 d.dst):=rfl
@[simp] theorem Iu (d:Jn)(h:2<(cJn d).length):(cJn d)[2]=sls aL d.lens:=rfl
@[simp] theorem HT (d:Jn):(cJn d)[2]?=some (sls aL d.lens):=rfl
@[simp] theorem H5 (d:Reg)(h:0<(bN d).length):(bN d)[0]=sls cNm d.schemas:=rfl
@[simp] theorem tN (d:Reg):(bN d)[0]?=some (sls cNm d.schemas):=rfl
@[simp] theorem H6 (d:Reg)(h:1<(bN d).length):(bN d)[1]=sls cJn d.joins:=rfl
@[simp] theorem tO (d:Reg):(bN d)[1]?=some (sls cJn d.joins):=rfl
@[simp] theorem G4 (d:Hop)(l:List Val):(bn d++l)[0]?=some (.int .i64 d.join):=rfl
@[simp] theorem G5 (d:Hop)(l:List Val):(bn d++l)[1]?=some (.bool d.back):=rfl
@[simp] theorem HZ (d:Nm)(l:List Val):(cNm d++l)[0]?=some (.str d.name):=rfl
@[simp] theorem HO (d:Jn)(l:List Val):(cJn d++l)[0]?=some (.int .i64 d.src):=rfl
@[simp] theorem HP (d:Jn)(l:List Val):(cJn d++l)[1]?=some (.int .i64 d.dst):=rfl
@[simp] theorem HQ (d:Jn)(l:List Val):(cJn d++l)[2]?=some (sls aL d.lens):=rfl
@[simp] theorem HH (d:Hop):(bn d).take 2=bn d:=List.take_of_length_le (by simp)
@[simp] theorem HL (d:Hop)(r:List Val):(bn d++r).take 2=bn d:=ed (qj d)
@[simp] theorem D1 (d:Nm):(cNm d).take 7=cNm d:=List.take_of_length_le (by simp)
@[simp] theorem Ir (d:Jn):(cJn d).take 3=cJn d:=List.take_of_length_le (by simp)
@[simp] theorem Iv (d:Jn)(r:List Val):(cJn d++r).take 3=cJn d:=ed (qK d)
@[simp] theorem H4 (d:Reg):(bN d).take 2=bN d:=rfl
@[simp] theorem H7 (d:Reg)(r:List Val):(bN d++r).take 2=bN d:=rfl
theorem xj {r:Reg}{k:Int}(h:bF r k=true):∃pre x post,r.schemas=pre++x::post∧k=(pre.length:Int)∧gU r k=x.ty∧x∈r.schemas:=by
 obtain⟨h1,h2⟩:=ff.1 h;have hk:k.toNat<r.schemas.length:=by omega
 refine⟨r.schemas.take k.toNat,r.schemas[k.toNat],r.schemas.drop (k.toNat+1),?_,?_,?_,List.getElem_mem hk⟩
 ·rw[List.getElem_cons_drop hk,List.take_append_drop]
 ·rw[List.length_take];omega
 ·unfold gU;simp[List.getD,hk]
theorem rR {r:Reg}{i:Int}{n:Nat}{j:Jn}(h:r.joins[n]?=some j)(hi:i=(n:Int)):∃pre post,r.joins=pre++j::post∧i=(pre.length:Int)∧mw r i=j:=by
 obtain⟨hn,rfl⟩:=List.getElem?_eq_some_iff.1 h;refine⟨r.joins.take n,r.joins.drop (n+1),?_,?_,jj h hi⟩
 ·rw[List.getElem_cons_drop hn,List.take_append_drop]
 ·rw[List.length_take];omega
end Go.V
set_option maxHeartbeats 4000000
namespace Go.V
open Go Go.Proofs
attribute [local irreducible] W bM WD aO yl aU bU
section
variable (Γ:Glo Tryz.prog)
attribute [local simp] veq
theorem f48 (r:Reg)(k:Int)(hb:r.schemas.length<big):PureOk Tryz.prog Γ 48 [.ag (bN r),.int .i64 k] (.bool (bF r k)):=by
 simp only[big] at hb;unfold bF;generalize hn:r.schemas.length=n at *
 by_cases h:0≤k
 ·refine Y2 14 Tryz.func48 rfl rfl fun a hl g0 g1=>?_
  refine GG ?_;all_goals first|(refine⟨by simp,.bool (decide (0≤k)&&decide (k<n)),1,?_,rfl⟩;(simp[Tryz.f48, *]<;>grind [List.length_eq_zero_iff]);done)|skip
 ·refine Y2 14 Tryz.func48 rfl rfl fun a hl g0 g1=>?_
  refine GG ?_;all_goals first|(refine⟨by simp,.bool (decide (0≤k)&&decide (k<n)),1,?_,rfl⟩;(simp[Tryz.f48, *]<;>grind [List.length_eq_zero_iff]);done)|skip
theorem f93 (r:Reg)(h:Hop){n:Nat}{j:Jn}(hj:r.joins[n]?=some j)(hn:h.join=(n:Int))(hb:r.joins.length<big):PureOk Tryz.prog Γ 93 [.ag (bN r),.ag (bn h)] (.int .i64 (cJ r h)):=by
 simp only[big] at hb;obtain⟨pre,post,h1,h2,h3⟩:=rR hj hn;unfold cJ;rw[h3];obtain⟨S,J⟩:=r;obtain⟨e,b⟩:=h;simp only at h1 h2 hb ⊢;subst h1;subst h2;clear hj hn h3;have hlt:(pre.length:Int)<pre.length+(post.length+1):=by omega
 have hle:1≤3+post.length*3:=by omega
 cases b
 ·refine Y2 21 Tryz.func93 rfl rfl fun a hl g0 g1=>?_
  refine GG ?_;all_goals first|(refine⟨by simp,.int .i64 j.dst,1,?_,rfl⟩;(simp[Tryz.f93, *]<;>grind [List.length_eq_zero_iff]);done)|skip
 ·refine Y2 21 Tryz.func93 rfl rfl fun a hl g0 g1=>?_
  refine GG ?_;all_goals first|(refine⟨by simp,.int .i64 j.src,1,?_,rfl⟩;(simp[Tryz.f93, *]<;>grind [List.length_eq_zero_iff]);done)|skip
theorem f111 (l:List Nm)(p:Nm→Bool)(hb:l.length<big)(g:FuncId)(first cap:List Val)(hg:∀x∈l,PureOk Tryz.prog Γ g (first ++ .ag (cNm x)::cap) (.bool (p x)))(hgp:bS Tryz.prog g=true)(hcf:aE first=true)(hcc:aE cap=true) :
  PureOk Tryz.prog Γ 111 [sls cNm l,.fn g first cap] (.int .i64 (bg p l 0)):=by
 simp only[big] at hb;obtain⟨v,hv⟩:∃v,v=bg p l 0:=⟨_,rfl⟩;rw[←hv];refine Y2 19 Tryz.func111 rfl rfl fun a hl g0 g1=>?_
 refine GG ?_;refine aq [(4,5),(9,18)] [8] (fun k a h=>h=[]∧∃pre rest,l=pre++rest∧k=rest.length∧lk a 8=some (.int .i64 pre.length)∧v=bg p rest pre.length) ⟨rfl,[],l,rfl,rfl,by simp[*],hv⟩ ?_;intro a1 hk hk0 k a h hF hI;replace g0:=hF.a hk 0;replace g1:=hF.a hk 1;replace g7:=hF.a hk 7;replace hl:a.length=19:=hF.len.trans (hk0.trans (by simp[*]));clear hk hk0;clear hv;obtain⟨rfl,pre,rest,rfl,rfl,h8,hv⟩:=hI;cases rest with
 |nil=>simp[bg] at hv;refine GG ?_;all_goals first|(refine⟨by simp,.int .i64 v,1,?_,rfl⟩;(simp[Tryz.f111, *]<;>grind [List.length_eq_zero_iff]);done)|skip
 |cons x r=>
  have hlt:(pre.length:Int)<pre.length+(r.length+1):=(by omega);have hw:=ac ((pre.length:Int)+1) (by simp at hb;omega) (by simp at hb;omega);have hx:=hg x (by simp);clear hg;have hv2:v=if p x then (pre.length:Int) else bg p r (pre.length+1):=hv
  clear hv;refine GG ?_;refine aC hx ?_ (hp:=hgp) (hcl:=by simp[au,aE,Val.closed, *]);clear hx;repeat' first|refine G1 ?_|(refine G2 ?_ ?_<;>intro hc hd<;>try exact hd.elim)|fail
  ·have e:v=pre.length:=(by grind);clear hv2;exact⟨by simp,.int .i64 v,1,by simp[Tryz.f111, *],rfl⟩
  ·have e:v=bg p r ((pre++[x]).length):=(by simp;grind);exact NX [] fun a2 hF2=>⟨rfl,pre++[x],r,by simp,rfl,(hF2.q 8),e⟩
theorem f112 (n:Nm)(s:Str):PureOk Tryz.prog Γ 112 [.ag (cNm n),.pp [.str s]] (.bool (decide (n.name=s))):=by
 refine Y2 8 Tryz.func112 rfl rfl fun a hl g0 g1=>?_
 refine GG ?_;all_goals first|(refine⟨by simp,.bool (decide (n.name=s)),1,?_,rfl⟩;(simp[Tryz.f112, *]<;>grind [List.length_eq_zero_iff]);done)|skip
theorem ti (s:Str):∀(l:List Nm)(i:Nat),vK s i l=bg (fun n=>decide (n.name=s)) l i
 |[],_=>rfl
 |n::l,i=>by rw[vK,bg,ti s l (i+1)];simp only[decide_eq_true_eq]
theorem f56 (r:Reg)(s:Str)(hb:r.schemas.length<big):PureOk Tryz.prog Γ 56 [.ag (bN r),.str s] (.int .i64 (th s r.schemas)):=by
 have h2:=f111 Γ r.schemas (fun n=>decide (n.name=s)) hb 112 [] [.pp [.str s]] (fun x _=>f112 Γ x s) (by kernel_rfl) rfl (by simp[aE,Val.closed]);unfold th;rw[ti];generalize bg (fun n:Nm=>decide (n.name=s)) r.schemas 0=p1 at *
 clear hb;refine Y2 9 Tryz.func56 rfl rfl fun a hl g0 g1=>?_
 (repeat' refine fM ?_);refine dM ?_;(repeat' first|refine eR ?_|refine gK ?_);refine db ?_;simp only[eH,cX,cV]
 refine jt (h1:=[(1,.cells [.str s] 9 false)]) (h2:=[(0,.cells (bN r) 50 false)]) 30 [(3,.pp [.str s])] (by (repeat (first|exact aP|refine aK (by simp[V.get, *]) ?_))) (by (repeat (first|exact aP|refine aK (by simp[V.get, *]) ?_))) (by simp) (by simp only[List.mem_cons,List.not_mem_nil,or_false,forall_eq_or_imp,forall_eq];exact⟨.pr 1 0,by simp[*],od rfl (by simp[Val.closed,aE]) (by simp)⟩) ?_;simp only[setTs];refine GG ?_;all_goals (try (refine aC h2 ?_))
 refine GG ?_;all_goals first|(refine⟨by simp,.int .i64 p1,1,?_,rfl⟩;(simp[Tryz.f56, *]<;>grind [List.length_eq_zero_iff]);done)|skip
theorem f108 (l:List Nm)(hb:l.length<big):PureOk Tryz.prog Γ 108 [sls cNm l] (.sl (row cNm l) l.length (some l.length)):=by
 simp only[big] at hb;have hs:∀h,jE Tryz.prog 47 h (.sl (row cNm l) l.length none) none (some (.int .i64 l.length)) (some (.int .i64 l.length))=some (.sl (row cNm l) l.length (some l.length)):=fun h=>by simp[jE,ob,jD,pE];exact List.take_of_length_le (by simp)
 refine Y1 9 Tryz.func108 rfl rfl fun a hl g0=>?_
 refine GG ?_;exact⟨by simp,.sl (row cNm l) l.length (some l.length),1,by simp[Tryz.f108, *],by simp[vw,Val.closed, *]⟩
theorem f110 (l:List Jn)(hb:l.length<big):PureOk Tryz.prog Γ 110 [sls cJn l] (.sl (row cJn l) l.length (some l.length)):=by
 simp only[big] at hb;have hs:∀h,jE Tryz.prog 48 h (.sl (row cJn l) l.length none) none (some (.int .i64 l.length)) (some (.int .i64 l.length))=some (.sl (row cJn l) l.length (some l.length)):=fun h=>by simp[jE,ob,jD,pE];exact List.take_of_length_le (by simp)
 refine Y1 9 Tryz.func110 rfl rfl fun a hl g0=>?_
 refine GG ?_;exact⟨by simp,.sl (row cJn l) l.length (some l.length),1,by simp[Tryz.f110, *],by simp[vw,Val.closed, *]⟩
end
end Go.V
end
