/-
  A part of a proof: P3 P4 P5 P12 Y2 Y3.
-/
import Derived.Test.YtkfjenbfbendhaaGreatDoorPk13
import Derived.Test.YtkfjenbfbendhaaGreatDoorPk16
set_option linter.unusedSimpArgs false
set_option linter.unusedVariables false
section
namespace Go.V
def fu (l:List Fld):Prop:=l.Pairwise fun f g=>ltS f.name g.name=true
@[simp] theorem Gf (n:Str):aj n []=none:=rfl
theorem dY (n:Str)(f:Fld)(l:List Fld):aj n (f::l)=if f.name=n then some f else aj n l:=rfl
theorem cY {n:Str}{l:List Fld}{f:Fld}(h:aj n l=some f):f.name=n∧f∈l:=by
 induction l with
 |nil=>cases h
 |cons g l ih=>
  rw[dY] at h;split at h
  ·rename_i e;cases h;exact⟨e,by simp⟩
  ·exact⟨(ih h).1,by simp[(ih h).2]⟩
theorem rW {f g:Fld}{l:List Fld}:g∈dz f l↔g=f∨g∈l:=by
 induction l with
 |nil=>simp[dz]
 |cons z l ih=>
  unfold dz;split
  ·simp
  ·simp only[List.mem_cons,ih];constructor
   ·rintro(h|h|h)<;>simp[h]
   ·rintro(h|h|h)<;>simp[h]
theorem fx {f:Fld}{l:List Fld}(h:fu l)(hn:aj f.name l=none):fu (dz f l):=by
 induction l with
 |nil=>simp[dz,fu]
 |cons g l ih=>
  unfold fu at h;rw[List.pairwise_cons] at h;rw[dY] at hn;split at hn
  ·cases hn
  ·rename_i e;unfold dz;split
   ·rename_i hc;unfold fu;rw[List.pairwise_cons,List.pairwise_cons];refine⟨fun z hz=>?_,h⟩;rcases List.mem_cons.1 hz with rfl|hz
    ·exact hc
    ·exact aa hc (h.1 z hz)
   ·rename_i hc;unfold fu;rw[List.pairwise_cons];refine⟨fun z hz=>?_,ih h.2 hn⟩;rcases rW.1 hz with rfl|hz
    ·exact aQ (by simpa using hc) (fun e'=>e e'.symm)
    ·exact h.1 z hz
theorem dZ (n:Str)(f:Fld)(l:List Fld)(hn:aj f.name l=none):aj n (dz f l)=if f.name=n then some f else aj n l:=by
 induction l with
 |nil=>rfl
 |cons g l ih=>
  rw[dY] at hn;split at hn
  ·cases hn
  ·rename_i e;unfold dz;split
   ·rfl
   ·rw[dY,ih hn,dY];by_cases e2:f.name=n
    ·subst e2;simp[e]
    ·simp[e2]
theorem xM {n:Str}{g:Fld}{l:List Fld}(h:g∈br n l):g∈l:=by
 induction l with
 |nil=>cases h
 |cons z l ih=>
  unfold br at h;split at h
  ·exact List.mem_cons_of_mem _ (ih h)
  ·rcases List.mem_cons.1 h with rfl|h
   ·simp
   ·exact List.mem_cons_of_mem _ (ih h)
theorem fv (n:Str){l:List Fld}(h:fu l):fu (br n l):=by
 induction l with
 |nil=>exact h
 |cons g l ih=>
  unfold fu at h;rw[List.pairwise_cons] at h;unfold br;split
  ·exact ih h.2
  ·unfold fu;rw[List.pairwise_cons];exact⟨fun z hz=>h.1 z (xM hz),ih h.2⟩
theorem be (n m:Str)(l:List Fld):aj n (br m l)=if m=n then none else aj n l:=by
 induction l with
 |nil=>simp[br]
 |cons g l ih=>
  unfold br;split
  ·rename_i e;rw[ih,dY,e];by_cases e2:m=n<;>simp[e2]
  ·rename_i e;rw[dY,ih,dY];by_cases e2:m=n
   ·subst e2;simp[e]
   ·simp[e2]
theorem gB {l:List Fld}(h:fu l){f:Fld}(hf:f∈l):aj f.name l=some f:=by
 induction l with
 |nil=>cases hf
 |cons g l ih=>
  unfold fu at h;rw[List.pairwise_cons] at h;rw[dY];rcases List.mem_cons.1 hf with rfl|hf
  ·simp
  ·rw[if_neg (lv (h.1 f hf)),ih h.2 hf]
theorem ry:∀{l m:List Fld},fu l→fu m→(∀n,aj n l=aj n m)→l=m
 |[],[],_,_,_=>rfl
 |[],y::m,_,_,h=>by have:=h y.name;rw[dY,if_pos rfl] at this;cases this
 |x::l,[],_,_,h=>by have:=h x.name;rw[dY,if_pos rfl] at this;cases this
 |x::l,y::m,hl,hm,h=>by
  have h1:=h x.name;have h2:=h y.name;rw[gB hl (by simp)] at h1;rw[gB hm (by simp)] at h2;have m1:=(cY h1.symm).2;have m2:=(cY h2).2;have hl':=List.pairwise_cons.1 hl;have hm':=List.pairwise_cons.1 hm;have e:x=y:=by
   rcases List.mem_cons.1 m1 with e|m1
   ·exact e
   ·rcases List.mem_cons.1 m2 with e|m2
    ·exact e.symm
    ·have a:=hm'.1 x m1;have b:=hl'.1 y m2;rw[aR a] at b;cases b
  subst e;congr 1;refine ry hl'.2 hm'.2 fun n=>?_
  have hp:=h n;rw[dY,dY] at hp;by_cases e:x.name=n
  ·have none_of:∀r:List Fld,(∀z∈r,ltS x.name z.name=true)→aj n r=none:=by
    intro r hr;cases hf:aj n r with
    |none=>rfl
    |some z=>obtain⟨q1,q2⟩:=cY hf;exact absurd (e.trans q1.symm) (lv (hr z q2))
   rw[none_of l hl'.1,none_of m hm'.1]
  ·rwa[if_neg e,if_neg e] at hp
theorem mC:∀(p:Option Str)(l:List Fld),fX p l=true↔(∀q,p=some q→∀f∈l,ltS q f.name=true)∧fu l∧∀f∈l,dA f.name=true∧gS f.ty=true
 |p,[]=>by simp[fX,fu]
 |p,f::r=>by
  rw[rm,Bool.and_eq_true,Bool.and_eq_true,Bool.and_eq_true,mC (some f.name) r];unfold fu;rw[List.pairwise_cons];simp only[List.mem_cons];constructor
  ·rintro⟨⟨⟨h1,h2⟩,h3⟩,h4,h5,h6⟩;refine⟨?_,⟨h4 _ rfl,h5⟩,?_⟩
   ·rintro q rfl x (rfl|hx)
    ·exact h2
    ·exact aa h2 (h4 _ rfl x hx)
   ·rintro x (rfl|hx)
    ·exact⟨h1,h3⟩
    ·exact h6 x hx
  ·rintro⟨h1,⟨h4,h5⟩,h6⟩;refine⟨⟨⟨(h6 f (.inl rfl)).1,?_⟩,(h6 f (.inl rfl)).2⟩,?_,h5,fun x hx=>h6 x (.inr hx)⟩
   ·cases p with
    |none=>rfl
    |some q=>exact h1 q rfl f (.inl rfl)
   ·rintro q hq x hx;cases hq;exact h4 x hx
theorem xg {l:List Fld}{f:Fld}(h:f∈l):dc f.ty≤dT l∧dK f.ty≤dW l:=by
 induction l with
 |nil=>cases h
 |cons g l ih=>
  rw[ir,jM];rcases List.mem_cons.1 h with rfl|h
  ·omega
  ·have:=ih h;omega
theorem Ca {l:List Ty}{t:Ty}(h:t∈l):dc t≤dU l∧dK t≤dy l:=by
 induction l with
 |nil=>cases h
 |cons g l ih=>
  rw[dU,dy];rcases List.mem_cons.1 h with rfl|h
  ·omega
  ·have:=ih h;omega
theorem gg (t:Ty):bq t=true↔dc t≤128∧dK t≤12∧gS t=true:=by unfold bq;simp[and_assoc]
structure gd (r:Ty):Prop where
 right:bq r=true
 kind:r.kind=1
theorem Ty.eta (t:Ty):t=.mk t.kind t.lo t.hi t.names t.fields t.of:=by cases t;rfl
theorem BQ {t:Ty}(h:nA t=true)(hk:t.kind=1):t=d8 t.fields:=by obtain⟨k,lo,hi,ns,fs,ts⟩:=t;simp only[Ty.kind] at hk;subst hk;simp[nA,xL,Ty.kind,Ty.names,Ty.of,Ty.lo,Ty.hi] at h;obtain⟨⟨h1,h2⟩,h3,h4⟩:=h;replace h3:=of_decide_eq_true h3;replace h4:=of_decide_eq_true h4;subst h1;subst h2;subst h3;subst h4;rfl
theorem gd.parts {r:Ty}(h:gd r):r=d8 r.fields∧fu r.fields∧∀f∈r.fields,dA f.name=true∧bq f.ty=true:=by have h1:=(gg r).1 h.right;have h2:=h1.2.2;rw[pJ,Bool.and_eq_true,if_pos h.kind,Bool.and_eq_true,mC] at h2;refine⟨BQ h2.1 h.kind,h2.2.1.2.1,fun f hf=>⟨(h2.2.1.2.2 f hf).1,?_⟩⟩;rw[gg];have h3:=xg hf;have h4:=jp r;have h5:=kP r;exact⟨by omega,by omega,(h2.2.1.2.2 f hf).2⟩
theorem gd.fld {r:Ty}(h:gd r){n:Str}{f:Fld}(hf:aj n r.fields=some f):f.name=n∧dA n=true∧bq f.ty=true:=by obtain⟨h1,h2⟩:=cY hf;have:=h.parts.2.2 f h2;exact⟨h1,h1 ▸ this.1,this.2⟩
theorem gd.fieldR {r:Ty}(h:gd r)(n:Str):fieldR r n=aj n r.fields:=by unfold V.fieldR;rw[if_pos h.kind]
theorem am (l:List Fld):(d8 l).fields=l:=rfl
theorem At (l:List Fld):(d8 l).kind=1:=rfl
theorem im {t:Ty}(h:bq t=true)(hk:t.kind=2∨t.kind=3):∃u,t=.mk t.kind t.lo t.hi [] [] [u]∧bq u=true:=by
 obtain⟨h1,h2,h3⟩:=(gg t).1 h;have h4:=jp t;have h5:=kP t;obtain⟨k,lo,hi,ns,fs,ts⟩:=t;simp only[Ty.kind,Ty.fields,Ty.of,Ty.lo,Ty.hi] at *
 rw[gS,Bool.and_eq_true,if_neg (by omega),if_pos hk,Bool.and_eq_true,Bool.and_eq_true,Bool.and_eq_true] at h3;obtain⟨h6,⟨⟨h7,_⟩,_⟩,h8⟩:=h3;have k1:¬k=1:=by omega
 have k7:¬k=7:=by omega
 simp[nA,Ty.kind,Ty.names,Ty.of,Ty.lo,Ty.hi,Ty.fields,k1,k7] at h6;obtain⟨⟨⟨e1,e2⟩,_⟩,_⟩:=h6;subst e1;subst e2
 match ts,h7,h8 with
 |[u],_,h8=>refine⟨u,rfl,?_⟩;rw[gg];have h9:=Ca (l:=[u]) (t:=u) (by simp);exact⟨by omega,by omega,h8⟩
theorem ri {l m:List Fld}(hl:fu l)(hm:fu m)(h:∀n,aj n l=aj n m):d8 l=d8 m:=by rw[ry hl hm h]
theorem Fld.eta (f:Fld):f=.mk f.name f.opt f.ty:=by cases f;rfl
def gE (a:Str)(t:Ty)(l:List Fld):List Fld:=dz (.mk a false t) (br a l)
inductive Did (s:Lns)(r:Ty):Ty→Prop
 |ren (f:Fld) (hk:s.kind=1) (hf:aj s.a r.fields=some f) (hn:dA s.b=true) (hb:aj s.b r.fields=none):Did s r (d8 (dz (.mk s.b f.opt f.ty) (br s.a r.fields)))
 |add (hk:s.kind=2) (hn:dA s.a=true) (ha:aj s.a r.fields=none) (he:eQ s.ty s.doc=0):Did s r (d8 (dz (.mk s.a false s.ty) r.fields))
 |rem (f:Fld) (hk:s.kind=3) (hf:aj s.a r.fields=some f) (ho:f.opt=false) (ht:f.ty=s.ty) (he:eQ s.ty s.doc=0):Did s r (d8 (br s.a r.fields))
 |hoist (f g:Fld) (hk:s.kind=4) (hf:aj s.a r.fields=some f) (ho:f.opt=false) (ht:f.ty.kind=1) (hg:aj s.b f.ty.fields=some g) (hgo:g.opt=false) (hb:aj s.b r.fields=none):Did s r (d8 (dz g (gE s.a (d8 (br s.b f.ty.fields)) r.fields)))
 |plunge (f g:Fld) (hk:s.kind=5) (hf:aj s.a r.fields=some f) (ho:f.opt=false) (hg:aj s.b r.fields=some g) (hgo:g.opt=false) (ht:f.ty.kind=1) (hab:s.a≠s.b) (hb:aj s.b f.ty.fields=none):Did s r (d8 (br s.b (gE s.a (d8 (dz g f.ty.fields)) r.fields)))
 |wrap (f:Fld) (hk:s.kind=6) (hf:aj s.a r.fields=some f) (ho:f.opt=false) (hs:eG f.ty=true):Did s r (d8 (gE s.a (.mk 3 1 1 [] [] [f.ty]) r.fields))
 |head (f:Fld) (t:Ty) (ns:List Str) (fs:List Fld) (ts:List Ty) (hk:s.kind=7) (hf:aj s.a r.fields=some f) (ho:f.opt=false) (ht:f.ty=.mk 3 1 1 ns fs (t::ts)) (hs:eG t=true):Did s r (d8 (gE s.a t r.fields))
 |conv (f:Fld) (hk:s.kind=8) (hf:aj s.a r.fields=some f) (ho:f.opt=false) (ht:f.ty.kind=4) (hs:jq s.swaps f.ty=0):Did s r r
 |ins (f:Fld) (t:Ty) (hk:s.kind=9) (hf:aj s.a r.fields=some f) (ho:f.opt=false) (ht:f.ty.kind=1) (hs:bO s.subs f.ty 0=.ok t):Did s r (d8 (gE s.a t r.fields))
 |each (f:Fld) (lo hi:Int) (ns:List Str) (fs:List Fld) (t:Ty) (ts:List Ty) (u:Ty) (hk:s.kind=10) (hf:aj s.a r.fields=some f) (ho:f.opt=false) (ht:f.ty=.mk 2 lo hi ns fs (t::ts)) (htk:t.kind=1) (hs:bO s.subs t 0=.ok u) :
   Did s r (d8 (gE s.a (.mk 2 lo hi ns fs [u]) r.fields))
theorem qu (s:Lns){r r':Ty}(hr:r.kind=1)(h:fl s r=.ok r'):Did s r r':=by
 obtain⟨k,a,b,ty,d,sw,subs⟩:=s;rw[fl] at h;have hR:∀n,fieldR r n=aj n r.fields:=fun n=>by unfold fieldR;rw[if_pos hr]
 simp only[hR] at h;by_cases k2:k=2
 ·subst k2;simp only[if_true] at h;split at h
  ·cases h
  ·rename_i h1;split at h
   ·cases h
   ·rename_i h2;split at h
    ·rename_i h3;cases h;exact .add rfl (by simpa[Lns.a] using h1) (by simpa[Lns.a] using h2) h3
    ·cases h
 rw[if_neg k2] at h;by_cases hk:k=1∨(3≤k∧k≤10);case neg=>rw[if_neg hk] at h;cases h
 rw[if_pos hk] at h;split at h
 ·cases h
 rename_i f hf;by_cases ho:f.opt=true∧k≠1;case pos=>rw[if_pos ho] at h;cases h
 rw[if_neg ho] at h;have ho':k≠1→f.opt=false:=fun hk=>by
  cases hfo:f.opt with
  |false=>rfl
  |true=>exact(ho ⟨hfo,hk⟩).elim
 by_cases k1:k=1
 ·subst k1;simp only[if_true] at h;split at h
  ·cases h
  ·rename_i h1;split at h
   ·cases h
   ·rename_i h2;cases h;exact .ren f rfl hf (by simpa[Lns.a,Lns.b,Lns.ty] using h1) (by simpa[Lns.a,Lns.b,Lns.ty] using h2)
 replace ho:=ho' k1;clear ho';rw[if_neg k1] at h;by_cases k3:k=3
 ·subst k3;simp only[if_true] at h;split at h
  ·cases h
  ·rename_i h1;split at h
   ·rename_i h2;cases h;exact .rem f rfl hf ho ((vH _ _).1 (by simpa[Lns.a,Lns.b,Lns.ty] using h1)) h2
   ·cases h
 rw[if_neg k3] at h;by_cases k4:k=4
 ·subst k4;simp only[if_true] at h;split at h
  ·cases h
  ·rename_i h1;split at h
   ·cases h
   ·rename_i g hg;split at h
    ·cases h
    ·rename_i h2;split at h
     ·cases h
     ·rename_i h3;cases h;exact .hoist f g rfl hf ho (by simpa[Lns.a,Lns.b,Lns.ty] using h1) hg (by simpa[Lns.a,Lns.b,Lns.ty] using h2) (by simpa[Lns.a,Lns.b,Lns.ty] using h3)
 rw[if_neg k4] at h;by_cases k5:k=5
 ·subst k5;simp only[if_true] at h;split at h
  ·cases h
  ·rename_i g hg;split at h
   ·cases h
   ·rename_i h1;split at h
    ·cases h
    ·rename_i h2;cases h;simp only[not_or] at h1;exact .plunge f g rfl hf ho hg (by simpa[Lns.a,Lns.b,Lns.ty] using h1.1) (by simpa[Lns.a,Lns.b,Lns.ty] using h1.2.1) h1.2.2 (by simpa[Lns.a,Lns.b,Lns.ty] using h2)
 rw[if_neg k5] at h;by_cases k6:k=6
 ·subst k6;simp only[if_true] at h;split at h
  ·rename_i h1;cases h;exact .wrap f rfl hf ho h1
  ·cases h
 rw[if_neg k6] at h;by_cases k7:k=7
 ·subst k7;simp only[if_true] at h;split at h
  ·rename_i ns fs t ts ht;split at h
   ·rename_i h1;cases h;exact .head f t ns fs ts rfl hf ho ht h1
   ·cases h
  ·cases h
 rw[if_neg k7] at h;by_cases k8:k=8
 ·subst k8;simp only[if_true] at h;split at h
  ·cases h
  ·rename_i h1;split at h
   ·rename_i h2;cases h;exact .conv f rfl hf ho (by simpa using h1) h2
   ·cases h
 rw[if_neg k8] at h;by_cases k9:k=9
 ·subst k9;simp only[if_true] at h;split at h
  ·cases h
  ·rename_i h1;split at h
   ·rename_i t ht;cases h;exact .ins f t rfl hf ho (by simpa using h1) ht
   ·cases h
 rw[if_neg k9] at h;have k10:k=10:=by omega
 split at h
 ·rename_i lo hi ns fs t ts ht;split at h
  ·cases h
  ·rename_i h1;split at h
   ·rename_i u hu;cases h;exact .each f lo hi ns fs t ts u k10 hf ho ht (by simpa using h1) hu
   ·cases h
 ·cases h
theorem F5 {s:Lns}{r r':Ty}(hr:r.kind=1)(h:Did s r r'):fl s r=.ok r':=by
 obtain⟨k,a,b,ty,d,sw,subs⟩:=s;have hR:∀n,fieldR r n=aj n r.fields:=fun n=>by unfold fieldR;rw[if_pos hr]
 rw[fl];simp only[hR];cases h with
 |ren f hk hf hn hb=>simp only[Lns.kind,Lns.a,Lns.b] at *;subst hk;simp[hf,hn,hb,dv,bE,am]
 |add hk hn ha he=>simp only[Lns.kind,Lns.a,Lns.b,Lns.ty,Lns.doc] at *;subst hk;simp[hn,ha,he,dv]
 |rem f hk hf ho ht he=>simp only[Lns.kind,Lns.a,Lns.b,Lns.ty,Lns.doc] at *;subst hk;simp[hf,ho,he,bE,(vH _ _).2 ht]
 |hoist f g hk hf ho ht hg hgo hb=>simp only[Lns.kind,Lns.a,Lns.b] at *;subst hk;simp[hf,ho,ht,hg,hgo,hb,dv,bE,eq,gE,am]
 |plunge f g hk hf ho hg hgo ht hab hb=>simp only[Lns.kind,Lns.a,Lns.b] at *;subst hk;simp[hf,ho,ht,hg,hgo,hab,hb,dv,bE,eq,gE,am]
 |wrap f hk hf ho hs=>simp only[Lns.kind,Lns.a,Lns.b] at *;subst hk;simp[hf,ho,hs,dv,bE,eq,gE,am]
 |head f t ns fs ts hk hf ho ht hs=>simp only[Lns.kind,Lns.a,Lns.b] at *;subst hk;simp[hf,ho,ht,hs,dv,bE,eq,gE,am]
 |conv f hk hf ho ht hs=>simp only[Lns.kind,Lns.a,Lns.swaps] at *;subst hk;simp[hf,ho,ht,hs]
 |ins f t hk hf ho ht hs=>simp only[Lns.kind,Lns.a,Lns.subs] at *;subst hk;simp[hf,ho,ht,hs,dv,bE,eq,gE,am]
 |each f lo hi ns fs t ts u hk hf ho ht htk hs=>simp only[Lns.kind,Lns.a,Lns.subs] at *;subst hk;simp[hf,ho,ht,htk,hs,dv,bE,eq,gE,am]
theorem sC:∀(l:List Lns)(r u:Ty)(k j:Nat),bO l r k=.ok u→bO l r j=.ok u
 |[],r,u,k,j,h=>by simpa[bO] using h
 |s::l,r,u,k,j,h=>by
  rw[bO] at h ⊢;split at h
  ·rename_i r' hr;try rw[hr]
   try simp only
   split at h
   ·rename_i h1;rw[if_pos h1];exact sC l r' u _ _ h
   ·cases h
  ·cases h
theorem eU {s:Lns}{l:List Lns}{r u:Ty}{k:Nat}:bO (s::l) r k=.ok u↔∃r1,fl s r=.ok r1∧bq r1=true∧bO l r1 0=.ok u:=by
 rw[bO];constructor
 ·intro h;split at h
  ·rename_i r' hr;split at h
   ·rename_i h1;exact⟨r',hr,h1,sC _ _ _ _ _ h⟩
   ·cases h
  ·cases h
 ·rintro⟨r1,h1,h2,h3⟩;rw[h1];simp only;rw[if_pos h2];exact sC _ _ _ _ _ h3
theorem nI:∀{l m:List Lns}{r u v:Ty},bO l r 0=.ok u→bO m u 0=.ok v→bO (l++m) r 0=.ok v
 |[],m,r,u,v,h,h'=>by simp only[bO,Except.ok.injEq] at h;subst h;exact h'
 |s::l,m,r,u,v,h,h'=>by obtain⟨r1,h1,h2,h3⟩:=eU.1 h;exact eU.2 ⟨r1,h1,h2,nI h3 h'⟩
theorem Did.kind {s:Lns}{r r':Ty}(h:Did s r r')(hr:r.kind=1):r'.kind=1:=by
 cases h with
 |conv=>exact hr
 |_=>rfl
theorem bx (n a:Str)(t:Ty)(l:List Fld):aj n (gE a t l)=if a=n then some (.mk a false t) else aj n l:=by unfold gE;rw[dZ _ _ _ (by rw[be];simp[Fld.name]),be];by_cases e:a=n<;>simp[e,Fld.name]
theorem fJ (a:Str)(t:Ty){l:List Fld}(h:fu l):fu (gE a t l):=fx (fv a h) (by rw[be];simp[Fld.name])
@[simp] theorem GI (s:Lns):(turnN s).kind=dC s.kind:=by cases s;rfl
@[simp] theorem kB (s:Lns):(turnN s).a=if s.kind=1 then s.b else s.a:=by cases s;rfl
@[simp] theorem AQ (s:Lns):(turnN s).b=if s.kind=1 then s.a else s.b:=by cases s;rfl
@[simp] theorem Cl (s:Lns):(turnN s).ty=s.ty:=by cases s;rfl
@[simp] theorem Gi (s:Lns):(turnN s).doc=s.doc:=by cases s;rfl
@[simp] theorem FE (s:Lns):(turnN s).swaps=s.swaps:=by cases s;rfl
@[simp] theorem GJ (s:Lns):(turnN s).subs=if s.kind=9∨s.kind=10 then ba s.subs else s.subs:=by cases s;rfl
def wB (l:List Lns):Prop:=∀r u,gd r→bO l r 0=.ok u→gd u∧bO (ba l) u 0=.ok r
theorem gr {s:Lns}{r r1 r2:Ty}(h:Did s r r1)(e:r1=r2):Did s r r2:=e ▸ h
theorem B8 {s:Lns}{r r':Ty}(hg:gd r)(hg':gd r')(h:Did s r r')(ih:wB s.subs):Did (turnN s) r' r:=by
 obtain⟨hr,hsr,hfr⟩:=hg.parts;have key:∀l:List Fld,fu l→(∀n,aj n l=aj n r.fields)→d8 l=r:=fun l hl he=>(ri hl hsr he).trans hr.symm
 cases h with
 |ren f hk hf hn hb=>
  have hfa:=(hg.fld hf);have hab:s.b≠s.a:=fun e=>by rw[e,hf] at hb;cases hb
  have hd:aj (Fld.mk s.b f.opt f.ty).name (br s.a r.fields)=none:=(by rw[be];simp[Fld.name,hb]);have hF:∀n,aj n (dz (.mk s.b f.opt f.ty) (br s.a r.fields))=if s.b=n then some (.mk s.b f.opt f.ty) else if s.a=n then none else aj n r.fields:=fun n=>by rw[dZ _ _ _ hd,be];rfl
  have:=Did.ren (s:=turnN s) (r:=d8 (dz (.mk s.b f.opt f.ty) (br s.a r.fields))) (.mk s.b f.opt f.ty) (by simp[hk,dC]) (by rw[am,hF];simp[hk]) (by simp[hk,hfa.2.1]) (by rw[am,hF];simp[hk,hab]);refine gr this (key _ (fx (fv _ (fx (fv _ hsr) hd)) ?_) fun n=>?_)
  ·rw[be,am,hF];simp[Fld.name,hk,hab]
  ·rw[dZ _ _ _ (by rw[be,am,hF];simp[Fld.name,hk,hab]),be,am,hF];simp only[Fld.name,AQ,kB,hk,if_true,Fld.opt,Fld.ty];by_cases e1:s.a=n
   ·subst e1;rw[if_pos rfl,hf,Fld.eta f,hfa.1]
   ·by_cases e2:s.b=n
    ·subst e2;simp[e1,hb]
    ·simp[e1,e2]
 |add hk hn ha he=>
  have hF:∀n,aj n (dz (.mk s.a false s.ty) r.fields)=if s.a=n then some (.mk s.a false s.ty) else aj n r.fields:=fun n=>dZ _ _ _ ha
  have:=Did.rem (s:=turnN s) (r:=d8 (dz (.mk s.a false s.ty) r.fields)) (.mk s.a false s.ty) (by simp[hk,dC]) (by rw[am,hF];simp[hk]) rfl (by simp[Fld.ty]) (by simpa using he);refine gr this (key _ (fv _ (fx hsr ha)) fun n=>?_);rw[be,am,hF];simp only[kB,hk];by_cases e1:s.a=n
  ·subst e1;simp[ha]
  ·simp[e1]
 |rem f hk hf ho ht he=>
  have hfa:=(hg.fld hf);have hF:∀n,aj n (br s.a r.fields)=if s.a=n then none else aj n r.fields:=fun n=>be _ _ _
  have:=Did.add (s:=turnN s) (r:=d8 (br s.a r.fields)) (by simp[hk,dC]) (by simp[hk,hfa.2.1]) (by rw[am,hF];simp[hk]) (by simpa using he);refine gr this (key _ (fx (fv _ hsr) (by rw[am,hF];simp[Fld.name,hk])) fun n=>?_);rw[dZ _ _ _ (by rw[am,hF];simp[Fld.name,hk]),am,hF];simp only[Fld.name,kB,Cl,hk];by_cases e1:s.a=n
  ·subst e1;rw[hf,Fld.eta f,hfa.1,ho,ht];simp
  ·simp[e1]
 |hoist f g hk hf ho ht hg2 hgo hb=>
  have hfa:=(hg.fld hf);have gdf:gd f.ty:=⟨hfa.2.2,ht⟩;have hgb:=gdf.fld hg2;have hab:s.a≠s.b:=fun e=>by rw[←e,hf] at hb;cases hb
  have hd:aj g.name (gE s.a (d8 (br s.b f.ty.fields)) r.fields)=none:=(by rw[bx,hgb.1,if_neg hab,hb]);have hF:∀n,aj n (dz g (gE s.a (d8 (br s.b f.ty.fields)) r.fields))=if s.b=n then some g else if s.a=n then some (.mk s.a false (d8 (br s.b f.ty.fields))) else aj n r.fields:=fun n=>by rw[dZ _ _ _ hd,bx,hgb.1]
  have:=Did.plunge (s:=turnN s) (r:=d8 (dz g (gE s.a (d8 (br s.b f.ty.fields)) r.fields))) (.mk s.a false (d8 (br s.b f.ty.fields))) g (by simp[hk,dC]) (by rw[am,hF];simp[hk,hab.symm]) rfl (by rw[am,hF];simp[hk]) hgo rfl (by simp[hk,hab]) (by simp[Fld.ty,am,be,hk]);refine gr this (key _ (fv _ (fJ _ _ (fx (fJ _ _ hsr) hd))) fun n=>?_);rw[be,bx,am,hF];have hback:d8 (dz g (br s.b f.ty.fields))=f.ty:=by
   have hp:=gdf.parts;refine(ri (fx (fv _ hp.2.1) (by rw[be,hgb.1];simp)) hp.2.1 fun n=>?_).trans hp.1.symm;rw[dZ _ _ _ (by rw[be,hgb.1];simp),be,hgb.1];by_cases e:s.b=n
   ·subst e;simp[hg2]
   ·simp[e]
  have hh:d8 (dz g (Fld.mk s.a false (d8 (br s.b f.ty.fields))).ty.fields)=f.ty:=hback;rw[hh];simp only[kB,AQ,hk];simp only[show ¬((4:Int)=1) by omega,if_false];by_cases e1:s.a=n
  ·subst e1;simp[hab.symm];rw[hf,Fld.eta f,hfa.1,ho];rfl
  ·by_cases e2:s.b=n
   ·subst e2;simp[hb]
   ·simp[e1,e2]
 |plunge f g hk hf ho hg2 hgo ht hab hb=>
  have hfa:=(hg.fld hf);have hga:=(hg.fld hg2);have gdf:gd f.ty:=⟨hfa.2.2,ht⟩;have hF:∀n,aj n (br s.b (gE s.a (d8 (dz g f.ty.fields)) r.fields))=if s.b=n then none else if s.a=n then some (.mk s.a false (d8 (dz g f.ty.fields))) else aj n r.fields:=fun n=>by rw[be,bx]
  have hgn:aj g.name f.ty.fields=none:=(by rw[hga.1];exact hb);have:=Did.hoist (s:=turnN s) (r:=d8 (br s.b (gE s.a (d8 (dz g f.ty.fields)) r.fields))) (.mk s.a false (d8 (dz g f.ty.fields))) g (by simp[hk,dC]) (by rw[am,hF];simp[hk,hab.symm]) rfl rfl (by show aj (turnN s).b (dz g f.ty.fields)=some g;rw[dZ _ _ _ hgn,hga.1];simp[hk]) hgo (by rw[am,hF];simp[hk]);have hback:d8 (br s.b (dz g f.ty.fields))=f.ty:=by
   have hp:=gdf.parts;refine(ri (fv _ (fx hp.2.1 hgn)) hp.2.1 fun n=>?_).trans hp.1.symm;rw[be,dZ _ _ _ hgn,hga.1];by_cases e:s.b=n
   ·subst e;simp[hb]
   ·simp[e]
  have hd:aj g.name (gE (turnN s).a (d8 (br (turnN s).b (Fld.mk s.a false (d8 (dz g f.ty.fields))).ty.fields)) (d8 (br s.b (gE s.a (d8 (dz g f.ty.fields)) r.fields))).fields)=none:=(by rw[bx,am,hF,hga.1];simp[hk,hab]);refine gr this (key _ (fx (fJ _ _ (fv _ (fJ _ _ hsr))) hd) fun n=>?_);rw[dZ _ _ _ hd,bx,am,hF];have hb':(turnN s).b=s.b:=(by simp[hk]);have ha':(turnN s).a=s.a:=(by simp[hk]);have hh:d8 (br (turnN s).b (Fld.mk s.a false (d8 (dz g f.ty.fields))).ty.fields)=f.ty:=(by rw[hb'];exact hback);rw[hh,ha',hga.1];by_cases e1:s.b=n
  ·subst e1;simp[hg2]
  ·by_cases e2:s.a=n
   ·subst e2;simp[e1];rw[hf,Fld.eta f,hfa.1,ho];rfl
   ·simp[e1,e2]
 |wrap f hk hf ho hs=>
  have hfa:=(hg.fld hf);have:=Did.head (s:=turnN s) (r:=d8 (gE s.a (.mk 3 1 1 [] [] [f.ty]) r.fields)) (.mk s.a false (.mk 3 1 1 [] [] [f.ty])) f.ty [] [] [] (by simp[hk,dC]) (by rw[am,bx];simp[hk]) rfl rfl hs;refine gr this (key _ (fJ _ _ (fJ _ _ hsr)) fun n=>?_);rw[bx,am,bx];simp only[kB,hk];by_cases e1:s.a=n
  ·subst e1;simp;rw[hf,Fld.eta f,hfa.1,ho];rfl
  ·simp[e1]
 |head f t ns fs ts hk hf ho ht hs=>
  have hfa:=(hg.fld hf);obtain⟨u,hu,_⟩:=im hfa.2.2 (by rw[ht];exact .inr rfl);have hft:f.ty=.mk 3 1 1 [] [] [t]:=(by rw[ht] at hu ⊢;simp only[Ty.kind,Ty.lo,Ty.hi,Ty.mk.injEq,List.cons.injEq] at hu;obtain⟨_,_,_,e1,e2,e3,e4⟩:=hu;rw[e1,e2,e4]);have:=Did.wrap (s:=turnN s) (r:=d8 (gE s.a t r.fields)) (.mk s.a false t) (by simp[hk,dC]) (by rw[am,bx];simp[hk]) rfl hs;refine gr this (key _ (fJ _ _ (fJ _ _ hsr)) fun n=>?_);rw[bx,am,bx];simp only[kB,hk,Fld.ty];by_cases e1:s.a=n
  ·subst e1;simp;rw[hf,Fld.eta f,hfa.1,ho,hft]
  ·simp[e1]
 |conv f hk hf ho ht hs=>exact Did.conv f (by simp[hk,dC]) (by simp[hk,hf]) ho ht (by simpa using hs)
 |ins f t hk hf ho ht hs=>
  have hfa:=(hg.fld hf);obtain⟨i1,i2⟩:=ih f.ty t ⟨hfa.2.2,ht⟩ hs;have:=Did.ins (s:=turnN s) (r:=d8 (gE s.a t r.fields)) (.mk s.a false t) f.ty (by simp[hk,dC]) (by rw[am,bx];simp[hk]) rfl i1.kind (by simpa[hk,Fld.ty] using i2);refine gr this (key _ (fJ _ _ (fJ _ _ hsr)) fun n=>?_);rw[bx,am,bx];simp only[kB,hk];by_cases e1:s.a=n
  ·subst e1;simp;rw[hf,Fld.eta f,hfa.1,ho];rfl
  ·simp[e1]
 |each f lo hi ns fs t ts u hk hf ho ht htk hs=>
  have hfa:=(hg.fld hf);obtain⟨v,hv,hv2⟩:=im hfa.2.2 (by rw[ht];exact .inl rfl);have hft:ts=[]∧v=t:=(by rw[ht] at hv;simp only[Ty.kind,Ty.lo,Ty.hi,Ty.mk.injEq,List.cons.injEq] at hv;exact⟨hv.2.2.2.2.2.2,hv.2.2.2.2.2.1.symm⟩);obtain⟨rfl,rfl⟩:=hft;obtain⟨i1,i2⟩:=ih v u ⟨hv2,htk⟩ hs;have:=Did.each (s:=turnN s) (r:=d8 (gE s.a (.mk 2 lo hi ns fs [u]) r.fields)) (.mk s.a false (.mk 2 lo hi ns fs [u])) lo hi ns fs u [] v (by simp[hk,dC]) (by rw[am,bx];simp[hk]) rfl rfl i1.kind (by simpa[hk] using i2);refine gr this (key _ (fJ _ _ (fJ _ _ hsr)) fun n=>?_);rw[bx,am,bx];simp only[kB,hk];by_cases e1:s.a=n
  ·subst e1;simp;rw[hf,Fld.eta f,hfa.1,ho,ht]
  ·simp[e1]
theorem nM:∀l:List Lns,(∀s∈l,wB s.subs)→wB l
 |[],_=>fun r u hg h=>by simp only[bO,Except.ok.injEq] at h;subst h;exact⟨hg,rfl⟩
 |s::l,hs=>fun r u hg h=>by obtain⟨r1,h1,h2,h3⟩:=eU.1 h;have hd:=qu s hg.kind h1;have hg1:gd r1:=⟨h2,hd.kind hg.kind⟩;obtain⟨i1,i2⟩:=nM l (fun s hs'=>hs s (by simp[hs'])) r1 u hg1 h3;have hb:=B8 hg hg1 hd (hs s (by simp));exact⟨i1,by rw[ba];exact nI i2 (eU.2 ⟨r,F5 hg1.kind hb,hg.right,rfl⟩)⟩
theorem Gp (l:List Lns):wB l:=by
 have key:∀s:Lns,wB s.subs:=by
  intro s;induction s using Lns.ind with
  |h s ih=>exact nM s.subs ih
 exact nM l fun s _=>key s
def iX (g:Str→Doc→Nat):Flds→Nat
 |[]=>0
 |p::f=>g p.1 p.2+iX g f
section
variable (g:Str→Doc→Nat)
theorem eA {a:Str}{x:Doc}:∀{f:Flds},bI a f=none→iX g (ar a x f)=iX g f+g a x
 |[],_=>by simp[ar,iX]
 |(k,d)::f,h=>by
  rw[cc] at h;by_cases e:k=a
  ·simp[e] at h
  ·simp only[e,if_false] at h;simp only[ar,e,if_false,iX,eA h];omega
theorem eB {a:Str}{x y:Doc}:∀{f:Flds},bI a f=some y→iX g (ar a x f)+g a y=iX g f+g a x
 |[],h=>by simp[bI] at h
 |(k,d)::f,h=>by
  rw[cc] at h;by_cases e:k=a
  ·simp only[e,if_true,Option.some.injEq] at h;subst h;subst e;simp only[ar,if_true,iX];omega
  ·simp only[e,if_false] at h;have:=eB (x:=x) h;simp only[ar,e,if_false,iX];omega
theorem iD {a:Str}{y:Doc}:∀{f:Flds},bI a f=some y→iX g (dq a f)+g a y=iX g f
 |[],h=>by simp[bI] at h
 |(k,d)::f,h=>by
  rw[cc] at h;by_cases e:k=a
  ·simp only[e,if_true,Option.some.injEq] at h;subst h;subst e;simp only[dq,if_true,iX];omega
  ·simp only[e,if_false] at h;have:=iD h;simp only[dq,e,if_false,iX];omega
theorem uV (p:Str×Doc):∀f:Flds,iX g (mu p f)=g p.1 p.2+iX g f
 |[]=>rfl
 |q::f=>by
  rw[mu];split
  ·rfl
  ·simp only[iX,uV p f];omega
theorem nX:∀f:Flds,iX g (cQ f)=iX g f
 |[]=>rfl
 |p::f=>by rw[cQ,uV,nX f];rfl
end
def wE (n:Str)(x:Doc):Nat:=n.length+1+wD x
theorem gW:∀f:Flds,wF f=iX wE f
 |[]=>rfl
 |(n,x)::f=>by simp only[wF,iX,wE,gW f]
theorem wKD:∀f:Flds,cw (f.map (·.1))+wDs (f.map (·.2))=iX wE f
 |[]=>rfl
 |(n,x)::f=>by have:=wKD f;simp only[List.map_cons,cw,wDs,iX,wE] at *;omega
theorem iF (f:Flds):wD (ay f)=wF f+1:=by unfold ay;rw[wD,List.length_nil,Nat.zero_add,wKD,nX,gW]
mutual
def cR:Doc→Nat
 |.mk k _ _ _ ds=>(if k=1 then 1 else 0)+cRs ds
def cRs:List Doc→Nat
 |[]=>0
 |d::r=>cR d+cRs r
end
def cE (_:Str)(x:Doc):Nat:=cR x
def cF (f:Flds):Nat:=iX cE f
theorem zb:∀f:Flds,cRs (f.map (·.2))=cF f
 |[]=>rfl
 |(n,x)::f=>by have:=zb f;simp only[List.map_cons,cRs,cF,iX,cE] at *;omega
theorem nb (f:Flds):cR (ay f)=1+cF f:=by unfold ay;rw[cR,zb,if_pos rfl];unfold cF;rw[nX]
theorem rn:∀l:List Doc,lD l=true↔∀x∈l,rightD x=true
 |[]=>by simp[lD]
 |d::l=>by rw[lD,Bool.and_eq_true,rn l];simp
theorem d9 (d:Doc):rightD d=true↔fH d=true∧fi (decide (d.kind=1)) none d.keys=true∧∀x∈d.kids,rightD x=true:=by obtain⟨k,n,s,ks,ds⟩:=d;rw[rightD,Bool.and_eq_true,Bool.and_eq_true,rn,and_assoc];exact Iff.rfl
theorem eV (d:Doc):dS d=true↔je d≤12∧dG d≤512∧rightD d=true:=by unfold dS;simp[and_assoc]
theorem kX {n:Str}:∀{ks:List Str}{ds:List Doc}{x:Doc},eL n ks ds=some x→x∈ds
 |[],_,_,h=>by simp[eL] at h
 |_::_,[],_,h=>by simp[eL] at h
 |k::ks,d::ds,x,h=>by
  rw[eL] at h;split at h
  ·cases h;simp
  ·exact List.mem_cons_of_mem _ (kX h)
theorem uE {n:Str}:∀{ks:List Str}{ds:List Doc}{x:Doc},eL n ks ds=some x→n∈ks
 |[],_,_,h=>by simp[eL] at h
 |_::_,[],_,h=>by simp[eL] at h
 |k::ks,d::ds,x,h=>by
  rw[eL] at h;split at h
  ·rename_i e;simp[e]
  ·exact List.mem_cons_of_mem _ (uE h)
theorem ll (n:Str):∀fs:List Fld,rO n fs=(aj n fs).isSome
 |[]=>rfl
 |.mk m o t::r=>by rw[rO,dY,ll n r];by_cases e:m=n<;>simp[e,Fld.name]
def okA:Option Fld→Option Doc→Prop
 |some g,some x=>okT g.ty x=true
 |some g,none=>g.opt=true
 |none,some _=>False
 |none,none=>True
theorem rZ (d:Doc):∀fs:List Fld,vX fs d=true↔∀g∈fs,okA (some g) (eL g.name d.keys d.kids)
 |[]=>by simp[vX]
 |.mk n o t::r=>by rw[vX,Bool.and_eq_true,rZ d r];simp only[List.forall_mem_cons,Fld.name];cases eL n d.keys d.kids<;>simp[okA,Fld.opt,Fld.ty]
structure Tf (fs:List Fld)(f:Flds):Prop where
 nod:cH f
 ok:∀n,okA (aj n fs) (bI n f)
 rd:∀n x,bI n f=some x→rightD x=true
theorem Tf.has {fs:List Fld}{f:Flds}(h:Tf fs f){n:Str}{g:Fld}(hg:aj n fs=some g)(ho:g.opt=false):∃x,bI n f=some x∧okT g.ty x=true∧rightD x=true:=by
 have:=h.ok n;rw[hg] at this;cases hx:bI n f with
 |none=>rw[hx] at this;simp only[okA] at this;rw[ho] at this;cases this
 |some x=>rw[hx] at this;exact⟨x,rfl,this,h.rd n x hx⟩
theorem Tf.miss {fs:List Fld}{f:Flds}(h:Tf fs f){n:Str}(hg:aj n fs=none):bI n f=none:=by
 have:=h.ok n;rw[hg] at this;cases hx:bI n f with
 |none=>rfl
 |some x=>rw[hx] at this;exact this.elim
theorem Tf.eqM {fs:List Fld}{f g:Flds}(h:Tf fs f)(hn:cH g)(he:eqM g f):Tf fs g:=
 ⟨hn,fun n=>by rw[he n];exact h.ok n,fun n x hx=>h.rd n x (by rw[←he n];exact hx)⟩
theorem kz (t:Ty)(d:Doc):okT t d=(decide (d7 t d=0)&&(if t.kind=1 then vX t.fields d&&d.keys.all (fun s=>rO s t.fields) else if t.kind=2∨t.kind=3 then sv t.of d else true)):=by cases t;rfl
theorem j6 {t:Ty}{d:Doc}(h:d7 t d=0):if t.kind=7 then d.kind=6 else t.kind=d.kind:=by
 by_cases hc:if t.kind=7 then d.kind=6 else t.kind=d.kind
 ·exact hc
 ·unfold d7 at h;rw[if_neg hc] at h;cases h
theorem pH {t:Ty}{x:Doc}(hr:rightD x=true)(hk:t.kind=1)(h:okT t x=true):Tf t.fields (ofD x)∧ay (ofD x)=x∧okK x=true:=by
 rw[kz,Bool.and_eq_true,if_pos hk,Bool.and_eq_true,decide_eq_true_eq,rZ,List.all_eq_true] at h;obtain⟨h1,h2,h3⟩:=h;have hxk:x.kind=1:=by have:=j6 h1;rw[if_neg (by omega)] at this;omega
 obtain⟨p1,p2,p3⟩:=(d9 x).1 hr;rw[hxk] at p2;simp only[decide_true] at p2;obtain⟨_,q2,q3,q4⟩:=(iP true none x.keys).1 p2;unfold fH at p1;rw[if_pos (.inl hxk)] at p1;simp only[Bool.and_eq_true,decide_eq_true_eq] at p1;have hnd:x.keys.Nodup:=q2.imp fun h=>lv h
 refine⟨⟨dR x,fun n=>?_,fun n y hy=>?_⟩,Ba hxk p1.1.1 p1.1.2 p1.2 q2,by unfold okK;simp[p1.2]⟩
 ·rw[oD hnd];cases hf:aj n t.fields with
  |some g=>obtain⟨e,hm⟩:=cY hf;have:=h2 g hm;rw[e] at this;exact this
  |none=>
   cases hy:eL n x.keys x.kids with
   |none=>trivial
   |some y=>have:=h3 n (uE hy);rw[ll,hf] at this;cases this
 ·rw[oD hnd] at hy;exact p3 y (kX hy)
theorem As (ks:List Str)(ds:List Doc)(h:ks.length=ds.length):fH (.mk 1 0 [] ks ds)=true:=by simp[fH,Doc.kind,Doc.num,Doc.str,Doc.keys,Doc.kids,h]
theorem vb {fs:List Fld}{f:Flds}(hs:fu fs)(hn:∀g∈fs,dA g.name=true)(h:Tf fs f):okT (d8 fs) (ay f)=true∧rightD (ay f)=true:=by
 have hmem:∀p∈cQ f,bI p.1 f=some p.2:=fun p hp=>ig h.nod (iR.1 hp)
 have hkid:∀n,eL n (ay f).keys (ay f).kids=bI n f:=fun n=>(me n (cQ f)).trans (jh h.nod n)
 have hname:∀p∈cQ f,dA p.1=true∧rO p.1 fs=true:=fun p hp=>by
  have h1:=hmem p hp;have h2:=h.ok p.1;rw[h1] at h2;cases hf:aj p.1 fs with
  |none=>rw[hf] at h2;exact h2.elim
  |some g=>obtain⟨e,hm⟩:=cY hf;rw[ll,hf];exact⟨e ▸ hn g hm,rfl⟩
 constructor
 ·rw[kz,Bool.and_eq_true,if_pos (At fs),Bool.and_eq_true,decide_eq_true_eq,rZ,List.all_eq_true];refine⟨rfl,fun g hg=>?_,fun s hs=>?_⟩
  ·rw[hkid];have:=h.ok g.name;rw[gB hs hg] at this;exact this
  ·obtain⟨p,hp,rfl⟩:=List.mem_map.1 (show s∈(cQ f).map (·.1) from hs);exact(hname p hp).2
 ·rw[d9];refine⟨As _ _ (by simp),?_,fun x hx=>?_⟩
  ·rw[show decide ((ay f).kind=1)=true from rfl,iP];have hso:=gG h.nod;have hnm:∀s∈(ay f).keys,dA s=true:=fun s hs=>by obtain⟨p,hp,rfl⟩:=List.mem_map.1 (show s∈(cQ f).map (·.1) from hs);exact(hname p hp).1
   refine⟨fun q hq=>(by cases hq),?_,fun _=>hnm,fun s hs=>?_⟩
   ·show((cQ f).map (·.1)).Pairwise _;rw[List.pairwise_map];exact hso
   ·have:=hnm s hs;unfold dA at this;simp only[Bool.and_eq_true,decide_eq_true_eq] at this;omega
  ·obtain⟨p,hp,rfl⟩:=List.mem_map.1 (show x∈(cQ f).map (·.2) from hx);exact h.rd _ _ (hmem p hp)
theorem yd {t:Ty}{f:Flds}(hg:gd t)(h:Tf t.fields f):okT t (ay f)=true∧rightD (ay f)=true:=by obtain⟨h1,h2,h3⟩:=hg.parts;have:=vb h2 (fun g hg=>(h3 g hg).1) h;rw[←h1] at this;exact this
theorem lB {k n:Int}{s:Str}{ks:List Str}{ds:List Doc}(hk:k=4∨k=5∨k=6)(h:fH (.mk k n s ks ds)=true):ks=[]∧ds=[]∧s.length≤256∧(k=4→s=[]):=by
 have n1:¬(k=1∨k=2):=by omega
 have n2:¬k=3:=by omega
 have h':(if ks.length+ds.length>0 then false else if k=4 then decide (s=[]) else if k=5 then decide (s=[])&&(decide (n=0)||decide (n=1)) else if k=6 then decide (n=0)&&decide (s.length≤256) else false)=true:=by
  have e:fH (.mk k n s ks ds)=if k=1∨k=2 then decide (n=0)&&decide (s=[])&&decide (ks.length=ds.length)
   else if k=3 then decide (n=0)&&decide (s=[])&&decide (ks.length=0)
   else if ks.length+ds.length>0 then false else if k=4 then decide (s=[]) else if k=5 then decide (s=[])&&(decide (n=0)||decide (n=1)) else if k=6 then decide (n=0)&&decide (s.length≤256) else false:=rfl
  rw[e,if_neg n1,if_neg n2] at h;exact h
 by_cases h0:ks.length+ds.length>0
 ·rw[if_pos h0] at h';cases h'
 rw[if_neg h0] at h';refine⟨List.eq_nil_of_length_eq_zero (by omega),List.eq_nil_of_length_eq_zero (by omega),?_⟩;rcases hk with rfl|rfl|rfl
 ·simp at h';subst h';simp
 ·simp at h';obtain⟨rfl,_⟩:=h';simp
 ·simp at h';exact⟨h'.2,by omega⟩
theorem iC {t:Ty}{x:Doc}(hs:eG t=true)(h:okT t x=true)(hr:rightD x=true):wD x≤257∧cR x=0∧dS x=true:=by
 rw[kz,Bool.and_eq_true,decide_eq_true_eq] at h;have h1:=j6 h.1;unfold eG at hs;simp only[Bool.and_eq_true,decide_eq_true_eq] at hs;have hk:x.kind=4∨x.kind=5∨x.kind=6:=by
  split at h1
  ·exact .inr (.inr h1)
  ·omega
 have h2:=((d9 x).1 hr).1;have hr':=hr;obtain⟨k,n,s,ks,ds⟩:=x;simp only[Doc.kind] at hk;obtain⟨rfl,rfl,hl,_⟩:=lB hk h2;refine⟨by simp[wD,cw,wDs];omega,?_,(eV _).2 ⟨by simp[je,gO],by simp[dG,cf],hr'⟩⟩;rw[cR,if_neg (by omega)];simp[cRs]
abbrev Flt:=List Str×Int
def cn (g:Doc→List Str→List Flt):List Str→List Doc→List Str→List Flt
 |k::ks,d::ds,p=>g d (p++[k])++cn g ks ds p
 |_,_,_=>[]
def dE (it:Nat→Str)(g:Doc→List Str→List Flt):List Doc→Nat→List Str→List Flt
 |d::ds,i,p=>g d (p++[it i])++dE it g ds (i+1) p
 |[],_,_=>[]
def di (fs:List Fld)(p:List Str):List Str→List Flt
 |[]=>[]
 |s::r=>(if rO s fs then [] else [(p++[s],10)])++di fs p r
mutual
def aX (it:Nat→Str):Ty→Doc→List Str→List Flt
 |.mk k lo hi ns fs ts,d,p=>
  (if d7 (.mk k lo hi ns fs ts) d=0 then [] else [(p,d7 (.mk k lo hi ns fs ts) d)]) ++
  (if d7 (.mk k lo hi ns fs ts) d=7 then []
   else if k=1 then bh it fs d p++di fs p d.keys
   else if k=2 then jO it ts d p
   else if k=3 then jP it ts d p
   else [])
def bh (it:Nat→Str):List Fld→Doc→List Str→List Flt
 |[],_,_=>[]
 |.mk n o t::r,d,p=>(match eL n d.keys d.kids with
  |some x=>aX it t x (p++[n])
  |none=>if o then [] else [(p++[n],9)])++bh it r d p
def jO (it:Nat→Str):List Ty→Doc→List Str→List Flt
 |[],_,_=>[]
 |t::_,d,p=>cn (fun x q=>aX it t x q) d.keys d.kids p
def jP (it:Nat→Str):List Ty→Doc→List Str→List Flt
 |[],_,_=>[]
 |t::_,d,p=>dE it (fun x q=>aX it t x q) d.kids 0 p
end
theorem kh (it:Nat→Str)(t:Ty)(d:Doc)(p:List Str):aX it t d p=(if d7 t d=0 then [] else [(p,d7 t d)])++(if d7 t d=7 then [] else if t.kind=1 then bh it t.fields d p++di t.fields p d.keys else if t.kind=2 then jO it t.of d p else if t.kind=3 then jP it t.of d p else []):=by obtain⟨k,lo,hi,ns,fs,ts⟩:=t;rw[aX];rfl
theorem tb {g:Doc→List Str→List Flt}{q:Doc→Prop}:∀{ks:List Str}{ds:List Doc}{p:List Str},ks.length=ds.length→(∀d∈ds,∀p,g d p=[]↔q d)→(cn g ks ds p=[]↔∀d∈ds,q d)
 |[],[],p,_,_=>by simp[cn]
 |[],_::_,_,h,_=>by simp at h
 |_::_,[],_,h,_=>by simp at h
 |k::ks,d::ds,p,h,hg=>by rw[cn,List.append_eq_nil_iff,hg d (by simp),tb (ks:=ks) (ds:=ds) (by simpa using h) (fun x hx=>hg x (by simp[hx]))];simp
theorem td {it:Nat→Str}{g:Doc→List Str→List Flt}{q:Doc→Prop}:∀{ds:List Doc}{i:Nat}{p:List Str},(∀d∈ds,∀p,g d p=[]↔q d)→(dE it g ds i p=[]↔∀d∈ds,q d)
 |[],i,p,_=>by simp[dE]
 |d::ds,i,p,hg=>by rw[dE,List.append_eq_nil_iff,hg d (by simp),td (ds:=ds) (fun x hx=>hg x (by simp[hx]))];simp
theorem uK {fs:List Fld}{p:List Str}:∀{ks:List Str},di fs p ks=[]↔∀s∈ks,rO s fs=true
 |[]=>by simp[di]
 |s::r=>by rw[di,List.append_eq_nil_iff,uK (ks:=r)];cases h:rO s fs<;>simp[h]
theorem pa {it:Nat→Str}{d:Doc}:∀{fs:List Fld}{p:List Str},(∀f∈fs,∀x∈d.kids,∀p,aX it f.ty x p=[]↔okT f.ty x=true)→(bh it fs d p=[]↔vX fs d=true)
 |[],p,_=>by simp[bh,vX]
 |.mk n o t::r,p,h=>by
  rw[bh,vX,List.append_eq_nil_iff,Bool.and_eq_true,pa (fs:=r) fun f hf=>h f (by simp[hf])];cases hk:eL n d.keys d.kids with
  |some x=>have:=h (.mk n o t) (by simp) x (kX hk) (p++[n]);simp only[Fld.ty] at this;simp only[this]
  |none=>cases o<;>simp
theorem nv {d:Doc}(h:rightD d=true)(hk:d.kind=1∨d.kind=2):d.keys.length=d.kids.length:=by have h1:=((d9 d).1 h).1;unfold fH at h1;rw[if_pos hk] at h1;simp only[Bool.and_eq_true,decide_eq_true_eq] at h1;exact h1.2
theorem rE {t:Ty}{d:Doc}(h:d7 t d≠7):if t.kind=7 then d.kind=6 else t.kind=d.kind:=by
 by_cases hc:if t.kind=7 then d.kind=6 else t.kind=d.kind
 ·exact hc
 ·unfold d7 at h;rw[if_neg hc] at h;exact(h rfl).elim
theorem ya (it:Nat→Str)(t:Ty):∀(d:Doc)(p:List Str),rightD d=true→(aX it t d p=[]↔okT t d=true):=by
 induction t using Ty.ind with
 |h t ih1 ih2=>
 intro d p hd;rw[kh,kz,List.append_eq_nil_iff,Bool.and_eq_true,decide_eq_true_eq];by_cases h0:d7 t d=0;case neg=>simp[h0]
 have hkids:=((d9 d).1 hd).2.2;have hk:=j6 h0;rw[if_pos h0,if_neg (by omega)];simp only[h0,true_and];by_cases k1:t.kind=1
 ·rw[if_pos k1,if_pos k1,List.append_eq_nil_iff,uK,pa fun f hf x hx p=>ih1 f hf x p (hkids x hx),Bool.and_eq_true,List.all_eq_true]
 rw[if_neg k1,if_neg k1];by_cases k2:t.kind=2
 ·rw[if_pos k2,if_pos (.inl k2)];have hl:=nv hd (by rw[if_neg (by omega)] at hk;omega);cases ho:t.of with
  |nil=>simp[jO,sv]
  |cons u r=>rw[jO,sv,List.all_eq_true,tb hl fun x hx p=>ih2 u (by rw[ho];simp) x p (hkids x hx)]
 rw[if_neg k2];by_cases k3:t.kind=3
 ·rw[if_pos k3,if_pos (.inr k3)];cases ho:t.of with
  |nil=>simp[jP,sv]
  |cons u r=>rw[jP,sv,List.all_eq_true,td fun x hx p=>ih2 u (by rw[ho];simp) x p (hkids x hx)]
 ·rw[if_neg k3,if_neg (by omega)];simp
def bad (l:List Flt):Prop:=∀x∈l,x.2≠0
theorem bad.app {l m:List Flt}(h:bad l)(k:bad m):bad (l++m):=fun x hx=>by
 rcases List.mem_append.1 hx with hx|hx
 ·exact h x hx
 ·exact k x hx
theorem bad.nil:bad []:=fun x hx=>by cases hx
theorem bad.one {p:List Str}{e:Int}(h:e≠0):bad [(p,e)]:=fun x hx=>by simp at hx;subst hx;exact h
theorem tD {g:Doc→List Str→List Flt}(h:∀d p,bad (g d p)):∀(ks:List Str)(ds:List Doc)(p:List Str),bad (cn g ks ds p)
 |[],_,_=>by rw[cn];exact bad.nil;simp
 |_::_,[],_=>by rw[cn];exact bad.nil;simp
 |k::ks,d::ds,p=>by rw[cn];exact(h _ _).app (tD h ks ds p)
theorem tE {it:Nat→Str}{g:Doc→List Str→List Flt}(h:∀d p,bad (g d p)):∀(ds:List Doc)(i:Nat)(p:List Str),bad (dE it g ds i p)
 |[],_,_=>by rw[dE];exact bad.nil
 |d::ds,i,p=>by rw[dE];exact(h _ _).app (tE h ds (i+1) p)
theorem tF {fs:List Fld}{p:List Str}:∀ks:List Str,bad (di fs p ks)
 |[]=>bad.nil
 |s::r=>by
  rw[di];refine bad.app ?_ (tF r);split
  ·exact bad.nil
  ·exact bad.one (by decide)
theorem pU {it:Nat→Str}{d:Doc}:∀{fs:List Fld}{p:List Str},(∀f∈fs,∀x p,bad (aX it f.ty x p))→bad (bh it fs d p)
 |[],p,_=>by rw[bh];exact bad.nil
 |.mk n o t::r,p,h=>by
  rw[bh];refine bad.app ?_ (pU fun f hf=>h f (by simp[hf]));split
  ·exact h (.mk n o t) (by simp) _ _
  ·split
   ·exact bad.nil
   ·exact bad.one (by decide)
theorem yN (it:Nat→Str)(t:Ty):∀(d:Doc)(p:List Str),bad (aX it t d p):=by
 induction t using Ty.ind with
 |h t ih1 ih2=>
 intro d p;rw[kh];refine bad.app ?_ ?_
 ·split
  ·exact bad.nil
  ·rename_i h;exact bad.one h
 ·split
  ·exact bad.nil
  ·split
   ·exact(pU fun f hf x p=>ih1 f hf x p).app (tF _)
   ·split
    ·cases ho:t.of with
     |nil=>rw[jO];exact bad.nil
     |cons u r=>rw[jO];exact tD (fun x q=>ih2 u (by rw[ho];simp) x q) _ _ _
    ·split
     ·cases ho:t.of with
      |nil=>rw[jP];exact bad.nil
      |cons u r=>rw[jP];exact tE (fun x q=>ih2 u (by rw[ho];simp) x q) _ _ _
     ·exact bad.nil
end Go.V
set_option maxHeartbeats 4000000
namespace Go.V
open Go Go.Proofs
attribute [local irreducible] W bM WD aO yl aU bU
section
variable (Γ:Glo Tryz.prog)
attribute [local simp] veq bD eD V.del
def dm (x:Flt):List Val:=[sls aZ x.1,.int .i64 x.2]
theorem BT (x:Flt):(dm x).length=2:=rfl
theorem dx:∀l:List Flt,(row dm l).length=l.length*2
 |[]=>rfl
 |x::l=>by rw[cM,List.length_append,dx l,BT,List.length_cons];omega
theorem cG:∀l:List Flt,aE (row dm l)=true
 |[]=>rfl
 |x::l=>by rw[cM];simp[dm,aE,cG l,Val.closed]
theorem fW:∀l:List Flt,ae (row dm l)=true
 |[]=>rfl
 |x::l=>by rw[cM];simp[dm,fW l]
@[simp] theorem NF (c:List Val)(n:Nat)(k:Option Nat)(e:Int):cU Tryz.prog 77 [(0,.sl c n k),(1,.int .i64 e)]=some [.sl c n k,.int .i64 e]:=by kernel_rfl
@[simp] theorem Kw (c:List Val)(n:Nat)(k:Option Nat)(e:Int)(h:Heap)(i:Nat):av Tryz.prog 141 1 [(0,.ag [.sl c n k,.int .i64 e])] h i=some (.so i 0 1 (some 1),V.put h i (.cells [.sl c n k,.int .i64 e] 77 false)):=by kernel_rfl
theorem f142 (fs:List Flt)(p:List Str)(e:Int)(hb:fs.length<1000000000):CallOk Tryz.prog Γ 142 [sls aZ p,.int .i64 e,.pr 0 0] (gH dm 1 77 fs++[(0,.cells [gV 1 fs] 141 false)]) 2 true (.tp []) (gH dm 2 77 (fs++[(p,e)])++[(0,.cells [gV 2 (fs++[(p,e)])] 141 false)]) 3:=by
 rw[jQ,ga];rcases cz dm 2 dx cG fW 1 77 fs with ⟨rfl,e1,e2,e3⟩|⟨n,cs,hn,hcs,e1,e2,e3,c1,c2,c3⟩<;>rw[e1,e2]<;>simp only[List.nil_append,List.cons_append]
 ·refine bc Tryz.func142 rfl (by simp[Tryz.f142]) (by omega) (by simp[aS,aV]) (by simp[bW,cN,aS,aV,dm]) ?_;intro a hl ha;replace hl:a.length=11:=hl;have g0:=ha 0 _ rfl;have g1:=ha 1 _ rfl;have g2:=ha 2 _ rfl;clear ha;refine GG ?_;exact⟨by simp,[(7,2)],.tp [],[(7,.cells [sls aZ p,.int .i64 e] 77 true),(0,.cells [.so 7 0 1 none] 141 false)],_,_,by simp,by simp,by simp[Tryz.f142],by simp,by simp[dm],by (repeat (first|exact aP|refine aK (by simp[V.get, *]) ?_)),Clo.refl _ _⟩
 ·have hn2:(n+1)*32≤140737488355328:=(by unfold Hid at hn;omega);have hnl:¬(n+1)*2≤n*2:=(by omega);have hta:List.take (n*2) cs=cs:=List.take_of_length_le (by omega);unfold Hid at hn hcs;rw[←hn,←hcs];have hlo:=fun N=>aD (N:=N) _ c2
  clear e1 e2 e3 hn hcs;refine bc Tryz.func142 rfl (by simp[Tryz.f142]) (by omega) (by simp[aS,aV]) (by simp[bW,cN,aS,aV,dm,hlo]) ?_;intro a hl ha;replace hl:a.length=11:=hl;have g0:=ha 0 _ rfl;have g1:=ha 1 _ rfl;have g2:=ha 2 _ rfl;clear ha;refine GG ?_;exact⟨by simp,[(7,2)],.tp [],[(7,.cells (cs++[sls aZ p,.int .i64 e]) 77 true),(0,.cells [.so 7 0 (n+1) none] 141 false)],_,_,by simp,by simp,by simp[Tryz.f142],by simp,by simp[dm,aH, *],by (repeat (first|exact aP|refine aK (by simp[V.get, *]) ?_)),Clo.refl _ _⟩
end
section
variable (Γ:Glo Tryz.prog)
mutual
theorem x6 {τ:Nat→Nat}{M:Nat}(hτ:∀i,i<M→τ i=i):∀v:Val,aS M v=true→ax τ v=v
 |.bool _,_|.int _ _,_|.str _,_|.nilp,_|.nils,_|.nilm,_|.nilf,_|.nili,_|.sle,_|.jk _,_=>by simp[ax]
 |.pp cs,h=>by simp only[aS,ax] at *;rw[il hτ cs h]
 |.pr i o,h=>by simp only[aS,ax,decide_eq_true_eq] at *;rw[hτ i h]
 |.sl cs n k,h=>by simp only[aS,ax] at *;rw[il hτ cs h]
 |.so i o n k,h=>by simp only[aS,ax,decide_eq_true_eq] at *;rw[hτ i h]
 |.mp i,h=>by simp only[aS,ax,decide_eq_true_eq] at *;rw[hτ i h]
 |.fn f us cs,h=>by simp only[aS,ax,Bool.and_eq_true] at *;rw[il hτ us h.1,il hτ cs h.2]
 |.ifc t v,h=>by simp only[aS,ax] at *;rw[x6 hτ v h]
 |.ag cs,h=>by simp only[aS,ax] at *;rw[il hτ cs h]
 |.tp cs,h=>by simp only[aS,ax] at *;rw[il hτ cs h]
theorem il {τ:Nat→Nat}{M:Nat}(hτ:∀i,i<M→τ i=i):∀l:List Val,aV M l=true→cK τ l=l
 |[],_=>rfl
 |v::l,h=>by simp only[aV,cK,Bool.and_eq_true] at *;rw[x6 hτ v h.1,il hτ l h.2]
end
mutual
theorem uH {M N:Nat}(hMN:M≤N):∀v:Val,aS M v=true→aS N v=true
 |.bool _,_|.int _ _,_|.str _,_|.nilp,_|.nils,_|.nilm,_|.nilf,_|.nili,_|.sle,_|.jk _,_=>by simp[aS]
 |.pp cs,h=>by simp only[aS] at *;exact gk hMN cs h
 |.pr i o,h=>by simp only[aS,decide_eq_true_eq] at *;omega
 |.sl cs n k,h=>by simp only[aS] at *;exact gk hMN cs h
 |.so i o n k,h=>by simp only[aS,decide_eq_true_eq] at *;omega
 |.mp i,h=>by simp only[aS,decide_eq_true_eq] at *;omega
 |.fn f us cs,h=>by simp only[aS,Bool.and_eq_true] at *;exact⟨gk hMN us h.1,gk hMN cs h.2⟩
 |.ifc t v,h=>by simp only[aS] at *;exact uH hMN v h
 |.ag cs,h=>by simp only[aS] at *;exact gk hMN cs h
 |.tp cs,h=>by simp only[aS] at *;exact gk hMN cs h
theorem gk {M N:Nat}(hMN:M≤N):∀l:List Val,aV M l=true→aV N l=true
 |[],_=>rfl
 |v::l,h=>by simp only[aV,Bool.and_eq_true] at *;exact⟨uH hMN v h.1,gk hMN l h.2⟩
end
def BxY (o:Nat)(fs:List Flt):Heap:=[(0,.cells [.fn 210 [] [.pr 3 0,.pr 2 0,.pr 0 0,.pr 1 0]] 255 false),(1,.cells [.fn 207 [] []] 256 false),(2,.cells [.fn 208 [] [.pr 0 0,.pr 1 0,.pr 3 0]] 255 false),(3,.cells [.fn 142 [] [.pr 4 0]] 213 false),(4,.cells [gV o fs] 141 false)]
def Hc (o:Nat)(fs:List Flt):Heap:=gH dm o 77 fs++BxY o fs
theorem bK {τ:Nat→Nat}(hτ:∀i,i<5→τ i=i)(o:Nat)(fs:List Flt):bJ τ (Hc o fs)=Hc (τ o) fs:=by unfold Hc BxY;rw[ai,qV dm τ cG];simp[bJ,b9,cK,ax,qW,hτ]
theorem eC {o:Nat}(h:5≤o)(fs:List Flt):cu (Hc o fs)=true:=ii dm (by simp[BxY];omega) (by simp[BxY])
theorem ic {N o:Nat}(h:5≤N)(ho:o<N)(fs:List Flt):bW N (Hc o fs)=true:=by refine Dy dm cG ho ?_;have:=vT (l:=fs) ho;simp[BxY,bW,cN,aV,aS,this];omega
theorem zk {N o:Nat}(h:5≤N)(ho:o<N)(fs:List Flt):co N (Hc o fs)=true:=by refine zl dm cG ho ?_;have:=vT (l:=fs) ho;simp[BxY,co,fg,aV,aS,this];omega
theorem CallOk.hc {f:FuncId}{vs:List Val}{r:Val}{fs gs:List Flt}(hk:CallOk Tryz.prog Γ f vs (Hc 5 fs) 6 true r (Hc 6 gs) 7)(hv:aV 5 vs=true)(hr:r.closed=true)(o N:Nat)(ho:5≤o)(hN:o<N):CallOk Tryz.prog Γ f vs (Hc o fs) N true r (Hc N gs) (N+1):=by
 have hv6:aV 6 vs=true:=by
  have key:∀l:List Val,aV 5 l=true→aV 6 l=true:=fun l h=>gk (by omega) l h
  exact key vs hv
 have:=hk.ren [0,1,2,3,4,o] N rfl (by rw[hv6,zk (by omega) (by omega)];rfl) (by simp;omega) (eC (by omega) gs);have hτ:∀i,i<5→tau [0,1,2,3,4,o] N i=i:=by
  intro i hi;unfold tau;rw[if_pos (by simp;omega)]
  match i,hi with
  |0,_|1,_|2,_|3,_|4,_=>rfl
 rw[il hτ vs hv,bK hτ,bK hτ,dB _ r hr] at this;have e1:tau [0,1,2,3,4,o] N 5=o:=rfl;have e2:tau [0,1,2,3,4,o] N 6=N:=by simp[tau]
 rw[e1,e2] at this;have e3:7-6+N=N+1:=by omega
 rwa[e3] at this
theorem Dt {h1 r:Heap}{N N' o:Nat}{t:TypeId}{α:Type}{c:α→List Val}{l:List α}(ho:N≤o∧o<N')(hr:∀i,(get r i).isSome→(get h1 i).isSome∨(N≤i∧i<N')):∀i,(get (gH c o t l++r) i).isSome→(get h1 i).isSome∨(N≤i∧i<N'):=by
 intro i hi;by_cases e:o=i
 ·subst e;exact .inr ho
 ·rw[fc c e] at hi;exact hr i hi
theorem GE {h r:Heap}{o:Nat}{t:TypeId}{α:Type}{c:α→List Val}{l:List α}(hr:∀i b,get r i=some b→get h i=some b):∀i b,get (gH c o t l++r) i=some b→get (gH c o t l++h) i=some b:=by
 intro i b hb;rw[eY] at hb ⊢;cases hg:get (gH c o t l) i with
 |some b'=>rw[hg] at hb;exact hb
 |none=>rw[hg] at hb;simp only[Option.none_or] at hb ⊢;exact hr i b hb
theorem f142h (fs:List Flt)(p:List Str)(e:Int)(hb:fs.length<1000000000):CallOk Tryz.prog Γ 142 [sls aZ p,.int .i64 e,.pr 4 0] (Hc 5 fs) 6 true (.tp []) (Hc 6 (fs++[(p,e)])) 7:=by
 have h1:=(f142 Γ fs p e hb).ren [4,5] 6 rfl (by rw[zl dm cG (by omega) (by have:=vT (N:=2) (o:=1) (l:=fs) (by omega);simp[co,fg,aV,this])];simp[aV,aS]) (by simp) (ii dm (by simp) (by simp));simp only[ai,qV dm _ cG] at h1;simp[bJ,b9,cK,ax,qW,tau,aH] at h1;refine h1.frame (hm:=Hc 6 (fs++[(p,e)])) ?_ ?_ ?_
 ·exact GE (by (repeat (first|exact aP|refine aK (by simp[V.get,BxY]) ?_)))
 ·exact Dt (by omega) (by (repeat (first|exact lu|refine kW (by left;rw[fc dm (by omega)];simp[V.get]) ?_)))
 ·intro i b hb;unfold Hc at hb;rw[eY] at hb;rw[eY];cases hg:get (gH dm 6 77 (fs++[(p,e)])) i with
  |some b'=>rw[hg] at hb;left;exact hb
  |none=>
   rw[hg] at hb;simp only[Option.none_or] at hb ⊢;have h6:i≠6:=(by intro e6;subst e6;rw[ga] at hg;simp[V.get] at hg);simp only[BxY,V.get] at hb ⊢;by_cases h4:i=4
   ·subst h4;simp at hb ⊢;exact .inl hb
   ·right;have h5:i<5:=by
     rcases Nat.lt_or_ge i 5 with h|h
     ·exact h
     ·rw[if_neg (by omega),if_neg (by omega),if_neg (by omega),if_neg (by omega),if_neg (by omega)] at hb;cases hb
    refine⟨?_,?_⟩
    ·unfold Hc;rw[fc dm (by omega)];simp only[BxY,V.get];rcases(by omega:i=0∨i=1∨i=2∨i=3) with rfl|rfl|rfl|rfl<;>simpa using hb
    ·rw[fc dm (by omega)];simp[V.get];omega
end
end Go.V
end
