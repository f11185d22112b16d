/-
  A part of a proof: P10 P11 Y6 Y7 Q1 Q2 L7 L8.
-/
import Derived.Test.YtkfjenbfbendhaaGreatDoorPk01
import Derived.Test.YtkfjenbfbendhaaGreatDoorPk15
import Derived.Test.YtkfjenbfbendhaaGreatDoorPk17
import Derived.Test.YtkfjenbfbendhaaGreatDoorPk19
import Derived.Test.YtkfjenbfbendhaaGreatDoorPk20
import Derived.Shelf.SlSortCmp.WholeK
import Derived.Shelf.Small.Strs
set_option linter.unusedSimpArgs false
set_option linter.unusedVariables false
section
namespace Go.V
theorem rv:∀l m:List Lns,bQ (l++m)=bQ l+bQ m
 |[],m=>by simp[bQ]
 |s::l,m=>by simp only[List.cons_append,bQ,rv l m];omega
theorem pZ:∀l m:List Lns,ak (l++m)=max (ak l) (ak m)
 |[],m=>by simp[ak]
 |s::l,m=>by simp only[List.cons_append,ak,pZ l m];omega
mutual
theorem zB:∀s:Lns,oW (turnN s)=oW s
 |.mk k a b t d sw l=>by
  rw[turnN,oW,oW];split
  ·exact mG l
  ·rfl
theorem mG:∀l:List Lns,bQ (ba l)=bQ l
 |[]=>rfl
 |s::r=>by have h1:=zB s;have h2:=mG r;rw[ba,rv,h2];simp only[bQ,h1];omega
end
mutual
theorem wa:∀s:Lns,kf (turnN s)=kf s
 |.mk k a b t d sw l=>by
  rw[turnN,kf,kf];split
  ·exact fR l
  ·rfl
theorem fR:∀l:List Lns,ak (ba l)=ak l
 |[]=>rfl
 |s::r=>by have h1:=wa s;have h2:=fR r;rw[ba,pZ,h2];simp only[ak,h1];omega
end
mutual
theorem za:∀d:Doc,cR d≤dG d
 |.mk k n s ks ds=>by have:=wP ds;rw[cR,dG];split<;>omega
theorem wP:∀l:List Doc,cRs l≤cf l
 |[]=>Nat.le_refl _
 |d::r=>by have:=za d;have:=wP r;rw[cRs,cf];omega
end
theorem zC (bk:Bool)(l:List Lns):bQ (om bk l)=bQ l:=by cases bk;exact rfl;exact mG l
theorem wc (bk:Bool)(l:List Lns):ak (om bk l)=ak l:=by cases bk;exact rfl;exact fR l
structure Lz (bk:Bool)(t:Ty)(l:List Lns)(u:Ty):Prop where
 gt:gd t
 gu:gd u
 to:bO (om bk l) t 0=.ok u
 back:bO (om (!bk) l) u 0=.ok t
 size:bQ l≤64
 deep:ak l≤8
theorem Lz.turn {bk:Bool}{t u:Ty}{l:List Lns}(h:Lz bk t l u):Lz (!bk) u l t:=⟨h.gu,h.gt,h.back,by rw[Bool.not_not];exact h.to,h.size,h.deep⟩
def NZ (x:Except Int Ty):Prop:=∀e,x=.error e→e≠0
theorem NZ.ok (t:Ty):NZ (.ok t):=fun e h=>by cases h
theorem NZ.err {e:Int}(h:e≠0):NZ (.error e):=fun e' h'=>by cases h';exact h
theorem NZ.ite {c:Prop} [Decidable c]{x y:Except Int Ty}(h1:c→NZ x)(h2:¬c→NZ y):NZ (if c then x else y):=by
 by_cases h:c
 ·rw[if_pos h];exact h1 h
 ·rw[if_neg h];exact h2 h
theorem vn:∀(l:List Lns)(r:Ty)(k:Nat)(e:Nat×Int),bO l r k=.error e→e.2≠0:=by
 intro l;have step:∀s:Lns,(∀(r:Ty) (k:Nat) (e:Nat×Int),bO s.subs r k=.error e→e.2≠0)→∀(r:Ty) (e:Int),fl s r=.error e→e≠0:=by
  intro s ih r e he;obtain⟨k,a,b,ty,d,sw,subs⟩:=s;simp only[Lns.subs] at ih
  suffices hP:NZ (fl (.mk k a b ty d sw subs) r) from hP e he
  rw[fl];repeat' (first|exact NZ.ok _|exact NZ.err (by decide)|(refine NZ.ite ?_ ?_<;>intro _)|split)
  all_goals first
   |exact NZ.err (by assumption)
   |exact NZ.err (ih _ _ _ (by assumption))
 have main:∀l:List Lns,(∀s∈l,∀(r:Ty) (e:Int),fl s r=.error e→e≠0)→∀(r:Ty) (k:Nat) (e:Nat×Int),bO l r k=.error e→e.2≠0:=by
  intro l;induction l with
  |nil=>intro _ r k e he;simp[bO] at he
  |cons s l ih=>
   intro hs r k e he;rw[bO] at he;split at he
   ·split at he
    ·exact ih (fun s' h'=>hs s' (by simp[h'])) _ _ _ he
    ·simp only[Except.error.injEq] at he;subst he;exact(show(2:Int)≠0 by decide)
   ·rename_i e0 h0;simp only[Except.error.injEq] at he;subst he;exact hs s (by simp) r e0 h0
 have key:∀s:Lns,∀(r:Ty) (k:Nat) (e:Nat×Int),bO s.subs r k=.error e→e.2≠0:=by
  intro s;induction s using Lns.ind with
  |h s ih=>exact main _ fun x hx=>step x (ih x hx)
 exact main l fun s _=>step s (key s)
theorem uX {t:Ty}{l:List Lns}(h:(bH t l).2.2=0):∃u,Lz false t l u∧bH t l=(u,l.length,0):=by
 unfold bH at h ⊢;by_cases h1:bq t=false∨t.kind≠1
 ·rw[if_pos h1] at h;cases h
 rw[if_neg h1] at h ⊢;by_cases h2:64<bQ l
 ·rw[if_pos h2] at h;cases h
 rw[if_neg h2] at h ⊢;by_cases h3:8<ak l
 ·rw[if_pos h3] at h;cases h
 rw[if_neg h3] at h ⊢;simp only[not_or,Bool.not_eq_false,Decidable.not_not] at h1;have hg:gd t:=⟨h1.1,h1.2⟩;have hne:=vn;cases hs:bO l t 0 with
 |ok u=>obtain⟨b1,b2⟩:=Gp l t u hg hs;exact⟨u,⟨hg,b1,hs,b2,by omega,by omega⟩,rfl⟩
 |error e=>rw[hs] at h;exact(hne l t 0 e hs h).elim
theorem Lz.target {bk:Bool}{t u:Ty}{l:List Lns}(h:Lz bk t l u):(bH t (om bk l)).2.2=0:=by unfold bH;rw[if_neg (by simp[h.gt.right,h.gt.kind]),if_neg (by rw[zC];have:=h.size;omega),if_neg (by rw[wc];have:=h.deep;omega),h.to]
def most:Nat:=33000000
def DR (e:Int)(bk:Bool)(l:List Lns)(d:Doc)(A:Plc→Option Doc)(d':Doc)(B N:Plc→Option Doc):Prop:=
 ∀w,srt w.res→(∀p,rL e [] [] 0 p→pd p w.res=A p)→wW w+wD d+most<lim→
  ∃w' g',eb e bk l 0 [] [] w (ofD d)=some (w',g')∧ay g'=d'∧srt w'.res∧(∀p,rL e [] [] 0 p→pd p w'.res=B p)∧(∀p,¬rL e [] [] 0 p→pd p w'.res=pd p w.res)∧w'.err=w.err∧wW w'+wD d'≤wW w+wD d+most∧nd N w w'
structure Thru (e:Int)(bk:Bool)(t:Ty)(l:List Lns)(u:Ty)(d d':Doc)(A B:Plc→Option Doc):Prop where
 lz:Lz bk t l u
 v:cD t d=true
 out:okT u d'=true∧rightD d'=true
 supA:∀p,¬rL e [] [] 0 p→A p=none
 supB:∀p,¬rL e [] [] 0 p→B p=none
 first:DR e bk l d non d' B A
 again:DR e bk l d A d' B A
 back:∃N,DR e (!bk) l d' B d A N
theorem zu {x:Doc}(hr:rightD x=true){t:Ty}(hk:t.kind=1)(h:okT t x=true):okK x=true:=(pH hr hk h).2.2
theorem uw {e:Int}{bk:Bool}{l:List Lns}{C:Nat}{f f':Flds}{x x':Doc}{A B N:Plc→Option Doc}(h:Act (rL e [] [] 0) C (eb e bk l 0 [] []) f A f' B N)(hC:C≤most)(hx:ay (ofD x)=x)(he:eqM (ofD x) f)(hn:cH f')(hx':ay f'=x'):DR e bk l x A x' B N:=by intro w h1 h2 h3;have k1:=xy hx;obtain⟨w',g',q1,q2,q3,q4,q5,q6,q7,q8,q9⟩:=(h.mono hC) w (ofD x) (dR x) he h1 h2 (by omega);have e1:ay g'=x':=(kQ q2 hn q3).trans hx';refine⟨w',g',q1,e1,q4,q5,q6,q7,?_,q9⟩;have:=iF g';rw[e1] at this;omega
theorem thru (e:Int){bk:Bool}{t u:Ty}{l:List Lns}{d:Doc}(h:Lz bk t l u)(hv:cD t d=true):∃d' A B,Thru e bk t l u d d' A B:=by
 obtain⟨_,v2,v3⟩:=(fZ t d).1 hv;obtain⟨_,v4,v5⟩:=(eV d).1 v2;obtain⟨r1,r2,r3⟩:=pH v5 h.gt.kind v3;obtain⟨f',A,B,j1,j2,j3,j4⟩:=Dw l bk e [] [] 0 t u (ofD d) h.gt h.to r1 (by have:=h.deep;simp;omega);have hC:nh (bQ l) (cF (ofD d))≤most:=by have k1:=wM r2;have k2:=za d;have k3:bQ l*(1+cF (ofD d))≤64*512:=Nat.mul_le_mul h.size (by omega);unfold nh most;omega
 exact⟨ay f',A,B,h,hv,yd h.gu j2,j4.supA,j4.supB,uw j4.first hC r2 (eqM.refl _) j2.nod rfl,uw j4.again hC r2 (eqM.refl _) j2.nod rfl,j4.back.imp fun _ hb=>uw hb hC (jf j2.nod) (ij j2.nod) (dR d) r2⟩
theorem uB {t:Ty}{l:List Lns}{e:Int}{bk:Bool}{s:St}{w:Wlk}{g:Flds}(h1:(bH t (om bk l)).2.2=0)(h2:bC s.res=true)(h3:cD t s.doc=true)(h4:okK s.doc=true)(h5:eb e bk l 0 [] [] ⟨s.res,[],0⟩ (ofD s.doc)=some (w,g))(h6:w.err=0) :
  jx t l e bk s=some (if bC w.res=false then (bu,[],1) else if dS (ay g)=false then (bu,[],2) else (⟨ay g,w.res⟩,w.needs,0)):=by
 unfold om at h1;unfold jx;rw[h1];simp only[ne_eq,not_true_eq_false,if_false,h2,h3,h4,h5,h6,Bool.true_eq_false,if_true];split
 ·rfl
 ·split<;>rfl
theorem Dn {t:Ty}{l:List Lns}{e:Int}{bk:Bool}{s:St}{w:Wlk}{g:Flds}(h1:(bH t (om bk l)).2.2=0)(h2:bC s.res=true)(h3:cD t s.doc=true)(h4:okK s.doc=true)(h5:eb e bk l 0 [] [] ⟨s.res,[],0⟩ (ofD s.doc)=some (w,g))(h6:w.err=0) :
  goB t l e bk s=some (if bC w.res=false then (bu,1) else if dS (ay g)=false then (bu,2) else (⟨ay g,w.res⟩,0)):=by
 unfold goB;rw[uB h1 h2 h3 h4 h5 h6];split
 ·rfl
 ·split<;>rfl
theorem vi:bC []=true:=rfl
theorem mP {n:Nat}:∀{l:List Str},(∀s∈l,s.length≤n)→cw l≤l.length*(n+1)
 |[],_=>by simp[cw]
 |s::l,h=>by
  have h1:=h s (by simp);have h2:=mP (l:=l) fun x hx=>h x (by simp[hx])
  rw[cw,List.length_cons,Nat.add_mul];omega
theorem pm:∀{p:Option Str}{l:List Str},fV p l=true→∀s∈l,s.length≤256
 |p,[],_=>by simp
 |p,x::l,h=>by
  have hh:x.length≤256∧fV (some x) l=true:=(by cases p<;>(simp only[fV,Bool.and_eq_true,decide_eq_true_eq] at h;exact⟨h.1.1,h.2⟩));intro s hs;rcases List.mem_cons.1 hs with rfl|hs
  ·exact hh.1
  ·exact pm hh.2 s hs
theorem uf:∀(l:List Fld),(∀f∈l,f.name.length≤16∧wT f.ty+100≤9000*dc f.ty)→wFs l≤9000*dT l
 |[],_=>by simp[wFs]
 |f::l,h=>by
  have h1:=h f (by simp);have h2:=uf l fun x hx=>h x (by simp[hx])
  obtain⟨n,o,t⟩:=f;simp only[Fld.name,Fld.ty] at h1;rw[wFs,dT,Nat.mul_add];omega
theorem Cz (t:Ty):gS t=true→wT t+100≤9000*dc t:=by
 induction t using Ty.ind with
 |h t ih1 ih2=>
 intro h;rw[pJ,Bool.and_eq_true] at h;obtain⟨hb,h⟩:=h;have e1:=jA t;have e2:=jp t;unfold nA at hb;simp only[Bool.and_eq_true,Bool.or_eq_true,decide_eq_true_eq,List.isEmpty_iff] at hb;obtain⟨⟨⟨b1,b2⟩,b3⟩,_⟩:=hb;have k1:cw t.names≤8224:=by
  rcases b2 with b2|b2
  ·rw[if_neg (by omega),if_neg (by omega),if_neg (by omega),if_neg (by omega),if_neg (by omega),if_pos b2] at h;unfold nQ at h;simp only[Bool.and_eq_true,decide_eq_true_eq] at h;have h1:=mP (n:=256) (pm h.1.1);have h2:t.names.length*257≤32*257:=Nat.mul_le_mul_right _ h.2;omega
  ·rw[b2];simp[cw]
 have k2:wFs t.fields≤9000*dT t.fields:=by
  rcases b1 with b1|b1
  ·rw[if_pos b1,Bool.and_eq_true,mC] at h;refine uf _ fun f hf=>?_
   obtain⟨_,_,h3⟩:=h.1;exact⟨kZ (h3 f hf).1,ih1 f hf (h3 f hf).2⟩
  ·rw[b1];simp[wFs]
 have k3:wTs t.of≤9000*dU t.of:=by
  rcases b3 with b3|b3
  ·unfold xL at b3;simp only[Bool.or_eq_true,decide_eq_true_eq] at b3;rw[if_neg (by omega),if_pos b3] at h;simp only[Bool.and_eq_true,decide_eq_true_eq] at h;cases ho:t.of with
   |nil=>simp[wTs]
   |cons u r=>rw[ho] at h;have hr:r=[]:=(by have:=h.1.1.1;simpa using this);have:=ih2 u (by rw[ho];simp) (by have:=h.2;simpa[mi] using this);rw[hr];simp only[wTs,dU];omega
  ·rw[b3];simp[wTs]
 omega
theorem qC {t:Ty}(h:bq t=true):wT t≤1152000:=by obtain⟨h1,_,h3⟩:=(gg t).1 h;have:=Cz t h3;omega
theorem oZ:∀{l:List Lns}{r u:Ty}{k:Nat},bq r=true→bO l r k=.ok u→bq u=true
 |[],r,u,k,hr,h=>by simp only[bO,Except.ok.injEq] at h;subst h;exact hr
 |s::l,r,u,k,_,h=>by obtain⟨r1,_,h2,h3⟩:=eU.1 h;exact oZ h2 h3
theorem Hn {s:Lns}{r R:Ty}(hg:gd r)(h:Did s r R):wT R≤4000000+wN s:=by
 have hr:=qC hg.right;have hw:=eu s;have e0:=jA r;have del:∀n,wFs (br n r.fields)≤wFs r.fields:=fun n=>by
  generalize r.fields=l;induction l with
  |nil=>exact Nat.le_refl _
  |cons f l ih=>
   rw[br];split
   ·rw[cv];omega
   ·rw[cv,cv];omega
 have dels:∀n (l:List Fld),wFs (br n l)≤wFs l:=fun n l=>by
  induction l with
  |nil=>exact Nat.le_refl _
  |cons f l ih=>
   rw[br];split
   ·rw[cv];omega
   ·rw[cv,cv];omega
 have ins:∀(f:Fld) (l:List Fld),wFs (dz f l)=f.name.length+1+wT f.ty+wFs l:=fun f l=>by
  induction l with
  |nil=>rw[dz,cv]
  |cons g l ih=>
   rw[dz];split
   ·rw[cv]
   ·rw[cv,ih,cv];omega
 have ins':∀(n:Str) (o:Bool) (t:Ty) (l:List Fld),wFs (dz (.mk n o t) l)=n.length+1+wT t+wFs l:=fun n o t l=>ins (.mk n o t) l
 have recw:∀l:List Fld,wT (d8 l)=wFs l+1:=fun l=>by simp[d8,wT,cw,wTs]
 have setw:∀(a:Str) (t:Ty),wFs (gE a t r.fields)≤a.length+1+wT t+wFs r.fields:=fun a t=>by unfold gE;rw[ins'];have:=del a;omega
 cases h with
 |ren f hk hf hn hb=>have:=fy (cY hf).2;have:=del s.a;rw[recw,ins'];omega
 |add hk hn ha he=>rw[recw,ins'];omega
 |rem f hk hf ho ht he=>have:=del s.a;rw[recw];omega
 |hoist f g hk hf ho ht hg' hgo hb=>have h1:=fy (cY hf).2;have h2:=fy (cY hg').2;have h3:=setw s.a (d8 (br s.b f.ty.fields));have h4:=dels s.b f.ty.fields;have h5:=jA f.ty;rw[recw] at h3;rw[recw,ins];omega
 |plunge f g hk hf ho hg' hgo ht hab hb=>have h1:=fy (cY hf).2;have h2:=fy (cY hg').2;have h3:=setw s.a (d8 (dz g f.ty.fields));have h4:=dels s.b (gE s.a (d8 (dz g f.ty.fields)) r.fields);have h5:=jA f.ty;rw[recw,ins] at h3;rw[recw];omega
 |wrap f hk hf ho hs=>have h1:=fy (cY hf).2;have h3:=setw s.a (.mk 3 1 1 [] [] [f.ty]);have h4:wT (.mk 3 1 1 [] [] [f.ty])=wT f.ty+1:=(by simp[wT,cw,wFs,wTs]);rw[recw];omega
 |head f t ns fs ts hk hf ho ht hs=>have h1:=fy (cY hf).2;have h3:=setw s.a t;have h4:wT t<wT f.ty:=nZ (by rw[ht];simp[Ty.of]);rw[recw];omega
 |conv f hk hf ho ht hs=>omega
 |ins f t hk hf ho ht hs=>have h3:=setw s.a t;have h4:=qC (oZ (hg.fld hf).2.2 hs);rw[recw];omega
 |each f lo hi ns fs t ts u hk hf ho ht htk hs=>have h1:=fy (cY hf).2;obtain⟨v,hv,hv2⟩:=im (hg.fld hf).2.2 (by rw[ht];exact .inl rfl);have hft:v=t∧ns=[]∧fs=[]:=(by rw[ht] at hv;simp only[Ty.kind,Ty.lo,Ty.hi,Ty.mk.injEq,List.cons.injEq] at hv;exact⟨hv.2.2.2.2.2.1.symm,hv.2.2.2.1,hv.2.2.2.2.1⟩);obtain⟨rfl,rfl,rfl⟩:=hft;have h3:=setw s.a (.mk 2 lo hi [] [] [u]);have h4:=qC (oZ hv2 hs);have h5:wT (.mk 2 lo hi [] [] [u])=wT u+1:=(by simp[wT,cw,wFs,wTs]);rw[recw];omega
end Go.V
set_option maxHeartbeats 4000000
namespace Go.V
open Go Go.Proofs
attribute [local irreducible] W bM WD aO yl aU bU
section
variable (Γ:Glo Tryz.prog)
attribute [local simp] veq bD eD V.del
theorem Gn (it:Nat→Str)(HI:∀k:Nat,k<1000000000→PureOk Tryz.prog Γ 65 [.int .i64 k] (.str (it k)))(t:Ty):bq t=true→A7 Γ it t:=by
 induction t using Ty.ind with
 |h t ih1 ih2=>
 intro hr d p fs hd hwd hp hX;have hw:wT t<1000000000:=by have:=qC hr;omega
 have hdt:=kP t;have hdk:=((d9 d).1 hd).2.2;have hf:=kh it t d p;have hf3:d7 t d=0∨d7 t d=7∨d7 t d=8:=by
  unfold d7;repeat' split
  all_goals omega
 rw[hf] at hX ⊢;clear hf;by_cases h7:d7 t d=7
 ·rw[if_neg (by omega),if_pos h7,List.append_nil] at hX ⊢;rw[h7];exact f210t Γ t d p fs (by unfold big;omega) h7 (by simp only[List.length_append] at hX;omega)
 have hk:=rE h7;rw[if_neg h7] at hX ⊢;by_cases k1:t.kind=1
 ·have h0:d7 t d=0:=(by unfold d7 at h7 ⊢;simp only[k1] at h7 ⊢;simp at h7 ⊢;exact h7);rw[if_pos h0,if_pos k1,List.nil_append] at hX ⊢;have hdk1:d.kind=1:=(by rw[if_neg (by omega)] at hk;omega);refine f210r Γ t d p fs _ (by unfold big;omega) h0 k1 (f208 Γ it t d p fs hw hwd k1 (nv hd (.inl hdk1)) hdk (by omega) hX ?_);intro f hf;exact ih1 f hf ((gd.mk hr k1).parts.2.2 f hf).2
 rw[if_neg k1] at hX ⊢;by_cases k2:t.kind=2
 ·obtain⟨u,hu0,hru⟩:=im hr (.inl k2);have hu:t.of=[u]:=(by rw[hu0];rfl);clear hu0;have hl:=nv hd (by rw[if_neg (by omega)] at hk;right;omega);have hpu:p.length+dK u+1<1000000:=(by rw[hu] at hdt;simp only[dy] at hdt;omega);have hA:=ih2 u (by rw[hu];simp) hru;rw[if_pos k2,hu,jO] at hX ⊢;rcases hf3 with h0|h0|h0
  ·rw[if_pos h0,List.nil_append] at hX ⊢;exact f210k2z Γ t d p fs it u (by unfold big;omega) hwd h0 k2 hu hpu hdk hX hA hl
  ·exact(h7 h0).elim
  ·rw[if_neg (by omega),h0,←List.append_assoc] at hX ⊢;exact f210k2e Γ t d p fs it u (by unfold big;omega) hwd h0 k2 hu hpu hdk hX hA hl
 rw[if_neg k2] at hX ⊢;by_cases k3:t.kind=3
 ·obtain⟨u,hu0,hru⟩:=im hr (.inr k3);have hu:t.of=[u]:=(by rw[hu0];rfl);clear hu0;have hpu:p.length+dK u+1<1000000:=(by rw[hu] at hdt;simp only[dy] at hdt;omega);have hA:=ih2 u (by rw[hu];simp) hru;have hit:∀k:Nat,k<d.kids.length→PureOk Tryz.prog Γ 65 [.int .i64 k] (.str (it k)):=fun k h=>HI k (by have:=gJ d;omega)
  rw[if_pos k3,hu,jP] at hX ⊢;rcases hf3 with h0|h0|h0
  ·rw[if_pos h0,List.nil_append] at hX ⊢;exact f210k3z Γ t d p fs it u (by unfold big;omega) hwd h0 k3 hu hpu hdk hX hA hit
  ·exact(h7 h0).elim
  ·rw[if_neg (by omega),h0,←List.append_assoc] at hX ⊢;exact f210k3e Γ t d p fs it u (by unfold big;omega) hwd h0 k3 hu hpu hdk hX hA hit
 rw[if_neg k3,List.append_nil] at hX ⊢;rcases hf3 with h0|h0|h0
 ·rw[if_pos h0,List.append_nil];exact f210n Γ t d p fs (by unfold big;omega) h0 k1 k2 k3
 ·exact(h7 h0).elim
 ·rw[if_neg (by omega),h0] at hX ⊢;exact f210e Γ t d p fs (by unfold big;omega) h0 k1 k2 k3 (by simp only[List.length_append] at hX;omega)
theorem sD (d:Doc):dG d=cf d.kids+1:=by cases d;rfl
theorem Az {l:List Doc}{x:Doc}(h:x∈l):dG x≤cf l:=by
 induction l with
 |nil=>cases h
 |cons y l ih=>
  rw[cf];rcases List.mem_cons.1 h with rfl|h
  ·omega
  ·have:=ih h;omega
theorem uR:∀l:List Doc,l.length≤cf l
 |[]=>Nat.zero_le _
 |x::l=>by rw[cf,List.length_cons,sD];have:=uR l;omega
theorem ta {g:Doc→List Str→List Flt}{c:Nat}:∀{ks:List Str}{ds:List Doc}{p:List Str},(∀d∈ds,∀p,(g d p).length≤c*dG d)→(cn g ks ds p).length≤c*cf ds
 |[],_,p,_=>by simp[cn]
 |_::_,[],p,_=>by simp[cn]
 |k::ks,d::ds,p,h=>by
  rw[cn,List.length_append,cf,Nat.mul_add];have:=h d (by simp) (p++[k]);have:=ta (ks:=ks) (ds:=ds) (p:=p) fun x hx=>h x (by simp[hx])
  omega
theorem tc {it:Nat→Str}{g:Doc→List Str→List Flt}{c:Nat}:∀{ds:List Doc}{i:Nat}{p:List Str},(∀d∈ds,∀p,(g d p).length≤c*dG d)→(dE it g ds i p).length≤c*cf ds
 |[],i,p,_=>by simp[dE]
 |d::ds,i,p,h=>by
  rw[dE,List.length_append,cf,Nat.mul_add];have:=h d (by simp) (p++[it i]);have:=tc (it:=it) (ds:=ds) (i:=i+1) (p:=p) fun x hx=>h x (by simp[hx])
  omega
theorem uJ {fs:List Fld}{p:List Str}:∀ks:List Str,(di fs p ks).length≤ks.length
 |[]=>by simp[di]
 |s::r=>by rw[di,List.length_append,List.length_cons];have:=uJ (fs:=fs) (p:=p) r;split<;>simp<;>omega
theorem p9 {it:Nat→Str}{d:Doc}:∀{fs:List Fld}{p:List Str},(∀f∈fs,∀x∈d.kids,∀p,(aX it f.ty x p).length≤2*dc f.ty*dG x)→(bh it fs d p).length≤2*dT fs*dG d
 |[],p,_=>by simp[bh]
 |.mk n o t::r,p,h=>by
  rw[bh,dT,List.length_append,Nat.mul_add,Nat.add_mul];have h1:=p9 (it:=it) (d:=d) (fs:=r) (p:=p) fun f hf=>h f (by simp[hf])
  have h2:1≤2*dc t*dG d:=(by have a1:1≤dc t:=(by rw[jp];omega);have a2:1≤dG d:=(by rw[sD];omega);exact Nat.mul_pos (by omega) a2);cases hk:eL n d.keys d.kids with
  |some x=>have:=h (.mk n o t) (by simp) x (kX hk) (p++[n]);simp only[Fld.ty] at this;have h4:=Az (kX hk);have h5:2*dc t*dG x≤2*dc t*dG d:=Nat.mul_le_mul_left _ (by rw[sD d];omega);simp only;omega
  |none=>cases o<;>simp<;>omega
theorem yZ (it:Nat→Str)(t:Ty):∀(d:Doc)(p:List Str),rightD d=true→(aX it t d p).length≤2*dc t*dG d:=by
 induction t using Ty.ind with
 |h t ih1 ih2=>
 intro d p hd;have hdk:=((d9 d).1 hd).2.2;rw[kh,List.length_append,jp];have hs:=sD d;have e1:(if d7 t d=0 then [] else [(p,d7 t d)]:List Flt).length≤1:=by split<;>simp
 have e2:2*(dT t.fields+dU t.of+1)*dG d=2*dT t.fields*dG d+2*dU t.of*dG d+2*dG d:=by rw[Nat.mul_add,Nat.mul_add,Nat.add_mul,Nat.add_mul]
 rw[e2];by_cases h7:d7 t d=7
 ·rw[if_pos h7];simp only[List.length_nil];omega
 rw[if_neg h7];have hk:=rE h7;by_cases k1:t.kind=1
 ·rw[if_pos k1,List.length_append];have h1:=p9 (it:=it) (d:=d) (fs:=t.fields) (p:=p) fun f hf x hx p=>ih1 f hf x p (hdk x hx)
  have h2:=uJ (fs:=t.fields) (p:=p) d.keys;have h3:=nv hd (.inl (by rw[if_neg (by omega)] at hk;omega));have h4:=uR d.kids;omega
 rw[if_neg k1];by_cases k2:t.kind=2
 ·rw[if_pos k2];cases ho:t.of with
  |nil=>rw[jO];simp only[List.length_nil];omega
  |cons u r=>
   rw[jO,dU];have h1:=ta (g:=fun x q=>aX it u x q) (ks:=d.keys) (ds:=d.kids) (p:=p) fun x hx q=>ih2 u (by rw[ho];simp) x q (hdk x hx)
   have h2:2*dc u*cf d.kids≤2*(dc u+dU r)*dG d:=Nat.mul_le_mul (by omega) (by omega);omega
 rw[if_neg k2];by_cases k3:t.kind=3
 ·rw[if_pos k3];cases ho:t.of with
  |nil=>rw[jP];simp only[List.length_nil];omega
  |cons u r=>
   rw[jP,dU];have h1:=tc (it:=it) (g:=fun x q=>aX it u x q) (ds:=d.kids) (i:=0) (p:=p) fun x hx q=>ih2 u (by rw[ho];simp) x q (hdk x hx)
   have h2:2*dc u*cf d.kids≤2*(dc u+dU r)*dG d:=Nat.mul_le_mul (by omega) (by omega);omega
 ·rw[if_neg k3];simp only[List.length_nil];omega
theorem Ai (it:Nat→Str){t:Ty}{d:Doc}(p:List Str)(ht:bq t=true)(hd:dS d=true):(aX it t d p).length≤131072:=by obtain⟨h1,_,_⟩:=(gg t).1 ht;obtain⟨_,h2,h3⟩:=(eV d).1 hd;refine Nat.le_trans (yZ it t d p h3) ?_;exact Nat.le_trans (Nat.mul_le_mul (Nat.mul_le_mul_left 2 h1) h2) (by omega)
set_option maxRecDepth 20000 in
theorem Du {d:Doc}(hd:rightD d=true):cw d.keys≤d.kids.length*257∧d.str.length≤256:=by
 obtain⟨h1,h2,_⟩:=(d9 d).1 hd;have h3:=mP ((iP _ _ _).1 h2).2.2.2;unfold fH at h1;split at h1
 ·simp only[Bool.and_eq_true,decide_eq_true_eq] at h1;rw[h1.2] at h3;rw[h1.1.2];exact⟨h3,by simp⟩
 ·split at h1
  ·simp only[Bool.and_eq_true,decide_eq_true_eq] at h1;rw[h1.2] at h3;rw[h1.1.2];exact⟨by omega,by simp⟩
  ·split at h1
   ·cases h1
   ·have h4:d.keys.length=0:=(by omega);rw[h4] at h3;refine⟨by omega,?_⟩;split at h1
    ·simp only[decide_eq_true_eq] at h1;rw[h1];simp
    ·split at h1
     ·simp only[Bool.and_eq_true,decide_eq_true_eq] at h1;rw[h1.1];simp
     ·split at h1
      ·simp only[Bool.and_eq_true,decide_eq_true_eq] at h1;exact h1.2
      ·cases h1
set_option maxRecDepth 20000 in
theorem Cu:∀{l:List Doc},(∀x∈l,wD x+257≤514*dG x)→wDs l+257*l.length≤514*cf l
 |[],_=>by simp[wDs,cf]
 |x::l,h=>by
  have h1:=h x (by simp);have h2:=Cu (l:=l) fun y hy=>h y (by simp[hy])
  rw[wDs,cf,List.length_cons];omega
set_option maxRecDepth 20000 in
theorem GM (d:Doc):rightD d=true→wD d+257≤514*dG d:=by
 induction d using Doc.ind with
 |h d ih=>
 intro hd;have h1:=Cu fun x hx=>ih x hx (((d9 d).1 hd).2.2 x hx)
 have h2:=Du hd;rw[kC,sD];omega
set_option maxRecDepth 20000 in
theorem I7 {d:Doc}(hd:dS d=true):wD d≤263168:=by obtain⟨_,h2,h3⟩:=(eV d).1 hd;have:=GM d h3;omega
theorem CallOk.arg {f:FuncId}{us vs:List Val}{r:Val}{h h2:Heap}{N N':Nat}{al:Bool}(hk:CallOk Tryz.prog Γ f us h N al r h2 N')(hw:WkL vs us):CallOk Tryz.prog Γ f vs h N al r h2 N':=
 ⟨hk.1,fun F ρ w0 O w xs hG m hf hv=>hk.2 F ρ w0 O w xs hG m hf (hw.rel hv)⟩
theorem f141 (it:Nat→Str)(HI:∀k:Nat,k<1000000000→PureOk Tryz.prog Γ 65 [.int .i64 k] (.str (it k)))(t:Ty)(d:Doc)(ht:bq t=true)(hd:dS d=true) :
  CallOk Tryz.prog Γ 141 [.ag (cTy t),.ag (aJ d),.fn 142 [] [.pr 0 0]] [(0,.cells [.nils] 141 false)] 1 true (.tp []) (gH dm 1 77 (aX it t d [])++[(0,.cells [gV 1 (aX it t d [])] 141 false)]) 2:=by
 have hdep:=((gg t).1 ht).2.1;have hlen:=Ai it [] ht hd;have k0:=Gn Γ it HI t ht d [] [] ((eV d).1 hd).2.2 (by have:=I7 hd;omega) (by simp;omega) (by simp;omega);have k1:=k0.ren [4,5,8,3,0,1] 15 rfl (by rw[zk (by omega) (by omega)];simp[aV,aS,aD]) (by simp) (eC (by omega) _);have e6:tau [4,5,8,3,0,1] 15 6=15:=by simp[tau]
 simp only[List.nil_append] at k1;unfold Hc at k1;simp only[ai,qV dm _ cG,e6] at k1;unfold BxY at k1;have q1:gV 5 ([]:List Flt)=.nils:=rfl;have q2:∀o,gH dm o 77 ([]:List Flt)=[]:=fun _=>rfl
 simp[bJ,b9,cK,ax,qW,tau,aH,q1,q2] at k1;generalize aX it t d []=X at *
 clear k0 HI hdep;have ht6:List.take 6 (cTy t)=cTy t:=List.take_of_length_le (by rw[bG];omega);have hd5:List.take 5 (aJ d)=aJ d:=List.take_of_length_le (by rw[b8];omega);replace k1:=CallOk.arg Γ k1 (vs:=[.ag (cTy t),.ag (aJ d),.nils,.pr 3 0,.pr 8 0,.pr 4 0,.pr 5 0]) ⟨Wk.refl _,Wk.refl _,Wk.nils,Wk.refl _,Wk.refl _,Wk.refl _,Wk.refl _,trivial⟩;clear hlen ht hd;have hmv:vU 1 2 [(15,1)]=true:=by simp
 cases X with
 |nil=>simp only[gH,gV,List.nil_append] at k1 ⊢;refine bc Tryz.func141 rfl (by simp[Tryz.f141]) (by omega) (by simp[aS,aV]) (by simp[bW,cN,aS,aV]) ?_;intro a hl ha;replace hl:a.length=15:=hl;have g0:=ha 0 _ rfl;have g1:=ha 1 _ rfl;have g2:=ha 2 _ rfl;clear ha;refine GG ?_;refine aw k1 ?_;refine GG ?_;exact⟨by simp,[],.tp [],[(0,.cells [.nils] 141 false)],.tp [],_,by simp,by simp,by simp[Tryz.f141],by simp[ax,cK],by simp[bJ,b9,cK,ax],by (repeat (first|exact aP|refine aK (by simp[V.get, *]) ?_)),Clo.refl _ _⟩
 |cons x X=>
  simp only[gH,gV,List.nil_append] at k1 ⊢;have hcx:=cG (x::X);have hlo:=fun N=>aD (N:=N) _ hcx
  generalize row dm (x::X)=cs at *
  refine bc Tryz.func141 rfl (by simp[Tryz.f141]) (by omega) (by simp[aS,aV]) (by simp[bW,cN,aS,aV,hlo]) ?_;intro a hl ha;replace hl:a.length=15:=hl;have g0:=ha 0 _ rfl;have g1:=ha 1 _ rfl;have g2:=ha 2 _ rfl;clear ha;refine GG ?_;refine aw k1 ?_;refine GG ?_;exact⟨by simp,[(15,1)],.tp [],[(15,.cells cs 77 true),(0,.cells [.so 15 0 (X.length+1) none] 141 false)],.tp [],_,by simp,by simp,by simp[Tryz.f141],by simp[ax,cK],by simp[bJ,b9,cK,ax,aH,hcx],by (repeat (first|exact aP|refine aK (by simp[V.get, *]) ?_)),Clo.refl _ _⟩
end
end Go.V
end
section
namespace Go.Proofs
open Go Go.Shelf Go.RowKit Go.Lib Go.Sort
structure El where
 f:V.Fld
 vs:List Value
 len:vs.length=7
 cells:∀v∈vs,v.oneCell'=true
instance:Inhabited El:=⟨⟨.mk [] false V.zeroTy,List.replicate 7 (.int .i64 0),by simp,by intro v hv;rw[List.eq_of_mem_replicate hv];rfl⟩⟩
def El.enc (x:El):List Value:=V.str x.f.name::x.vs
def El.cmp (x y:El):Int:=Lib.compareBytes x.f.name y.f.name
theorem El.enc_len (x:El):x.enc.length=8:=by simp[El.enc,x.len]
theorem El.enc_one (x:El):∀v∈x.enc,v.oneCell'=true:=by
 intro v hv;rcases List.mem_cons.1 hv with rfl|hv
 ·rfl
 ·exact x.cells v hv
set_option maxHeartbeats 2000000 in
theorem Tryz.closure257 (n m:List UInt8)(a1 a2 a3 a4 a5 a6 a7 b1 b2 b3 b4 b5 b6 b7:Value)(W:World) :
  Calls Tryz.prog 257 #[.agg #[V.str n,a1,a2,a3,a4,a5,a6,a7],.agg #[V.str m,b1,b2,b3,b4,b5,b6,b7]] W fun e w'=>e=.returned (.int .i64 (Lib.compareBytes n m))∧∃q os',w'=grow (W.drewN q) os':=by
 have hcon:=fun W'=>Any.strings_Compare Tryz.strCmp ⟨n.toArray⟩ ⟨m.toArray⟩ W'
 change ∀W',Calls Tryz.prog 258 _ _ _ at hcon;generalize Lib.compareBytes n m=r at hcon ⊢;unfold V.str
 go_enter Tryz.func257,Tryz.ntmps257
 go_wp2_with (go_at_call 258;refine(hcon _).mono ?_;rintro e w' ⟨rfl,rfl⟩)
 go_ret
 exact⟨rfl,0,_,by rw[alloc_eq_grow,alloc_eq_grow,grow_grow];rfl⟩
end Go.Proofs
namespace Go.V
open Go Go.Proofs Go.Shelf Go.RowKit Go.Lib Go.Sort
theorem wY:∀a b:List UInt8,Lib.compareBytes a b<0↔ltS a b=true
 |[],[]=>by simp[Lib.compareBytes,ltS]
 |[],_::_=>by simp[Lib.compareBytes,ltS]
 |_::_,[]=>by simp[Lib.compareBytes,ltS]
 |a::x,b::y=>by
  rw[Lib.compareBytes,ltS];by_cases h1:a<b
  ·simp[h1]
  ·by_cases h2:b<a
   ·have h3:(a==b)=false:=(by rw[beq_eq_false_iff_ne];intro e;subst e;exact UInt8.lt_irrefl _ h2);simp[h1,h2,h3]
   ·have h3:a=b:=UInt8.le_antisymm (UInt8.not_lt.1 h2) (UInt8.not_lt.1 h1);subst h3;simp[h1,wY x y]
theorem EA (x y:El):ltOf El.cmp x y=ltS x.f.name y.f.name:=by unfold ltOf El.cmp;rw[Bool.eq_iff_iff,decide_eq_true_eq,wY]
theorem IX:SWO (ltOf El.cmp) where
 irrefl x:=by rw[EA];exact aN _
 trans x y z h1 h2:=by rw[EA] at *;exact aa h1 h2
 ntrans x y z h1 h2:=by
  rw[EA] at *
  cases h:ltS x.f.name z.f.name with
  |false=>rfl
  |true=>
   exfalso;by_cases e:x.f.name=y.f.name
   ·rw[e] at h;rw[h] at h2;cases h2
   ·have h3:=aQ h1 e;rw[aa h3 h] at h2;cases h2
theorem yU (blk off size:Nat)(w:World):CmpLays Tryz.prog 257 #[] El.enc 8 El.cmp blk off size w:=by
 intro m os dk _ x y;obtain⟨f,vs,hl,hc⟩:=x;obtain⟨g,us,hl2,hc2⟩:=y
 match vs,hl,us,hl2 with
 |[a1,a2,a3,a4,a5,a6,a7],_,[b1,b2,b3,b4,b5,b6,b7],_=>exact Tryz.closure257 f.name g.name a1 a2 a3 a4 a5 a6 a7 b1 b2 b3 b4 b5 b6 b7 _
theorem Bc {F:Fro}{ρ:Pl}:∀(fs:List Fld){xs:List Value},RelL F ρ (row ad fs) xs→∃ds:List El,ds.map (·.f)=fs∧ds.flatMap El.enc=xs∧∀x∈ds,RelL F ρ (ad x.f) x.enc
 |[],xs,h=>by have:xs=[]:=h;subst this;exact⟨[],rfl,rfl,by simp⟩
 |f::fs,xs,h=>by
  rw[cM] at h;have h1:=h.take 8;have h2:=h.drop 8;rw[BS] at h1;rw[List.drop_left' (jb f)] at h2;obtain⟨ds,g1,g2,g3⟩:=Bc fs h2;have hl:=h1.length;rw[jb] at hl;cases hx:xs.take 8 with
  |nil=>rw[hx] at hl;cases hl
  |cons v vs=>
   rw[hx] at h1 hl;have hv:v=V.str f.name:=(by obtain⟨n,o,t⟩:=f;simp only[ad,RelL] at h1;obtain⟨y,ys,e,r,_⟩:=h1;simp only[Rel] at r;cases e;exact r);have hone:=gA h1 (qi f);refine⟨⟨f,vs,by simpa using hl.symm,fun u hu=>hone u (by simp[hu])⟩::ds,by simp[g1],?_,?_⟩
   ·rw[List.flatMap_cons,g2];show V.str f.name::vs++_=_;rw[←hv,←hx,List.take_append_drop]
   ·intro x hx';rcases List.mem_cons.1 hx' with rfl|hx'
    ·show RelL F ρ (ad f) (V.str f.name::vs);rw[←hv];exact h1
    ·exact g3 x hx'
theorem RelL.rows {F:Fro}{ρ:Pl}:∀(ds:List El),(∀x∈ds,RelL F ρ (ad x.f) x.enc)→RelL F ρ (row ad (ds.map (·.f))) (ds.flatMap El.enc)
 |[],_=>.nil
 |x::ds,h=>by rw[List.map_cons,cM,List.flatMap_cons];exact(h x (by simp)).append (RelL.rows ds fun y hy=>h y (by simp[hy]))
theorem ww:∀(ds:List El)(t:Nat),t<ds.length*8→(ds.flatMap El.enc)[t]?=((ds[t / 8]?).bind fun x=>x.enc[t % 8]?)
 |[],t,h=>by simp at h
 |x::ds,t,h=>by
  rw[List.flatMap_cons];rcases Nat.lt_or_ge t 8 with ht|ht
  ·rw[List.getElem?_append_left (by rw[El.enc_len];exact ht),Nat.div_eq_of_lt ht,Nat.mod_eq_of_lt ht];rfl
  ·rw[List.getElem?_append_right (by rw[El.enc_len];exact ht),El.enc_len,ww ds (t-8) (by simp at h;omega)];have e1:t / 8=(t-8) / 8+1:=(by omega);have e2:t % 8=(t-8) % 8:=(by omega);rw[e1,e2,List.getElem?_cons_succ]
theorem Bi (ds:List El):(ds.flatMap El.enc).length=ds.length*8:=by
 induction ds with
 |nil=>rfl
 |cons x ds ih=>rw[List.flatMap_cons,List.length_append,ih,El.enc_len,List.length_cons];omega
theorem rF (ds:List El):(flatK El.enc 8 ds.toArray).toList=ds.flatMap El.enc:=by
 apply List.ext_getElem?;intro t;rcases Nat.lt_or_ge t (ds.length*8) with ht|ht
 ·have hsz:t<(flatK El.enc 8 ds.toArray).size:=(by simpa using ht);rw[Array.getElem?_toList,Array.getElem?_eq_getElem hsz,←getElem!_pos (flatK El.enc 8 ds.toArray) t hsz,get_flatK El.enc 8 ds.toArray t (by simpa using ht),ww ds t ht];have h1:t / 8<ds.length:=(by omega);have h2:t % 8<(ds[t / 8]).enc.length:=(by rw[El.enc_len];omega);rw[List.getElem?_eq_getElem h1];simp only[Option.bind_some];rw[List.getElem?_eq_getElem h2];rw[getElem!_pos ds.toArray (t / 8) (by simpa using h1)];simp only[List.getElem_toArray];rw[getElem!_pos (ds[t / 8]).enc (t % 8) h2]
 ·rw[Array.getElem?_toList,Array.getElem?_eq_none (by simpa using ht),List.getElem?_eq_none (by rw[Bi];exact ht)]
theorem Aj {l m:List Fld}(hl:fu l)(hm:fu m)(h:∀f,f∈l↔f∈m)(n:Str):aj n l=aj n m:=by
 cases h1:aj n l with
 |some f=>obtain⟨e,hf⟩:=cY h1;have:=gB hm ((h f).1 hf);rw[e] at this;exact this.symm
 |none=>
  cases h2:aj n m with
  |none=>rfl
  |some f=>obtain⟨e,hf⟩:=cY h2;have:=gB hl ((h f).2 hf);rw[e,h1] at this;cases this
section
variable (Γ:Glo Tryz.prog)
theorem f256 (fs gs:List Fld)(hm:∀f,f∈gs↔f∈fs)(hsg:fu gs)(hnd:(fs.map Fld.name).Nodup)(hb:fs.length<big):CallOk Tryz.prog Γ 256 [.so 0 0 fs.length none,.fn 257 [] []] [(0,.cells (row ad fs) 112 true)] 1 true (.tp []) [(0,.cells (row ad gs) 112 true)] 1:=by
 refine⟨Nat.le_refl _,fun F ρ w0 O w xs hG m hf hv=>?_⟩;obtain⟨L,x,h1,h2,h3,c,rfl,h5,h6,h7,h8⟩:=m.own 0 (.cells (row ad fs) 112 true) (by simp[get]);simp only[RelL,Rel] at hv;obtain⟨y0,ys0,hxs,⟨L',k,g1,rfl,g2,g3,g4⟩,y1,ys1,rfl,⟨us,vs,rfl,e1,e2⟩,rfl⟩:=hv;rw[h1] at g1;cases g1;have e1':us=#[]:=Array.toList_eq_nil_iff.1 e1;have e2':vs=#[]:=Array.toList_eq_nil_iff.1 e2;subst e1';subst e2';have hxs':xs=#[.slice (some ⟨L.b,0,none⟩) fs.length k,.func (.func 257) #[] #[]]:=Array.ext' hxs;subst hxs';rw[ke] at h7;obtain⟨ds,d1,d2,d3⟩:=Bc fs h7;have hlen:ds.length=fs.length:=by rw[←d1,List.length_map]
 have hblk:L.b<w.heap.size:=by
  rcases Nat.lt_or_ge L.b w.heap.size with h|h
  ·exact h
  ·rw[Array.getElem?_eq_none h] at h3;cases h3
 have hcs:fs.length*8≤c.size:=by have:=h7.length;simp at this;omega
 have hH:HoldsK El.enc 8 w L.b 0 ds.toArray:=by
  intro j hj;have hj':j<ds.length*8:=(by simpa using hj);have hjc:j<c.size:=(by omega);have hg:(flatK El.enc 8 ds.toArray)[j]! = c[j]:=(by rw[getElem!_pos _ j hj];have:(flatK El.enc 8 ds.toArray).toList[j]?=c.toList[j]?:=(by rw[rF,d2,List.getElem?_take,if_pos (by omega)]);rw[Array.getElem?_toList,Array.getElem?_toList,Array.getElem?_eq_getElem hj,Array.getElem?_eq_getElem hjc] at this;exact Option.some.inj this);refine⟨?_,?_⟩
  ·rw[hg,Nat.zero_add];unfold World.cell?;simp only[h3];simp[Array.getElem?_eq_getElem hjc]
  ·unfold World.frozen?;simp[h3]
 have eg:∀args w,(callFunc 257 args).run Tryz.prog w=.ok (.enter 257 args) w:=enters_of Tryz.func257 (by kernel_rfl) rfl;have hcon:=AnyQ.slices_SortFunc Tryz.sortFld 8 Tryz.isAgg112 Tryz.sizeOf112 El.enc El.enc_len El.enc_one El.cmp IX 257 #[] L.b 0 k ds.toArray w eg (yU L.b 0 ds.toArray.size w) hH hblk (by simp only[big] at hb;simp;omega);change Calls Tryz.prog 256 _ _ _ at hcon;have hsz:ds.toArray.size=fs.length:=by simp[hlen]
 rw[hsz] at hcon;refine hcon.mono ?_;rintro e w' ⟨rfl,d',n,os,⟨hps,_,hpp⟩,hs,rfl⟩;rw[hsz] at hps;have hpp':d'.toList.Perm ds:=by
  have e3:(d'.extract 0 fs.length).toList=d'.toList:=(by rw[←hps];simp);have e4:(ds.toArray.extract 0 fs.length).toList=ds:=by rw[←hlen];simp
  rwa[e3,e4] at hpp
 have hdl:d'.toList.length=fs.length:=by simp[hps]
 have hgs:d'.toList.map (·.f)=gs:=by
  have hsd:fu (d'.toList.map (·.f)):=(by unfold fu;rw[List.pairwise_map,List.pairwise_iff_getElem];intro i j hi hj hij;have h9:=hs i j (Nat.zero_le _) hij (by omega);rw[EA,getElem!_pos d' j (by simpa using hj),getElem!_pos d' i (by simpa using hi)] at h9;have hnd2:(d'.toList.map (·.f.name)).Nodup:=(by have:(ds.map (·.f.name)).Nodup:=(by rw[←d1,List.map_map] at hnd;exact hnd);exact((hpp'.map (·.f.name)).nodup_iff).2 this);rw[List.Nodup,List.pairwise_map,List.pairwise_iff_getElem] at hnd2;have h10:=hnd2 i j hi hj hij;simp only[Array.getElem_toList] at h10 ⊢;exact aQ h9 (fun e=>h10 e.symm));refine ry hsd hsg fun nm=>Aj hsd hsg (fun f=>?_) nm
  rw[hm f,←d1,List.mem_map,List.mem_map];constructor
  ·rintro⟨x,hx,rfl⟩;exact⟨x,hpp'.mem_iff.1 hx,rfl⟩
  ·rintro⟨x,hx,rfl⟩;exact⟨x,hpp'.mem_iff.2 hx,rfl⟩
 have hcells:∀x∈d'.toList,RelL F ρ (ad x.f) x.enc:=fun x hx=>d3 x (hpp'.mem_iff.1 hx)
 have hrel:=RelL.rows d'.toList hcells;rw[hgs] at hrel;have hfl:=rF d'.toList;rw[Array.toArray_toList] at hfl;have hfs:(flatK El.enc 8 d').size=fs.length*8:=by simp[hps]
 have hgl:gs.length=fs.length:=by rw[←hgs,List.length_map,hdl]
 have hheap:∀j,j<w.heap.size→(sortWorldK El.enc 8 w L.b 0 n d' os).heap[j]?=if j=L.b then some (.cells (putCells id 0 (flatK El.enc 8 d') c) 112 (0,0)) else w.heap[j]?:=by
  intro j hj;unfold sortWorldK grow putRowK putRow mapBlock Sort.ahead;simp only;rw[Array.getElem?_append_left (by simpa using hj),Array.getElem?_modify];by_cases e:L.b=j
  ·subst e;rw[if_pos rfl,if_pos rfl,h3];rfl
  ·rw[if_neg e,if_neg (fun e'=>e e'.symm)]
 have hnewc:(putCells id 0 (flatK El.enc 8 d') c).toList.take (fs.length*8)=d'.toList.flatMap El.enc:=by
  rw[←hfl];apply List.ext_getElem?;intro t;rw[List.getElem?_take];split
  ·rename_i ht;rw[Array.getElem?_toList,Array.getElem?_toList];unfold putCells;rw[Array.getElem?_mapIdx,Array.getElem?_eq_getElem (show t<c.size by omega),Array.getElem?_eq_getElem (show t<(flatK El.enc 8 d').size by omega)];simp only[Option.map_some,Nat.zero_le,Nat.zero_add,hfs,ht,and_self,if_true,Nat.sub_zero,id];rw[getElem!_pos _ t (by omega)]
  ·rename_i ht;rw[Array.getElem?_toList,Array.getElem?_eq_none (by omega)]
 have hframe:∀j,j<w.heap.size→j≠L.b→(sortWorldK El.enc 8 w L.b 0 n d' os).heap[j]?=w.heap[j]?:=fun j hj hne=>by rw[hheap j hj,if_neg hne]
 have hsize:w.heap.size≤(sortWorldK El.enc 8 w L.b 0 n d' os).heap.size:=by unfold sortWorldK grow putRowK putRow mapBlock Sort.ahead;simp
 refine⟨F,ρ,.tuple #[],rfl,Ext.refl F ρ w0 O 1 1,⟨#[],rfl,rfl⟩,⟨fun b c' hb=>?_,fun i blk hg=>?_,fun i j Li Lj hi hj=>?_,fun i L2 hi hL=>?_,⟨m.fr.os,m.fr.tape,m.fr.output,Nat.le_trans m.fr.size hsize,fun j hj ho=>?_⟩⟩⟩
 ·obtain⟨e5,fr,h9⟩:=m.fro b c' hb;refine⟨e5,fr,?_⟩;have hb':b<w.heap.size:=by
   rcases Nat.lt_or_ge b w.heap.size with h|h
   ·exact h
   ·rw[Array.getElem?_eq_none h] at h9;cases h9
  rw[hframe b hb' (fun e=>by subst e;rw[h2] at hb;cases hb)];exact h9
 ·simp only[get] at hg;split at hg
  ·rename_i e5;subst e5;cases hg;refine⟨L,_,h1,h2,by rw[hheap L.b hblk,if_pos rfl],_,rfl,by unfold putCells;simpa using h5,h6,?_,fun ho=>by cases ho⟩;rw[ke,hgl,hnewc];exact hrel
  ·cases hg
 ·intro a1 a2 a3;simp only[get] at hi hj;split at hi
  ·split at hj
   ·rename_i e5 e6;rw[←e5,←e6]
   ·cases hj
  ·cases hi
 ·simp only[get] at hi;split at hi
  ·rename_i e5;subst e5;exact m.ours 0 L2 (by simp[get]) hL
  ·cases hi
 ·have hne:j≠L.b:=by
   intro e5;subst e5;rcases m.ours 0 L (by simp[get]) h1 with h|h
   ·exact ho h
   ·omega
  rw[hframe j (Nat.lt_of_lt_of_le hj m.fr.size) hne];exact m.fr.block j hj ho
end
end Go.V
set_option maxHeartbeats 4000000
namespace Go.V
open Go Go.Proofs
attribute [local irreducible] W bM WD aO yl aU bU
section
variable (Γ:Glo Tryz.prog)
attribute [local simp] veq bD eD V.del
theorem f72n:PureOk Tryz.prog Γ 72 [.nils] .nils:=by
 refine Y1 8 Tryz.func72 rfl rfl fun a hl g0=>?_
 refine GG ?_;exact⟨by simp,.nils,1,by simp[Tryz.f72, *],rfl⟩
theorem f72s:PureOk Tryz.prog Γ 72 [.sle] (.sl [] 0 (some 0)):=by
 refine Y1 8 Tryz.func72 rfl rfl fun a hl g0=>?_
 refine GG ?_;exact⟨by simp,.so 3 0 0 (some 0),100,by simp[Tryz.f72, *],by simp[vw,vwL,V.get]⟩
theorem f178 (r:Ty)(f:Fld)(hb:r.fields.length+1<big)(hs:fu r.fields)(hf:aj f.name r.fields=none):PureOk Tryz.prog Γ 178 [.ag (cTy r),.ag (ad f)] (.ag (cTy (dv r f))):=by
 refine PureOk.wk ?_ (AD (row ad (dz f r.fields)) (dz f r.fields).length (dz f r.fields) (Wk.refl _));cases hfs:r.fields with
 |nil=>
  rw[fC,hfs];have h1:=f72n Γ;have h2:=f72s Γ;have h3:=(f256 Γ [f] [f] (fun _=>Iff.rfl) (by simp[fu]) (by simp) (by simp[big])).ren [4] 6 rfl (by simp[co,fg,aV,aS]) (by simp) rfl;simp at h3;clear hb hs hf;refine Y2 18 Tryz.func178 rfl rfl fun a hl g0 g1=>?_
  (repeat' refine fM ?_);refine dM ?_;(repeat' first|refine eR ?_|refine gK ?_);refine db ?_;simp only[eH,cX,cV]
  refine se 0 (us:=[.int .i64 r.kind,.int .i64 r.lo,.int .i64 r.hi,sls aZ r.names]) rfl ?_ ?_
  ·simp only[V.put,if_true,List.cons_append,List.nil_append];refine GG ?_;refine aM h1 ?_;refine GG ?_;refine gn [(3,.cells (ad f) 112 false)] ?_;refine GG ?_;refine aw h3 ?_;refine GG ?_;exact⟨by simp,.ag [.int .i64 1,.int .i64 0,.int .i64 0,.nils,.so 4 0 1 none,.nils],40,by simp[Tryz.f178,V.get,V.put,aY, *],fL (by simp[aE,Val.closed]) (aI (aG rfl) (aI (aG rfl) (aI (aG rfl) (aI (aG rfl) (aI (by simpa[dz] using dD (k:=1) (cap:=none) (n:=33) (t:=112) (cs:=ad f) rfl (by simp) (by simp) (by simp)) (aI (aG rfl) bP))))))⟩
  ·simp only[V.put,if_true,List.cons_append,List.nil_append];refine GG ?_;refine aM h2 ?_;refine GG ?_;refine gn [(3,.cells (ad f) 112 false)] ?_;refine GG ?_;refine aw h3 ?_;refine GG ?_;exact⟨by simp,.ag [.int .i64 1,.int .i64 0,.int .i64 0,.nils,.so 4 0 1 none,.nils],40,by simp[Tryz.f178,V.get,V.put,aY, *],fL (by simp[aE,Val.closed]) (aI (aG rfl) (aI (aG rfl) (aI (aG rfl) (aI (aG rfl) (aI (by simpa[dz] using dD (k:=1) (cap:=none) (n:=33) (t:=112) (cs:=ad f) rfl (by simp) (by simp) (by simp)) (aI (aG rfl) bP))))))⟩
 |cons x0 r0=>
  rw[hfs] at hb hs hf;have h1:=(f72c Γ x0 r0 (by simp at hb;omega)).ren [] 3 rfl (by simp[co]) (by simp) rfl;simp at h1;have hnd:((x0::r0++[f]).map Fld.name).Nodup:=by
   rw[List.map_append,List.nodup_append];refine⟨?_,by simp,?_⟩
   ·rw[List.Nodup,List.pairwise_map];exact List.Pairwise.imp (fun h=>lv h) hs
   ·intro a ha b hb e;simp at hb;subst hb;subst e;obtain⟨g,hg1,hg2⟩:=List.mem_map.1 ha;have:=gB hs hg1;rw[hg2,hf] at this;cases this
  have h3:=(f256 Γ (x0::r0++[f]) (dz f (x0::r0)) (fun g=>by rw[rW];simp;constructor<;>(rintro(h|h|h)<;>simp[h])) (fx hs hf) hnd (by simp at hb ⊢;omega)).ren [10] 12 rfl (by simp[co,fg,aV,aS]) (by simp) rfl;have e1:row ad (x0::r0++[f])=row ad (x0::r0)++ad f:=(by rw[bf];simp);have e2:(x0::r0++[f]).length=r0.length+1+1:=(by simp);have e3:(dz f (x0::r0)).length=r0.length+1+1:=by
   have:∀l:List Fld,(dz f l).length=l.length+1:=by
    intro l;induction l with
    |nil=>rfl
    |cons g l ih=>rw[dz];split<;>simp[ih]
   rw[this];simp
  have e4:sls ad (x0::r0)=.sl (row ad (x0::r0)) (r0.length+1) none:=rfl;have e5:ad x0++row ad r0=row ad (x0::r0):=rfl;rw[e1,e2] at h3;try rw[e5] at h1
  rw[e3,fC,hfs,e4];have hc1:(row ad (x0::r0)).length=(r0.length+1)*8:=(by simp;omega);have hc2:aE (row ad (x0::r0))=true:=(by simp);have hc3:ae (row ad (x0::r0))=true:=(by simp);have hd1:(row ad (dz f (x0::r0))).length=(r0.length+1+1)*8:=(by rw[ke,e3]);have hd2:aE (row ad (dz f (x0::r0)))=true:=(by simp);have hlo:=fun N=>aD (N:=N) _ hc2
  have hlo2:=fun N=>aD (N:=N) _ hd2
  have hbn:r0.length+1+1<100000000000:=(by simp only[big] at hb;simpa using hb);generalize row ad (x0::r0)=cs at *
  generalize row ad (dz f (x0::r0))=gs at *
  generalize r0.length=n at *
  simp[hc2,hd2] at h3;have hb2:(n+1+1)*120≤140737488355328:=(by omega);have hnl:¬(n+1+1)*8≤(n+1)*8:=(by omega);have hta:List.take ((n+1)*8) cs=cs:=List.take_of_length_le (by omega);clear e1 e2 e3 e4 e5 hb hs hf hnd;refine Y2 18 Tryz.func178 rfl rfl fun a hl g0 g1=>?_
  refine GG ?_;refine bl h1 ?_;refine GG ?_;refine gn [(8,.cells cs 112 true),(9,.cells (ad f) 112 false)] ?_;refine GG ?_;refine aw h3 ?_;refine GG ?_;exact⟨by simp,.ag [.int .i64 1,.int .i64 0,.int .i64 0,.nils,.so 10 0 (n+1+1) none,.nils],gs.length+40,by simp[Tryz.f178,V.get,V.put,aY, *],fL (by simp[aE,Val.closed]) (aI (aG rfl) (aI (aG rfl) (aI (aG rfl) (aI (aG rfl) (aI (dD (t:=112) (cs:=gs) rfl (by simp[hd1]) hd2 (by omega)) (aI (aG rfl) bP))))))⟩
end
section
variable (Γ:Glo Tryz.prog)
attribute [local simp] veq
theorem BR (f:Fld):ad f=.str f.name :: .bool f.opt::cTy f.ty:=by cases f;rfl
theorem gd.srt {r:Ty}(h:gd r):fu r.fields:=h.parts.2.1
theorem pt {r:Ty}(h:fu r.fields)(n:Str):fu (bE r n).fields:=fv n h
theorem nt (r:Ty)(n m:Str):aj m (bE r n).fields=if n=m then none else aj m r.fields:=be m n r.fields
theorem B7 (n:Str)(l:List Fld):wFs (br n l)≤wFs l:=by
 induction l with
 |nil=>exact Nat.le_refl _
 |cons f l ih=>
  rw[br];split
  ·rw[cv];omega
  ·rw[cv,cv];omega
theorem Bu (f:Fld)(l:List Fld):wFs (dz f l)=f.name.length+1+wT f.ty+wFs l:=by
 induction l with
 |nil=>rw[dz,cv]
 |cons g l ih=>
  rw[dz];split
  ·rw[cv]
  ·rw[cv,ih,cv];omega
theorem CN (l:List Fld):wT (d8 l)=wFs l+1:=by simp[d8,wT,cw,wTs]
theorem mr (r:Ty)(n:Str):wT (bE r n)≤wT r:=by unfold bE;rw[CN];have:=B7 n r.fields;have:=jA r;omega
theorem DE (r:Ty)(f:Fld):wT (dv r f)≤wT r+f.name.length+1+wT f.ty:=by unfold dv;rw[CN,Bu];have:=jA r;omega
theorem f261 (r:Ty)(n:Str)(u:Ty)(hb:wT r+1<big)(hs:fu r.fields):PureOk Tryz.prog Γ 261 [.ag (cTy r),.str n,.ag (cTy u)] (.ag (cTy (eq r n u))):=by
 have h1:=f260 Γ r n (by omega);have h2:=f178 Γ (bE r n) (.mk n false u) (by have:=du (bE r n);have:=mr r n;omega) (pt hs n) (by rw[nt];simp[Fld.name]);rw[BR] at h2;simp only[Fld.name,Fld.opt,Fld.ty] at h2;unfold eq;generalize bE r n=r1 at *
 generalize dv r1 (.mk n false u)=r2 at *
 clear hs hb;refine Y3 14 Tryz.func261 rfl rfl fun a hl g0 g1 g2=>?_
 refine GG ?_;refine aM h1 ?_;refine GG ?_;refine aM h2 ?_;clear h1 h2;refine GG ?_;exact⟨by simp,.ag (cTy r2),1,by simp[Tryz.f261,V.get,V.put,aY, *],aG (by simp[Val.closed])⟩
def fQ:Prop:=∀(t:Ty)(d:Doc),wT t<big→wD d<big→PureOk Tryz.prog Γ 11 [.ag (cTy t),.ag (aJ d)] (.bool (cD t d))
theorem f179 (H:fQ Γ)(t:Ty)(d:Doc)(ht:wT t<big)(hd:wD d<big):PureOk Tryz.prog Γ 179 [.ag (cTy t),.ag (aJ d)] (.int .i64 (eQ t d)):=by
 have h1:=f27 Γ t ht;have h2:=f259 Γ t;have h3:=H t d ht hd;obtain⟨v,hv⟩:∃v,v=eQ t d:=⟨_,rfl⟩;rw[←hv];unfold eQ at hv;generalize bq t=p1 at *
 generalize eG t=p2 at *
 generalize cD t d=p3 at *
 clear ht hd;refine Y2 19 Tryz.func179 rfl rfl fun a hl g0 g1=>?_
 refine GG ?_;all_goals (try (refine aC h1 ?_))
 repeat' first|refine G1 ?_|(refine G2 ?_ ?_<;>intro hc hd<;>try exact hd.elim)|fail
 all_goals (try (refine aC h2 ?_))
 all_goals (repeat' first|refine G1 ?_|(refine G2 ?_ ?_<;>intro hc hd<;>try exact hd.elim)|fail)
 all_goals (try (refine aC h3 ?_))
 all_goals (repeat' first|refine G1 ?_|(refine G2 ?_ ?_<;>intro hc hd<;>try exact hd.elim)|fail)
 all_goals first|(have e:v=7:=(by grind [List.length_eq_zero_iff,aN,aR,aQ,aa]);(try clear hv);(try clear hv2);exact⟨by simp,.int .i64 v,1,by simp[Tryz.f179, *],rfl⟩)|(have e:v=8:=(by grind [List.length_eq_zero_iff,aN,aR,aQ,aa]);(try clear hv);(try clear hv2);exact⟨by simp,.int .i64 v,1,by simp[Tryz.f179, *],rfl⟩)|(have e:v=0:=(by grind [List.length_eq_zero_iff,aN,aR,aQ,aa]);(try clear hv);(try clear hv2);exact⟨by simp,.int .i64 v,1,by simp[Tryz.f179, *],rfl⟩)|(exact⟨by simp,.int .i64 v,1,(by simp[Tryz.f179, *]<;>grind [List.length_eq_zero_iff,aN,aR,aQ]),rfl⟩)
end
end Go.V
end
