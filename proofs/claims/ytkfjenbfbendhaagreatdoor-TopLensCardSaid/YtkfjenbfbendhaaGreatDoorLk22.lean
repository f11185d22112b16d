/-
  A part of a proof: P10 P11 Y6 Y7 Q1 Q2 L7.
-/
import Derived.Test.YtkfjenbfbendhaaGreatDoorLk01
import Derived.Test.YtkfjenbfbendhaaGreatDoorLk16
import Derived.Test.YtkfjenbfbendhaaGreatDoorLk17
import Derived.Test.YtkfjenbfbendhaaGreatDoorLk20
import Derived.Test.YtkfjenbfbendhaaGreatDoorLk21
import Derived.Shelf.SlSortCmp.WholeK
import Derived.Shelf.Small.Strs
set_option linter.unusedSimpArgs false
set_option linter.unusedVariables false
section
namespace Go.V
theorem pZ:∀l m:List Lns,bJ (l++m)=bJ l+bJ m
 |[],m=>by simp[bJ]
 |s::l,m=>by simp only[List.cons_append,bJ,pZ l m];omega
theorem nW:∀l m:List Lns,ak (l++m)=max (ak l) (ak m)
 |[],m=>by simp[ak]
 |s::l,m=>by simp only[List.cons_append,ak,nW l m];omega
mutual
theorem vN:∀s:Lns,jK (turnN s)=jK s
 |.mk k a b t d sw l=>by
  rw[turnN,jK,jK]
  split
  ·
   exact kO l
  ·
   rfl
theorem kO:∀l:List Lns,bJ (bU l)=bJ l
 |[]=>rfl
 |s::r=>by
  have h1:=vN s
  have h2:=kO r
  rw[bU,pZ,h2]
  simp only[bJ,h1]
  omega
end
mutual
theorem tE:∀s:Lns,ir (turnN s)=ir s
 |.mk k a b t d sw l=>by
  rw[turnN,ir,ir]
  split
  ·
   exact e9 l
  ·
   rfl
theorem e9:∀l:List Lns,ak (bU l)=ak l
 |[]=>rfl
 |s::r=>by
  have h1:=tE s
  have h2:=e9 r
  rw[bU,nW,h2]
  simp only[ak,h1]
  omega
end
mutual
theorem vn:∀d:Doc,cR d≤cr d
 |.mk k n s ks ds=>by
  have:=sm ds
  rw[cR,cr]
  split<;>omega
theorem sm:∀l:List Doc,cRs l≤cS l
 |[]=>Nat.le_refl _
 |d::r=>by
  have:=vn d
  have:=sm r
  rw[cRs,cS]
  omega
end
structure Lz (t:Ty)(l:List Lns)(u:Ty):Prop where
 gt:gd t
 gu:gd u
 to:bQ l t 0=.ok u
 back:bQ (bU l) u 0=.ok t
 size:bJ l≤64
 deep:ak l≤8
def NZ (x:Except Int Ty):Prop:=∀e,x=.error e→e≠0
theorem NZ.ok (t:Ty):NZ (.ok t):=fun e h=>by cases h
theorem NZ.err {e:Int}(h:e≠0):NZ (.error e):=fun e' h'=>by cases h';exact h
theorem NZ.ite {c:Prop} [Decidable c]{x y:Except Int Ty}(h1:c→NZ x)(h2:¬c→NZ y):NZ (if c then x else y):=by
 by_cases h:c
 ·
  rw[if_pos h];exact h1 h
 ·
  rw[if_neg h];exact h2 h
theorem sU:∀(l:List Lns)(r:Ty)(k:Nat)(e:Nat×Int),bQ l r k=.error e→e.2≠0:=by
 intro l
 have step:∀s:Lns,(∀(r:Ty) (k:Nat) (e:Nat×Int),bQ s.subs r k=.error e→e.2≠0)→∀(r:Ty) (e:Int),eu s r=.error e→e≠0:=by
  intro s ih r e he
  obtain⟨k,a,b,ty,d,sw,subs⟩:=s
  simp only[Lns.subs] at ih
  suffices hP:NZ (eu (.mk k a b ty d sw subs) r) from hP e he
  rw[eu]
  repeat' (first|exact NZ.ok _|exact NZ.err (by decide)|(refine NZ.ite ?_ ?_<;>intro _)|split)
  all_goals first
   |exact NZ.err (by assumption)
   |exact NZ.err (ih _ _ _ (by assumption))
 have main:∀l:List Lns,(∀s∈l,∀(r:Ty) (e:Int),eu s r=.error e→e≠0)→∀(r:Ty) (k:Nat) (e:Nat×Int),bQ l r k=.error e→e.2≠0:=by
  intro l
  induction l with
  |nil=>intro _ r k e he;simp[bQ] at he
  |cons s l ih=>
   intro hs r k e he
   rw[bQ] at he
   split at he
   ·
    split at he
    ·
     exact ih (fun s' h'=>hs s' (by simp[h'])) _ _ _ he
    ·
     simp only[Except.error.injEq] at he;subst he;exact(show(2:Int)≠0 by decide)
   ·
    rename_i e0 h0
    simp only[Except.error.injEq] at he
    subst he
    exact hs s (by simp) r e0 h0
 have key:∀s:Lns,∀(r:Ty) (k:Nat) (e:Nat×Int),bQ s.subs r k=.error e→e.2≠0:=by
  intro s
  induction s using Lns.ind with
  |h s ih=>exact main _ fun x hx=>step x (ih x hx)
 exact main l fun s _=>step s (key s)
theorem xX {t:Ty}{l:List Lns}(h:(bC t l).2.2=0):∃u,Lz t l u∧bC t l=(u,l.length,0):=by
 unfold bC at h ⊢
 by_cases h1:bq t=false∨t.kind≠1
 ·
  rw[if_pos h1] at h;cases h
 rw[if_neg h1] at h ⊢
 by_cases h2:64<bJ l
 ·
  rw[if_pos h2] at h;cases h
 rw[if_neg h2] at h ⊢
 by_cases h3:8<ak l
 ·
  rw[if_pos h3] at h;cases h
 rw[if_neg h3] at h ⊢
 simp only[not_or,Bool.not_eq_false,Decidable.not_not] at h1
 have hg:gd t:=⟨h1.1,h1.2⟩
 have hne:=sU
 cases hs:bQ l t 0 with
 |ok u=>
  obtain⟨b1,b2⟩:=Cz l t u hg hs
  exact⟨u,⟨hg,b1,hs,b2,by omega,by omega⟩,rfl⟩
 |error e=>
  rw[hs] at h
  exact(hne l t 0 e hs h).elim
theorem Lz.target_back {t u:Ty}{l:List Lns}(h:Lz t l u):(bC u (bU l)).2.2=0:=by
 unfold bC
 rw[if_neg (by simp[h.gu.right,h.gu.kind]),if_neg (by rw[kO];have:=h.size;omega),if_neg (by rw[e9];have:=h.deep;omega),h.back]
def wSt (s:St):Nat:=wRs s.res+wD s.doc
def most:Nat:=33000000
structure Thru (e:Int)(t:Ty)(l:List Lns)(u:Ty)(d d':Doc)(A B:Plc→Option Doc):Prop where
 lz:Lz t l u
 v:cQ t d=true
 out:okT u d'=true∧rightD d'=true
 supA:∀p,¬rL e [] [] 0 p→A p=none
 supB:∀p,¬rL e [] [] 0 p→B p=none
 first:∀w,srt w.res→(∀p,rL e [] [] 0 p→pd p w.res=none)→wW w+wD d+most<lim→
  ∃w' g',ej e false l 0 [] [] w (ofD d)=some (w',g')∧ar g'=d'∧srt w'.res∧(∀p,rL e [] [] 0 p→pd p w'.res=B p)∧(∀p,¬rL e [] [] 0 p→pd p w'.res=pd p w.res)∧w'.err=w.err∧wW w'+wD d'≤wW w+wD d+most
 again:∀w,srt w.res→(∀p,rL e [] [] 0 p→pd p w.res=A p)→wW w+wD d+most<lim→
  ∃w' g',ej e false l 0 [] [] w (ofD d)=some (w',g')∧ar g'=d'∧srt w'.res∧(∀p,rL e [] [] 0 p→pd p w'.res=B p)∧(∀p,¬rL e [] [] 0 p→pd p w'.res=pd p w.res)∧w'.err=w.err∧wW w'+wD d'≤wW w+wD d+most
 back:∀w,srt w.res→(∀p,rL e [] [] 0 p→pd p w.res=B p)→wW w+wD d'+most<lim→
  ∃w' g',ej e true l 0 [] [] w (ofD d')=some (w',g')∧ar g'=d∧srt w'.res∧(∀p,rL e [] [] 0 p→pd p w'.res=A p)∧(∀p,¬rL e [] [] 0 p→pd p w'.res=pd p w.res)∧w'.err=w.err∧wW w'+wD d≤wW w+wD d'+most
theorem wM {x:Doc}(hr:rightD x=true){t:Ty}(hk:t.kind=1)(h:okT t x=true):okK x=true:=(nF hr hk h).2.2
theorem rj {e:Int}{C:Nat}{run:Wlk→Flds→Option (Wlk×Flds)}{f f':Flds}{x x':Doc}{A B:Plc→Option Doc}(h:Act (rL e [] [] 0) C run f A f' B)(hC:C≤most)(hx:ar (ofD x)=x)(he:eqM (ofD x) f)(hn:bl f')(hx':ar f'=x') :
  ∀w,srt w.res→(∀p,rL e [] [] 0 p→pd p w.res=A p)→wW w+wD x+most<lim→
  ∃w' g',run w (ofD x)=some (w',g')∧ar g'=x'∧srt w'.res∧(∀p,rL e [] [] 0 p→pd p w'.res=B p)∧(∀p,¬rL e [] [] 0 p→pd p w'.res=pd p w.res)∧w'.err=w.err∧wW w'+wD x'≤wW w+wD x+most:=by
 intro w h1 h2 h3
 have k1:=u9 hx
 obtain⟨w',g',q1,q2,q3,q4,q5,q6,q7,q8⟩:=(h.mono hC) w (ofD x) (cj x) he h1 h2 (by omega)
 have e1:ar g'=x':=(jE q2 hn q3).trans hx'
 refine⟨w',g',q1,e1,q4,q5,q6,q7,?_⟩
 have:=gA g'
 rw[e1] at this
 omega
theorem Fd (e:Int){t u:Ty}{l:List Lns}{d:Doc}(h:Lz t l u)(hv:cQ t d=true):∃d' A B,Thru e t l u d d' A B:=by
 obtain⟨_,v2,v3⟩:=(gT t d).1 hv
 obtain⟨_,v4,v5⟩:=(eZ d).1 v2
 obtain⟨r1,r2,r3⟩:=nF v5 h.gt.kind v3
 obtain⟨f',A,B,j1,j2,j3,j4⟩:=A9 l e [] [] 0 t u (ofD d) h.gt h.to r1 (by have:=h.deep;simp;omega)
 have hC:ia (bJ l) (cF (ofD d))≤most:=by
  have k1:=si r2
  have k2:=vn d
  have k3:bJ l*(1+cF (ofD d))≤64*512:=Nat.mul_le_mul h.size (by omega)
  unfold ia most
  omega
 exact⟨ar f',A,B,h,hv,vA h.gu j2,j4.supA,j4.supB,rj j4.first hC r2 (eqM.refl _) j2.nod rfl,rj j4.again hC r2 (eqM.refl _) j2.nod rfl,rj j4.back hC (iS j2.nod) (gg j2.nod) (cj d) r2⟩
theorem sD {t:Ty}{l:List Lns}{e:Int}{bk:Bool}{s:St}{w:Wlk}{g:Flds}(h1:(bC t (if bk then bU l else l)).2.2=0)(h2:br s.res=true)(h3:cQ t s.doc=true)(h4:okK s.doc=true)(h5:ej e bk l 0 [] [] ⟨s.res,[],0⟩ (ofD s.doc)=some (w,g))(h6:w.err=0) :
  goB t l e bk s=some (if br w.res=false then (da,1) else if dH (ar g)=false then (da,2) else (⟨ar g,w.res⟩,0)):=by
 unfold goB mN
 rw[h1]
 simp only[ne_eq,not_true_eq_false,if_false,h2,h3,h4,h5,h6,Bool.true_eq_false,if_true]
 split
 ·
  rfl
 ·
  split<;>rfl
theorem AY {t:Ty}{l:List Lns}{e:Int}{bk:Bool}{s:St}(h:(bC t (if bk then bU l else l)).2.2≠0):goB t l e bk s=some (da,(bC t (if bk then bU l else l)).2.2):=by
 unfold goB mN
 simp only[h,ne_eq,not_false_eq_true,if_true,Option.map_some]
theorem yR {t:Ty}{l:List Lns}{e:Int}{bk:Bool}{s:St}(h1:(bC t (if bk then bU l else l)).2.2=0)(h2:br s.res=true)(h3:cQ t s.doc=false):goB t l e bk s=some (da,7):=by
 unfold goB mN
 rw[h1]
 simp only[ne_eq,not_true_eq_false,if_false,h2,h3,Bool.true_eq_false,if_true,Option.map_some]
theorem m7:br []=true:=rfl
theorem yZ (t:Ty)(l:List Lns)(d:Doc)(hw:wD d<300000000) :
  ∃x f,goB t l 0 false ⟨d,[]⟩=some (x,f)∧wSt x<400000000∧
   (f≠0→((bC t l).2.2≠0∧f=(bC t l).2.2)∨cQ t d=false∨f=2∨f=1)∧
   (f=0→∃u,bC t l=(u,l.length,0)∧Lz t l u∧∃y g,goB u l 0 true x=some (y,g)∧wSt y<500000000∧(g≠0→g=1∨g=2)∧
    (g=0→goB t l 0 false y=some (x,0)∧y.doc=d∧cQ u x.doc=true)):=by
 by_cases he:(bC t l).2.2=0
 case neg=>
  refine⟨da,(bC t l).2.2,AY (bk:=false) he,by decide,fun _=>.inl ⟨he,rfl⟩,fun h=>(he h).elim⟩
 obtain⟨u,hz,ht⟩:=xX he
 cases hv:cQ t d with
 |false=>exact⟨da,7,yR (bk:=false) he m7 hv,by decide,fun _=>.inr (.inl rfl),fun h=>by cases h⟩
 |true=>
  obtain⟨d',A,B,T⟩:=Fd 0 hz hv
  obtain⟨_,v2,v3⟩:=(gT t d).1 hv
  have v5:=((eZ d).1 v2).2.2
  have hk:=wM v5 hz.gt.kind v3
  have hk':=wM T.out.2 hz.gu.kind T.out.1
  obtain⟨w1,g1,a1,a2,a3,a4,a5,a6,a7⟩:=T.first ⟨[],[],0⟩ (by simp[srt]) (fun _ _=>rfl) (by simp[wW,wRs,most,lim];omega)
  have G1:=sD (s:=⟨d,[]⟩) (bk:=false) he m7 hv hk a1 a6
  rw[a2] at G1
  have hw1:wRs w1.res+wD d'≤wD d+most:=by simp only[wW,wRs] at a7;omega
  have e1:∀p,pd p w1.res=B p:=fun p=>by
   by_cases hp:rL 0 [] [] 0 p
   ·
    exact a4 p hp
   ·
    rw[a5 p hp,T.supB p hp];rfl
  cases hr1:br w1.res with
  |false=>rw[hr1] at G1;exact⟨da,1,G1,by decide,fun _=>.inr (.inr (.inr rfl)),fun h=>by cases h⟩
  |true=>
  cases hd1:dH d' with
  |false=>rw[hr1,hd1] at G1;exact⟨da,2,G1,by decide,fun _=>.inr (.inr (.inl rfl)),fun h=>by cases h⟩
  |true=>
  rw[hr1,hd1] at G1
  simp only[Bool.true_eq_false,if_false] at G1
  refine⟨⟨d',w1.res⟩,0,G1,by simp only[wSt,most] at *;omega,fun h=>(h rfl).elim,fun _=>⟨u,ht,hz,?_⟩⟩
  have hv':cQ u d'=true:=(gT u d').2 ⟨hz.gu.right,hd1,T.out.1⟩
  obtain⟨w2,g2,b1,b2,b3,b4,b5,b6,b7⟩:=T.back ⟨w1.res,[],0⟩ a3 (fun p _=>e1 p) (by simp only[wW,wRs,most,lim] at *;omega)
  have G2:=sD (s:=⟨d',w1.res⟩) (bk:=true) hz.target_back hr1 hv' hk' b1 b6
  rw[b2] at G2
  have hw2:wRs w2.res+wD d≤wD d+most+most:=by simp only[wW,wRs] at b7;omega
  have e2:∀p,pd p w2.res=A p:=fun p=>by
   by_cases hp:rL 0 [] [] 0 p
   ·
    exact b4 p hp
   ·
    rw[b5 p hp,T.supA p hp]
    show pd p w1.res=none
    rw[e1 p,T.supB p hp]
  cases hr2:br w2.res with
  |false=>rw[hr2] at G2;exact⟨da,1,G2,by decide,fun _=>.inl rfl,fun h=>by cases h⟩
  |true=>
  rw[hr2,v2] at G2
  simp only[Bool.true_eq_false,if_false] at G2
  refine⟨⟨d,w2.res⟩,0,G2,by simp only[wSt,most] at *;omega,fun h=>(h rfl).elim,fun _=>⟨?_,rfl,hv'⟩⟩
  obtain⟨w3,g3,c1,c2,c3,c4,c5,c6,c7⟩:=T.again ⟨w2.res,[],0⟩ b3 (fun p _=>e2 p) (by simp only[wW,wRs,most,lim] at *;omega)
  have G3:=sD (s:=⟨d,w2.res⟩) (bk:=false) he hr2 hv hk c1 c6
  have e3:w3.res=w1.res:=CR c3 a3 fun p=>by
   by_cases hp:rL 0 [] [] 0 p
   ·
    rw[c4 p hp,e1 p]
   ·
    rw[c5 p hp]
    show pd p w2.res=pd p w1.res
    rw[e2 p,e1 p,T.supA p hp,T.supB p hp]
  rw[c2,e3,hr1,hd1] at G3
  simpa using G3
end Go.V
end
section
namespace Go.V
theorem kX {n:Nat}:∀{l:List Str},(∀s∈l,s.length≤n)→dD l≤l.length*(n+1)
 |[],_=>by simp[dD]
 |s::l,h=>by
  have h1:=h s (by simp)
  have h2:=kX (l:=l) fun x hx=>h x (by simp[hx])
  rw[dD,List.length_cons,Nat.add_mul]
  omega
theorem nh:∀{p:Option Str}{l:List Str},ed p l=true→∀s∈l,s.length≤256
 |p,[],_=>by simp
 |p,x::l,h=>by
  have hh:x.length≤256∧ed (some x) l=true:=by
   cases p<;>(simp only[ed,Bool.and_eq_true,decide_eq_true_eq] at h;exact⟨h.1.1,h.2⟩)
  intro s hs
  rcases List.mem_cons.1 hs with rfl|hs
  ·
   exact hh.1
  ·
   exact nh hh.2 s hs
theorem rY:∀(l:List Fld),(∀f∈l,f.name.length≤16∧wT f.ty+100≤9000*dG f.ty)→wFs l≤9000*cn l
 |[],_=>by simp[wFs]
 |f::l,h=>by
  have h1:=h f (by simp)
  have h2:=rY l fun x hx=>h x (by simp[hx])
  obtain⟨n,o,t⟩:=f
  simp only[Fld.name,Fld.ty] at h1
  rw[wFs,cn,Nat.mul_add]
  omega
theorem zf (t:Ty):fV t=true→wT t+100≤9000*dG t:=by
 induction t using Ty.ind with
 |h t ih1 ih2=>
 intro h
 rw[nH,Bool.and_eq_true] at h
 obtain⟨hb,h⟩:=h
 have e1:=go t
 have e2:=iX t
 unfold lD at hb
 simp only[Bool.and_eq_true,Bool.or_eq_true,decide_eq_true_eq,List.isEmpty_iff] at hb
 obtain⟨⟨⟨b1,b2⟩,b3⟩,_⟩:=hb
 have k1:dD t.names≤8224:=by
  rcases b2 with b2|b2
  ·
   rw[if_neg (by omega),if_neg (by omega),if_neg (by omega),if_neg (by omega),if_neg (by omega),if_pos b2] at h
   unfold lS at h
   simp only[Bool.and_eq_true,decide_eq_true_eq] at h
   have h1:=kX (n:=256) (nh h.1.1)
   have h2:t.names.length*257≤32*257:=Nat.mul_le_mul_right _ h.2
   omega
  ·
   rw[b2];simp[dD]
 have k2:wFs t.fields≤9000*cn t.fields:=by
  rcases b1 with b1|b1
  ·
   rw[if_pos b1,Bool.and_eq_true,kK] at h
   refine rY _ fun f hf=>?_
   obtain⟨_,_,h3⟩:=h.1
   exact⟨jJ (h3 f hf).1,ih1 f hf (h3 f hf).2⟩
  ·
   rw[b1];simp[wFs]
 have k3:wTs t.of≤9000*co t.of:=by
  rcases b3 with b3|b3
  ·
   unfold tq at b3
   simp only[Bool.or_eq_true,decide_eq_true_eq] at b3
   rw[if_neg (by omega),if_pos b3] at h
   simp only[Bool.and_eq_true,decide_eq_true_eq] at h
   cases ho:t.of with
   |nil=>simp[wTs]
   |cons u r=>
    rw[ho] at h
    have hr:r=[]:=by have:=h.1.1.1;simpa using this
    have:=ih2 u (by rw[ho];simp) (by have:=h.2;simpa[km] using this)
    rw[hr]
    simp only[wTs,co]
    omega
  ·
   rw[b3];simp[wTs]
 omega
theorem ny {t:Ty}(h:bq t=true):wT t≤1152000:=by
 obtain⟨h1,_,h3⟩:=(fe t).1 h
 have:=zf t h3
 omega
theorem mb:∀{l:List Lns}{r u:Ty}{k:Nat},bq r=true→bQ l r k=.ok u→bq u=true
 |[],r,u,k,hr,h=>by simp only[bQ,Except.ok.injEq] at h;subst h;exact hr
 |s::l,r,u,k,_,h=>by
  obtain⟨r1,_,h2,h3⟩:=fF.1 h
  exact mb h2 h3
theorem Dc {s:Lns}{r R:Ty}(hg:gd r)(h:Did s r R):wT R≤4000000+wN s:=by
 have hr:=ny hg.right
 have hw:=eM s
 have e0:=go r
 have del:∀n,wFs (bZ n r.fields)≤wFs r.fields:=fun n=>by
  generalize r.fields=l
  induction l with
  |nil=>exact Nat.le_refl _
  |cons f l ih=>
   rw[bZ]
   split
   ·
    rw[cO];omega
   ·
    rw[cO,cO];omega
 have dels:∀n (l:List Fld),wFs (bZ n l)≤wFs l:=fun n l=>by
  induction l with
  |nil=>exact Nat.le_refl _
  |cons f l ih=>
   rw[bZ]
   split
   ·
    rw[cO];omega
   ·
    rw[cO,cO];omega
 have ins:∀(f:Fld) (l:List Fld),wFs (dU f l)=f.name.length+1+wT f.ty+wFs l:=fun f l=>by
  induction l with
  |nil=>rw[dU,cO]
  |cons g l ih=>
   rw[dU]
   split
   ·
    rw[cO]
   ·
    rw[cO,ih,cO];omega
 have ins':∀(n:Str) (o:Bool) (t:Ty) (l:List Fld),wFs (dU (.mk n o t) l)=n.length+1+wT t+wFs l:=fun n o t l=>ins (.mk n o t) l
 have recw:∀l:List Fld,wT (dA l)=wFs l+1:=fun l=>by simp[dA,wT,dD,wTs]
 have setw:∀(a:Str) (t:Ty),wFs (fM a t r.fields)≤a.length+1+wT t+wFs r.fields:=fun a t=>by
  unfold fM
  rw[ins']
  have:=del a
  omega
 cases h with
 |ren f hk hf hn hb=>
  have:=fG (cD hf).2
  have:=del s.a
  rw[recw,ins']
  omega
 |add hk hn ha he=>rw[recw,ins'];omega
 |rem f hk hf ho ht he=>have:=del s.a;rw[recw];omega
 |hoist f g hk hf ho ht hg' hgo hb=>
  have h1:=fG (cD hf).2
  have h2:=fG (cD hg').2
  have h3:=setw s.a (dA (bZ s.b f.ty.fields))
  have h4:=dels s.b f.ty.fields
  have h5:=go f.ty
  rw[recw] at h3
  rw[recw,ins]
  omega
 |plunge f g hk hf ho hg' hgo ht hab hb=>
  have h1:=fG (cD hf).2
  have h2:=fG (cD hg').2
  have h3:=setw s.a (dA (dU g f.ty.fields))
  have h4:=dels s.b (fM s.a (dA (dU g f.ty.fields)) r.fields)
  have h5:=go f.ty
  rw[recw,ins] at h3
  rw[recw]
  omega
 |wrap f hk hf ho hs=>
  have h1:=fG (cD hf).2
  have h3:=setw s.a (.mk 3 1 1 [] [] [f.ty])
  have h4:wT (.mk 3 1 1 [] [] [f.ty])=wT f.ty+1:=by simp[wT,dD,wFs,wTs]
  rw[recw]
  omega
 |head f t ns fs ts hk hf ho ht hs=>
  have h1:=fG (cD hf).2
  have h3:=setw s.a t
  have h4:wT t<wT f.ty:=lc (by rw[ht];simp[Ty.of])
  rw[recw]
  omega
 |conv f hk hf ho ht hs=>omega
 |ins f t hk hf ho ht hs=>
  have h3:=setw s.a t
  have h4:=ny (mb (hg.fld hf).2.2 hs)
  rw[recw]
  omega
 |each f lo hi ns fs t ts u hk hf ho ht htk hs=>
  have h1:=fG (cD hf).2
  obtain⟨v,hv,hv2⟩:=gj (hg.fld hf).2.2 (by rw[ht];exact .inl rfl)
  have hft:v=t∧ns=[]∧fs=[]:=by
   rw[ht] at hv
   simp only[Ty.kind,Ty.lo,Ty.hi,Ty.mk.injEq,List.cons.injEq] at hv
   exact⟨hv.2.2.2.2.2.1.symm,hv.2.2.2.1,hv.2.2.2.2.1⟩
  obtain⟨rfl,rfl,rfl⟩:=hft
  have h3:=setw s.a (.mk 2 lo hi [] [] [u])
  have h4:=ny (mb hv2 hs)
  have h5:wT (.mk 2 lo hi [] [] [u])=wT u+1:=by simp[wT,dD,wFs,wTs]
  rw[recw]
  omega
end Go.V
end
section
set_option maxHeartbeats 4000000
namespace Go.V
open Go Go.Proofs
attribute [local irreducible] W bO WD aO yl aS bW
section
variable (Γ:Glo Tryz.prog)
attribute [local simp] veq bP ei V.del
theorem Cy (it:Nat→Str)(HI:∀k:Nat,k<1000000000→PureOk Tryz.prog Γ 65 [.int .i64 k] (.str (it k)))(t:Ty):bq t=true→wv Γ it t:=by
 induction t using Ty.ind with
 |h t ih1 ih2=>
 intro hr d p fs hd hwd hp hX
 have hw:wT t<1000000000:=by have:=ny hr;omega
 have hdt:=jD t
 have hdk:=((dO d).1 hd).2.2
 have hf:=jR it t d p
 have hf3:cy t d=0∨cy t d=7∨cy t d=8:=by
  unfold cy
  repeat' split
  all_goals omega
 rw[hf] at hX ⊢
 clear hf
 by_cases h7:cy t d=7
 ·
  rw[if_neg (by omega),if_pos h7,List.append_nil] at hX ⊢
  rw[h7]
  exact f210t Γ t d p fs (by unfold big;omega) h7 (by simp only[List.length_append] at hX;omega)
 have hk:=ov h7
 rw[if_neg h7] at hX ⊢
 by_cases k1:t.kind=1
 ·
  have h0:cy t d=0:=by
   unfold cy at h7 ⊢
   simp only[k1] at h7 ⊢
   simp at h7 ⊢
   exact h7
  rw[if_pos h0,if_pos k1,List.nil_append] at hX ⊢
  have hdk1:d.kind=1:=by rw[if_neg (by omega)] at hk;omega
  refine f210r Γ t d p fs _ (by unfold big;omega) h0 k1 (f208 Γ it t d p fs hw hwd k1 (mD hd (.inl hdk1)) hdk (by omega) hX ?_)
  intro f hf
  exact ih1 f hf ((gd.mk hr k1).parts.2.2 f hf).2
 rw[if_neg k1] at hX ⊢
 by_cases k2:t.kind=2
 ·
  obtain⟨u,hu0,hru⟩:=gj hr (.inl k2)
  have hu:t.of=[u]:=by rw[hu0];rfl
  clear hu0
  have hl:=mD hd (by rw[if_neg (by omega)] at hk;right;omega)
  have hpu:p.length+cZ u+1<1000000:=by
   rw[hu] at hdt;simp only[dT] at hdt;omega
  have hA:=ih2 u (by rw[hu];simp) hru
  rw[if_pos k2,hu,hU] at hX ⊢
  rcases hf3 with h0|h0|h0
  ·
   rw[if_pos h0,List.nil_append] at hX ⊢
   exact f210k2z Γ t d p fs it u (by unfold big;omega) hwd h0 k2 hu hpu hdk hX hA hl
  ·
   exact(h7 h0).elim
  ·
   rw[if_neg (by omega),h0,←List.append_assoc] at hX ⊢
   exact f210k2e Γ t d p fs it u (by unfold big;omega) hwd h0 k2 hu hpu hdk hX hA hl
 rw[if_neg k2] at hX ⊢
 by_cases k3:t.kind=3
 ·
  obtain⟨u,hu0,hru⟩:=gj hr (.inr k3)
  have hu:t.of=[u]:=by rw[hu0];rfl
  clear hu0
  have hpu:p.length+cZ u+1<1000000:=by
   rw[hu] at hdt;simp only[dT] at hdt;omega
  have hA:=ih2 u (by rw[hu];simp) hru
  have hit:∀k:Nat,k<d.kids.length→PureOk Tryz.prog Γ 65 [.int .i64 k] (.str (it k)):=fun k h=>HI k (by have:=fP d;omega)
  rw[if_pos k3,hu,hY] at hX ⊢
  rcases hf3 with h0|h0|h0
  ·
   rw[if_pos h0,List.nil_append] at hX ⊢
   exact f210k3z Γ t d p fs it u (by unfold big;omega) hwd h0 k3 hu hpu hdk hX hA hit
  ·
   exact(h7 h0).elim
  ·
   rw[if_neg (by omega),h0,←List.append_assoc] at hX ⊢
   exact f210k3e Γ t d p fs it u (by unfold big;omega) hwd h0 k3 hu hpu hdk hX hA hit
 rw[if_neg k3,List.append_nil] at hX ⊢
 rcases hf3 with h0|h0|h0
 ·
  rw[if_pos h0,List.append_nil]
  exact f210n Γ t d p fs (by unfold big;omega) h0 k1 k2 k3
 ·
  exact(h7 h0).elim
 ·
  rw[if_neg (by omega),h0] at hX ⊢
  exact f210e Γ t d p fs (by unfold big;omega) h0 k1 k2 k3 (by simp only[List.length_append] at hX;omega)
theorem pe (d:Doc):cr d=cS d.kids+1:=by cases d;rfl
theorem xU {l:List Doc}{x:Doc}(h:x∈l):cr x≤cS l:=by
 induction l with
 |nil=>cases h
 |cons y l ih=>
  rw[cS]
  rcases List.mem_cons.1 h with rfl|h
  ·
   omega
  ·
   have:=ih h;omega
theorem rI:∀l:List Doc,l.length≤cS l
 |[]=>Nat.zero_le _
 |x::l=>by rw[cS,List.length_cons,pe];have:=rI l;omega
theorem qi {g:Doc→List Str→List Flt}{c:Nat}:∀{ks:List Str}{ds:List Doc}{p:List Str},(∀d∈ds,∀p,(g d p).length≤c*cr d)→(cM g ks ds p).length≤c*cS ds
 |[],_,p,_=>by simp[cM]
 |_::_,[],p,_=>by simp[cM]
 |k::ks,d::ds,p,h=>by
  rw[cM,List.length_append,cS,Nat.mul_add]
  have:=h d (by simp) (p++[k])
  have:=qi (ks:=ks) (ds:=ds) (p:=p) fun x hx=>h x (by simp[hx])
  omega
theorem qk {it:Nat→Str}{g:Doc→List Str→List Flt}{c:Nat}:∀{ds:List Doc}{i:Nat}{p:List Str},(∀d∈ds,∀p,(g d p).length≤c*cr d)→(cU it g ds i p).length≤c*cS ds
 |[],i,p,_=>by simp[cU]
 |d::ds,i,p,h=>by
  rw[cU,List.length_append,cS,Nat.mul_add]
  have:=h d (by simp) (p++[it i])
  have:=qk (it:=it) (ds:=ds) (i:=i+1) (p:=p) fun x hx=>h x (by simp[hx])
  omega
theorem rC {fs:List Fld}{p:List Str}:∀ks:List Str,(dL fs p ks).length≤ks.length
 |[]=>by simp[dL]
 |s::r=>by
  rw[dL,List.length_append,List.length_cons]
  have:=rC (fs:=fs) (p:=p) r
  split<;>simp<;>omega
theorem nY {it:Nat→Str}{d:Doc}:∀{fs:List Fld}{p:List Str},(∀f∈fs,∀x∈d.kids,∀p,(aV it f.ty x p).length≤2*dG f.ty*cr x)→(bX it fs d p).length≤2*cn fs*cr d
 |[],p,_=>by simp[bX]
 |.mk n o t::r,p,h=>by
  rw[bX,cn,List.length_append,Nat.mul_add,Nat.add_mul]
  have h1:=nY (it:=it) (d:=d) (fs:=r) (p:=p) fun f hf=>h f (by simp[hf])
  have h2:1≤2*dG t*cr d:=by
   have a1:1≤dG t:=by rw[iX];omega
   have a2:1≤cr d:=by rw[pe];omega
   exact Nat.mul_pos (by omega) a2
  cases hk:dl n d.keys d.kids with
  |some x=>
   have:=h (.mk n o t) (by simp) x (jI hk) (p++[n])
   simp only[Fld.ty] at this
   have h4:=xU (jI hk)
   have h5:2*dG t*cr x≤2*dG t*cr d:=Nat.mul_le_mul_left _ (by rw[pe d];omega)
   simp only
   omega
  |none=>cases o<;>simp<;>omega
theorem uw (it:Nat→Str)(t:Ty):∀(d:Doc)(p:List Str),rightD d=true→(aV it t d p).length≤2*dG t*cr d:=by
 induction t using Ty.ind with
 |h t ih1 ih2=>
 intro d p hd
 have hdk:=((dO d).1 hd).2.2
 rw[jR,List.length_append,iX]
 have hs:=pe d
 have e1:(if cy t d=0 then [] else [(p,cy t d)]:List Flt).length≤1:=by split<;>simp
 have e2:2*(cn t.fields+co t.of+1)*cr d=2*cn t.fields*cr d+2*co t.of*cr d+2*cr d:=by
  rw[Nat.mul_add,Nat.mul_add,Nat.add_mul,Nat.add_mul]
 rw[e2]
 by_cases h7:cy t d=7
 ·
  rw[if_pos h7];simp only[List.length_nil];omega
 rw[if_neg h7]
 have hk:=ov h7
 by_cases k1:t.kind=1
 ·
  rw[if_pos k1,List.length_append]
  have h1:=nY (it:=it) (d:=d) (fs:=t.fields) (p:=p) fun f hf x hx p=>ih1 f hf x p (hdk x hx)
  have h2:=rC (fs:=t.fields) (p:=p) d.keys
  have h3:=mD hd (.inl (by rw[if_neg (by omega)] at hk;omega))
  have h4:=rI d.kids
  omega
 rw[if_neg k1]
 by_cases k2:t.kind=2
 ·
  rw[if_pos k2]
  cases ho:t.of with
  |nil=>rw[hU];simp only[List.length_nil];omega
  |cons u r=>
   rw[hU,co]
   have h1:=qi (g:=fun x q=>aV it u x q) (ks:=d.keys) (ds:=d.kids) (p:=p) fun x hx q=>ih2 u (by rw[ho];simp) x q (hdk x hx)
   have h2:2*dG u*cS d.kids≤2*(dG u+co r)*cr d:=Nat.mul_le_mul (by omega) (by omega)
   omega
 rw[if_neg k2]
 by_cases k3:t.kind=3
 ·
  rw[if_pos k3]
  cases ho:t.of with
  |nil=>rw[hY];simp only[List.length_nil];omega
  |cons u r=>
   rw[hY,co]
   have h1:=qk (it:=it) (g:=fun x q=>aV it u x q) (ds:=d.kids) (i:=0) (p:=p) fun x hx q=>ih2 u (by rw[ho];simp) x q (hdk x hx)
   have h2:2*dG u*cS d.kids≤2*(dG u+co r)*cr d:=Nat.mul_le_mul (by omega) (by omega)
   omega
 ·
  rw[if_neg k3];simp only[List.length_nil];omega
theorem xF (it:Nat→Str){t:Ty}{d:Doc}(p:List Str)(ht:bq t=true)(hd:dH d=true):(aV it t d p).length≤131072:=by
 obtain⟨h1,_,_⟩:=(fe t).1 ht
 obtain⟨_,h2,h3⟩:=(eZ d).1 hd
 refine Nat.le_trans (uw it t d p h3) ?_
 exact Nat.le_trans (Nat.mul_le_mul (Nat.mul_le_mul_left 2 h1) h2) (by omega)
set_option maxRecDepth 20000 in
theorem A7 {d:Doc}(hd:rightD d=true):dD d.keys≤d.kids.length*257∧d.str.length≤256:=by
 obtain⟨h1,h2,_⟩:=(dO d).1 hd
 have h3:=kX ((iV _ _ _).1 h2).2.2.2
 unfold ee at h1
 split at h1
 ·
  simp only[Bool.and_eq_true,decide_eq_true_eq] at h1
  rw[h1.2] at h3;rw[h1.1.2]
  exact⟨h3,by simp⟩
 ·
  split at h1
  ·
   simp only[Bool.and_eq_true,decide_eq_true_eq] at h1
   rw[h1.2] at h3;rw[h1.1.2]
   exact⟨by omega,by simp⟩
  ·
   split at h1
   ·
    cases h1
   ·
    have h4:d.keys.length=0:=by omega
    rw[h4] at h3
    refine⟨by omega,?_⟩
    split at h1
    ·
     simp only[decide_eq_true_eq] at h1;rw[h1];simp
    ·
     split at h1
     ·
      simp only[Bool.and_eq_true,decide_eq_true_eq] at h1;rw[h1.1];simp
     ·
      split at h1
      ·
       simp only[Bool.and_eq_true,decide_eq_true_eq] at h1;exact h1.2
      ·
       cases h1
set_option maxRecDepth 20000 in
theorem za:∀{l:List Doc},(∀x∈l,wD x+257≤514*cr x)→wDs l+257*l.length≤514*cS l
 |[],_=>by simp[wDs,cS]
 |x::l,h=>by
  have h1:=h x (by simp)
  have h2:=za (l:=l) fun y hy=>h y (by simp[hy])
  rw[wDs,cS,List.length_cons]
  omega
set_option maxRecDepth 20000 in
theorem Ca (d:Doc):rightD d=true→wD d+257≤514*cr d:=by
 induction d using Doc.ind with
 |h d ih=>
 intro hd
 have h1:=za fun x hx=>ih x hx (((dO d).1 hd).2.2 x hx)
 have h2:=A7 hd
 rw[im,pe]
 omega
set_option maxRecDepth 20000 in
theorem EQ {d:Doc}(hd:dH d=true):wD d≤263168:=by
 obtain⟨_,h2,h3⟩:=(eZ d).1 hd
 have:=Ca d h3
 omega
end
end Go.V
end
section
set_option maxHeartbeats 4000000
namespace Go.V
open Go Go.Proofs
attribute [local irreducible] W bO WD aO yl aS bW
section
variable (Γ:Glo Tryz.prog)
attribute [local simp] veq bP ei V.del
theorem CallOk.arg {f:FuncId}{us vs:List Val}{r:Val}{h h2:Heap}{N N':Nat}{al:Bool}(hk:CallOk Tryz.prog Γ f us h N al r h2 N')(hw:WkL vs us):CallOk Tryz.prog Γ f vs h N al r h2 N':=
 ⟨hk.1,fun F ρ w0 O w xs hG m hf hv=>hk.2 F ρ w0 O w xs hG m hf (hw.rel hv)⟩
theorem f141 (it:Nat→Str)(HI:∀k:Nat,k<1000000000→PureOk Tryz.prog Γ 65 [.int .i64 k] (.str (it k)))(t:Ty)(d:Doc)(ht:bq t=true)(hd:dH d=true) :
  CallOk Tryz.prog Γ 141 [.ag (cTy t),.ag (aH d),.fn 142 [] [.pr 0 0]] [(0,.cells [.nils] 141 false)] 1 true (.tp []) (gH dM 1 77 (aV it t d [])++[(0,.cells [gV 1 (aV it t d [])] 141 false)]) 2:=by
 have hdep:=((fe t).1 ht).2.1
 have hlen:=xF it [] ht hd
 have k0:=Cy Γ it HI t ht d [] [] ((eZ d).1 hd).2.2 (by have:=EQ hd;omega) (by simp;omega) (by simp;omega)
 have k1:=k0.ren [4,5,8,3,0,1] 15 rfl (by rw[vz (by omega) (by omega)];simp[aa,aR,aD]) (by simp) (d7 (by omega) _)
 have e6:tau [4,5,8,3,0,1] 15 6=15:=by simp[tau]
 simp only[List.nil_append] at k1
 unfold Hc at k1
 simp only[ae,oP dM _ bh,e6] at k1
 unfold Bx at k1
 have q1:gV 5 ([]:List Flt)=.nils:=rfl
 have q2:∀o,gH dM o 77 ([]:List Flt)=[]:=fun _=>rfl
 simp[bF,b9,bu,au,oQ,tau,aJ,q1,q2] at k1
 generalize aV it t d []=X at *
 clear k0 HI hdep
 have ht6:List.take 6 (cTy t)=cTy t:=List.take_of_length_le (by rw[bH];omega)
 have hd5:List.take 5 (aH d)=aH d:=List.take_of_length_le (by rw[bS];omega)
 replace k1:=CallOk.arg Γ k1 (vs:=[.ag (cTy t),.ag (aH d),.nils,.pr 3 0,.pr 8 0,.pr 4 0,.pr 5 0]) ⟨Wk.refl _,Wk.refl _,Wk.nils,Wk.refl _,Wk.refl _,Wk.refl _,Wk.refl _,trivial⟩
 clear hlen ht hd
 have hmv:qP 1 2 [(15,1)]=true:=by simp
 cases X with
 |nil=>
  simp only[gH,gV,List.nil_append] at k1 ⊢
  refine ba Tryz.func141 rfl (by simp[Tryz.f141]) (by omega) (by simp[aR,aa]) (by simp[bc,cz,aR,aa]) ?_
  intro a hl ha
  replace hl:a.length=15:=hl
  have g0:=ha 0 _ rfl
  have g1:=ha 1 _ rfl
  have g2:=ha 2 _ rfl
  clear ha
  repeat' first|refine G1 ?_|(refine G2 ?_ ?_<;>intro hc hd<;>try exact hd.elim)|fail
  refine av k1 ?_
  repeat' first|refine G1 ?_|(refine G2 ?_ ?_<;>intro hc hd<;>try exact hd.elim)|fail
  exact⟨by simp,[],.tp [],[(0,.cells [.nils] 141 false)],.tp [],_,by simp,by simp,by simp[Tryz.f141],by simp[au,bu],by simp[bF,b9,bu,au],by (repeat (first|exact aU|refine aP (by simp[V.get, *]) ?_)),Clo.refl _ _⟩
 |cons x X=>
  simp only[gH,gV,List.nil_append] at k1 ⊢
  have hcx:=bh (x::X)
  have hlo:=fun N=>aD (N:=N) _ hcx
  generalize row dM (x::X)=cs at *
  refine ba Tryz.func141 rfl (by simp[Tryz.f141]) (by omega) (by simp[aR,aa]) (by simp[bc,cz,aR,aa,hlo]) ?_
  intro a hl ha
  replace hl:a.length=15:=hl
  have g0:=ha 0 _ rfl
  have g1:=ha 1 _ rfl
  have g2:=ha 2 _ rfl
  clear ha
  repeat' first|refine G1 ?_|(refine G2 ?_ ?_<;>intro hc hd<;>try exact hd.elim)|fail
  refine av k1 ?_
  repeat' first|refine G1 ?_|(refine G2 ?_ ?_<;>intro hc hd<;>try exact hd.elim)|fail
  exact⟨by simp,[(15,1)],.tp [],[(15,.cells cs 77 true),(0,.cells [.so 15 0 (X.length+1) none] 141 false)],.tp [],_,by simp,by simp,by simp[Tryz.f141],by simp[au,bu],by simp[bF,b9,bu,au,aJ,hcx],by (repeat (first|exact aU|refine aP (by simp[V.get, *]) ?_)),Clo.refl _ _⟩
end
end Go.V
end
section
namespace Go.Proofs
open Go Go.Shelf Go.RowKit Go.Lib Go.Sort
structure El where
 f:V.Fld
 vs:List Value
 len:vs.length=7
 cells:∀v∈vs,v.oneCell'=true
instance:Inhabited El:=⟨⟨.mk [] false V.zeroTy,List.replicate 7 (.int .i64 0),by simp,by intro v hv;rw[List.eq_of_mem_replicate hv];rfl⟩⟩
def El.enc (x:El):List Value:=V.str x.f.name::x.vs
def El.cmp (x y:El):Int:=Lib.compareBytes x.f.name y.f.name
theorem El.enc_len (x:El):x.enc.length=8:=by simp[El.enc,x.len]
theorem El.enc_one (x:El):∀v∈x.enc,v.oneCell'=true:=by
 intro v hv
 rcases List.mem_cons.1 hv with rfl|hv
 ·
  rfl
 ·
  exact x.cells v hv
set_option maxHeartbeats 2000000 in
theorem Tryz.closure257 (n m:List UInt8)(a1 a2 a3 a4 a5 a6 a7 b1 b2 b3 b4 b5 b6 b7:Value)(W:World) :
  Calls Tryz.prog 257 #[.agg #[V.str n,a1,a2,a3,a4,a5,a6,a7],.agg #[V.str m,b1,b2,b3,b4,b5,b6,b7]] W fun e w'=>e=.returned (.int .i64 (Lib.compareBytes n m))∧∃q os',w'=grow (W.drewN q) os':=by
 have hcon:=fun W'=>Any.strings_Compare Tryz.strCmp ⟨n.toArray⟩ ⟨m.toArray⟩ W'
 change ∀W',Calls Tryz.prog 258 _ _ _ at hcon
 generalize Lib.compareBytes n m=r at hcon ⊢
 unfold V.str
 go_enter Tryz.func257,Tryz.ntmps257
 go_wp2_with (go_at_call 258;refine(hcon _).mono ?_;rintro e w' ⟨rfl,rfl⟩)
 go_ret
 exact⟨rfl,0,_,by rw[alloc_eq_grow,alloc_eq_grow,grow_grow];rfl⟩
end Go.Proofs
end
section
namespace Go.V
open Go Go.Proofs Go.Shelf Go.RowKit Go.Lib Go.Sort
theorem sy:∀a b:List UInt8,Lib.compareBytes a b<0↔ltS a b=true
 |[],[]=>by simp[Lib.compareBytes,ltS]
 |[],_::_=>by simp[Lib.compareBytes,ltS]
 |_::_,[]=>by simp[Lib.compareBytes,ltS]
 |a::x,b::y=>by
  rw[Lib.compareBytes,ltS]
  by_cases h1:a<b
  ·
   simp[h1]
  ·
   by_cases h2:b<a
   ·
    have h3:(a==b)=false:=by rw[beq_eq_false_iff_ne];intro e;subst e;exact UInt8.lt_irrefl _ h2
    simp[h1,h2,h3]
   ·
    have h3:a=b:=UInt8.le_antisymm (UInt8.not_lt.1 h2) (UInt8.not_lt.1 h1)
    subst h3
    simp[h1,sy x y]
theorem Ad (x y:El):ltOf El.cmp x y=ltS x.f.name y.f.name:=by
 unfold ltOf El.cmp
 rw[Bool.eq_iff_iff,decide_eq_true_eq,sy]
theorem EI:SWO (ltOf El.cmp) where
 irrefl x:=by rw[Ad];exact aL _
 trans x y z h1 h2:=by rw[Ad] at *;exact aY h1 h2
 ntrans x y z h1 h2:=by
  rw[Ad] at *
  cases h:ltS x.f.name z.f.name with
  |false=>rfl
  |true=>
   exfalso
   by_cases e:x.f.name=y.f.name
   ·
    rw[e] at h;rw[h] at h2;cases h2
   ·
    have h3:=aM h1 e
    rw[aY h3 h] at h2;cases h2
theorem uo (blk off size:Nat)(w:World):CmpLays Tryz.prog 257 #[] El.enc 8 El.cmp blk off size w:=by
 intro m os dk _ x y
 obtain⟨f,vs,hl,hc⟩:=x
 obtain⟨g,us,hl2,hc2⟩:=y
 match vs,hl,us,hl2 with
 |[a1,a2,a3,a4,a5,a6,a7],_,[b1,b2,b3,b4,b5,b6,b7],_=>exact Tryz.closure257 f.name g.name a1 a2 a3 a4 a5 a6 a7 b1 b2 b3 b4 b5 b6 b7 _
theorem yA {F:Fro}{ρ:Pl}:∀(fs:List Fld){xs:List Value},RelL F ρ (row aZ fs) xs→∃ds:List El,ds.map (·.f)=fs∧ds.flatMap El.enc=xs∧∀x∈ds,RelL F ρ (aZ x.f) x.enc
 |[],xs,h=>by
  have:xs=[]:=h
  subst this
  exact⟨[],rfl,rfl,by simp⟩
 |f::fs,xs,h=>by
  rw[bt] at h
  have h1:=h.take 8
  have h2:=h.drop 8
  rw[xh] at h1
  rw[List.drop_left' (iP f)] at h2
  obtain⟨ds,g1,g2,g3⟩:=yA fs h2
  have hl:=h1.length
  rw[iP] at hl
  cases hx:xs.take 8 with
  |nil=>rw[hx] at hl;cases hl
  |cons v vs=>
   rw[hx] at h1 hl
   have hv:v=V.str f.name:=by
    obtain⟨n,o,t⟩:=f
    simp only[aZ,RelL] at h1
    obtain⟨y,ys,e,r,_⟩:=h1
    simp only[Rel] at r
    cases e
    exact r
   have hone:=fJ h1 (o4 f)
   refine⟨⟨f,vs,by simpa using hl.symm,fun u hu=>hone u (by simp[hu])⟩::ds,by simp[g1],?_,?_⟩
   ·
    rw[List.flatMap_cons,g2]
    show V.str f.name::vs++_=_
    rw[←hv,←hx,List.take_append_drop]
   ·
    intro x hx'
    rcases List.mem_cons.1 hx' with rfl|hx'
    ·
     show RelL F ρ (aZ f) (V.str f.name::vs)
     rw[←hv];exact h1
    ·
     exact g3 x hx'
theorem RelL.rows {F:Fro}{ρ:Pl}:∀(ds:List El),(∀x∈ds,RelL F ρ (aZ x.f) x.enc)→RelL F ρ (row aZ (ds.map (·.f))) (ds.flatMap El.enc)
 |[],_=>.nil
 |x::ds,h=>by
  rw[List.map_cons,bt,List.flatMap_cons]
  exact(h x (by simp)).append (RelL.rows ds fun y hy=>h y (by simp[hy]))
theorem tY:∀(ds:List El)(t:Nat),t<ds.length*8→(ds.flatMap El.enc)[t]?=((ds[t / 8]?).bind fun x=>x.enc[t % 8]?)
 |[],t,h=>by simp at h
 |x::ds,t,h=>by
  rw[List.flatMap_cons]
  rcases Nat.lt_or_ge t 8 with ht|ht
  ·
   rw[List.getElem?_append_left (by rw[El.enc_len];exact ht),Nat.div_eq_of_lt ht,Nat.mod_eq_of_lt ht];rfl
  ·
   rw[List.getElem?_append_right (by rw[El.enc_len];exact ht),El.enc_len,tY ds (t-8) (by simp at h;omega)]
   have e1:t / 8=(t-8) / 8+1:=by omega
   have e2:t % 8=(t-8) % 8:=by omega
   rw[e1,e2,List.getElem?_cons_succ]
theorem yF (ds:List El):(ds.flatMap El.enc).length=ds.length*8:=by
 induction ds with
 |nil=>rfl
 |cons x ds ih=>rw[List.flatMap_cons,List.length_append,ih,El.enc_len,List.length_cons];omega
theorem ow (ds:List El):(flatK El.enc 8 ds.toArray).toList=ds.flatMap El.enc:=by
 apply List.ext_getElem?
 intro t
 rcases Nat.lt_or_ge t (ds.length*8) with ht|ht
 ·
  have hsz:t<(flatK El.enc 8 ds.toArray).size:=by simpa using ht
  rw[Array.getElem?_toList,Array.getElem?_eq_getElem hsz,←getElem!_pos (flatK El.enc 8 ds.toArray) t hsz,get_flatK El.enc 8 ds.toArray t (by simpa using ht),tY ds t ht]
  have h1:t / 8<ds.length:=by omega
  have h2:t % 8<(ds[t / 8]).enc.length:=by rw[El.enc_len];omega
  rw[List.getElem?_eq_getElem h1]
  simp only[Option.bind_some]
  rw[List.getElem?_eq_getElem h2]
  rw[getElem!_pos ds.toArray (t / 8) (by simpa using h1)]
  simp only[List.getElem_toArray]
  rw[getElem!_pos (ds[t / 8]).enc (t % 8) h2]
 ·
  rw[Array.getElem?_toList,Array.getElem?_eq_none (by simpa using ht),List.getElem?_eq_none (by rw[yF];exact ht)]
theorem xG {l m:List Fld}(hl:fC l)(hm:fC m)(h:∀f,f∈l↔f∈m)(n:Str):ah n l=ah n m:=by
 cases h1:ah n l with
 |some f=>
  obtain⟨e,hf⟩:=cD h1
  have:=fK hm ((h f).1 hf)
  rw[e] at this
  exact this.symm
 |none=>
  cases h2:ah n m with
  |none=>rfl
  |some f=>
   obtain⟨e,hf⟩:=cD h2
   have:=fK hl ((h f).2 hf)
   rw[e,h1] at this
   cases this
section
variable (Γ:Glo Tryz.prog)
theorem f256 (fs gs:List Fld)(hm:∀f,f∈gs↔f∈fs)(hsg:fC gs)(hnd:(fs.map Fld.name).Nodup)(hb:fs.length<big):CallOk Tryz.prog Γ 256 [.so 0 0 fs.length none,.fn 257 [] []] [(0,.cells (row aZ fs) 112 true)] 1 true (.tp []) [(0,.cells (row aZ gs) 112 true)] 1:=by
 refine⟨Nat.le_refl _,fun F ρ w0 O w xs hG m hf hv=>?_⟩
 obtain⟨L,x,h1,h2,h3,c,rfl,h5,h6,h7,h8⟩:=m.own 0 (.cells (row aZ fs) 112 true) (by simp[get])
 simp only[RelL,Rel] at hv
 obtain⟨y0,ys0,hxs,⟨L',k,g1,rfl,g2,g3,g4⟩,y1,ys1,rfl,⟨us,vs,rfl,e1,e2⟩,rfl⟩:=hv
 rw[h1] at g1;cases g1
 have e1':us=#[]:=Array.toList_eq_nil_iff.1 e1
 have e2':vs=#[]:=Array.toList_eq_nil_iff.1 e2
 subst e1';subst e2'
 have hxs':xs=#[.slice (some ⟨L.b,0,none⟩) fs.length k,.func (.func 257) #[] #[]]:=Array.ext' hxs
 subst hxs'
 rw[jO] at h7
 obtain⟨ds,d1,d2,d3⟩:=yA fs h7
 have hlen:ds.length=fs.length:=by rw[←d1,List.length_map]
 have hblk:L.b<w.heap.size:=by
  rcases Nat.lt_or_ge L.b w.heap.size with h|h
  ·
   exact h
  ·
   rw[Array.getElem?_eq_none h] at h3;cases h3
 have hcs:fs.length*8≤c.size:=by have:=h7.length;simp at this;omega
 have hH:HoldsK El.enc 8 w L.b 0 ds.toArray:=by
  intro j hj
  have hj':j<ds.length*8:=by simpa using hj
  have hjc:j<c.size:=by omega
  have hg:(flatK El.enc 8 ds.toArray)[j]! = c[j]:=by
   rw[getElem!_pos _ j hj]
   have:(flatK El.enc 8 ds.toArray).toList[j]?=c.toList[j]?:=by
    rw[ow,d2,List.getElem?_take,if_pos (by omega)]
   rw[Array.getElem?_toList,Array.getElem?_toList,Array.getElem?_eq_getElem hj,Array.getElem?_eq_getElem hjc] at this
   exact Option.some.inj this
  refine⟨?_,?_⟩
  ·
   rw[hg,Nat.zero_add]
   unfold World.cell?
   simp only[h3]
   simp[Array.getElem?_eq_getElem hjc]
  ·
   unfold World.frozen?
   simp[h3]
 have eg:∀args w,(callFunc 257 args).run Tryz.prog w=.ok (.enter 257 args) w:=enters_of Tryz.func257 (by kernel_rfl) rfl
 have hcon:=AnyQ.slices_SortFunc Tryz.sortFld 8 Tryz.isAgg112 Tryz.sizeOf112 El.enc El.enc_len El.enc_one El.cmp EI 257 #[] L.b 0 k ds.toArray w eg (uo L.b 0 ds.toArray.size w) hH hblk (by simp only[big] at hb;simp;omega)
 change Calls Tryz.prog 256 _ _ _ at hcon
 have hsz:ds.toArray.size=fs.length:=by simp[hlen]
 rw[hsz] at hcon
 refine hcon.mono ?_
 rintro e w' ⟨rfl,d',n,os,⟨hps,_,hpp⟩,hs,rfl⟩
 rw[hsz] at hps
 have hpp':d'.toList.Perm ds:=by
  have e3:(d'.extract 0 fs.length).toList=d'.toList:=by rw[←hps];simp
  have e4:(ds.toArray.extract 0 fs.length).toList=ds:=by rw[←hlen];simp
  rwa[e3,e4] at hpp
 have hdl:d'.toList.length=fs.length:=by simp[hps]
 have hgs:d'.toList.map (·.f)=gs:=by
  have hsd:fC (d'.toList.map (·.f)):=by
   unfold fC
   rw[List.pairwise_map,List.pairwise_iff_getElem]
   intro i j hi hj hij
   have h9:=hs i j (Nat.zero_le _) hij (by omega)
   rw[Ad,getElem!_pos d' j (by simpa using hj),getElem!_pos d' i (by simpa using hi)] at h9
   have hnd2:(d'.toList.map (·.f.name)).Nodup:=by
    have:(ds.map (·.f.name)).Nodup:=by rw[←d1,List.map_map] at hnd;exact hnd
    exact((hpp'.map (·.f.name)).nodup_iff).2 this
   rw[List.Nodup,List.pairwise_map,List.pairwise_iff_getElem] at hnd2
   have h10:=hnd2 i j hi hj hij
   simp only[Array.getElem_toList] at h10 ⊢
   exact aM h9 (fun e=>h10 e.symm)
  refine p9 hsd hsg fun nm=>xG hsd hsg (fun f=>?_) nm
  rw[hm f,←d1,List.mem_map,List.mem_map]
  constructor
  ·
   rintro⟨x,hx,rfl⟩;exact⟨x,hpp'.mem_iff.1 hx,rfl⟩
  ·
   rintro⟨x,hx,rfl⟩;exact⟨x,hpp'.mem_iff.2 hx,rfl⟩
 have hcells:∀x∈d'.toList,RelL F ρ (aZ x.f) x.enc:=fun x hx=>d3 x (hpp'.mem_iff.1 hx)
 have hrel:=RelL.rows d'.toList hcells
 rw[hgs] at hrel
 have hfl:=ow d'.toList
 rw[Array.toArray_toList] at hfl
 have hfs:(flatK El.enc 8 d').size=fs.length*8:=by simp[hps]
 have hgl:gs.length=fs.length:=by rw[←hgs,List.length_map,hdl]
 have hheap:∀j,j<w.heap.size→(sortWorldK El.enc 8 w L.b 0 n d' os).heap[j]?=if j=L.b then some (.cells (putCells id 0 (flatK El.enc 8 d') c) 112 (0,0)) else w.heap[j]?:=by
  intro j hj
  unfold sortWorldK grow putRowK putRow mapBlock Sort.ahead
  simp only
  rw[Array.getElem?_append_left (by simpa using hj),Array.getElem?_modify]
  by_cases e:L.b=j
  ·
   subst e
   rw[if_pos rfl,if_pos rfl,h3]
   rfl
  ·
   rw[if_neg e,if_neg (fun e'=>e e'.symm)]
 have hnewc:(putCells id 0 (flatK El.enc 8 d') c).toList.take (fs.length*8)=d'.toList.flatMap El.enc:=by
  rw[←hfl]
  apply List.ext_getElem?
  intro t
  rw[List.getElem?_take]
  split
  ·
   rename_i ht
   rw[Array.getElem?_toList,Array.getElem?_toList]
   unfold putCells
   rw[Array.getElem?_mapIdx,Array.getElem?_eq_getElem (show t<c.size by omega),Array.getElem?_eq_getElem (show t<(flatK El.enc 8 d').size by omega)]
   simp only[Option.map_some,Nat.zero_le,Nat.zero_add,hfs,ht,and_self,if_true,Nat.sub_zero,id]
   rw[getElem!_pos _ t (by omega)]
  ·
   rename_i ht
   rw[Array.getElem?_toList,Array.getElem?_eq_none (by omega)]
 have hframe:∀j,j<w.heap.size→j≠L.b→(sortWorldK El.enc 8 w L.b 0 n d' os).heap[j]?=w.heap[j]?:=fun j hj hne=>by rw[hheap j hj,if_neg hne]
 have hsize:w.heap.size≤(sortWorldK El.enc 8 w L.b 0 n d' os).heap.size:=by
  unfold sortWorldK grow putRowK putRow mapBlock Sort.ahead
  simp
 refine⟨F,ρ,.tuple #[],rfl,Ext.refl F ρ w0 O 1 1,⟨#[],rfl,rfl⟩,⟨fun b c' hb=>?_,fun i blk hg=>?_,fun i j Li Lj hi hj=>?_,fun i L2 hi hL=>?_,⟨m.fr.os,m.fr.tape,m.fr.output,Nat.le_trans m.fr.size hsize,fun j hj ho=>?_⟩⟩⟩
 ·
  obtain⟨e5,fr,h9⟩:=m.fro b c' hb
  refine⟨e5,fr,?_⟩
  have hb':b<w.heap.size:=by
   rcases Nat.lt_or_ge b w.heap.size with h|h
   ·
    exact h
   ·
    rw[Array.getElem?_eq_none h] at h9;cases h9
  rw[hframe b hb' (fun e=>by subst e;rw[h2] at hb;cases hb)]
  exact h9
 ·
  simp only[get] at hg
  split at hg
  ·
   rename_i e5
   subst e5
   cases hg
   refine⟨L,_,h1,h2,by rw[hheap L.b hblk,if_pos rfl],_,rfl,by unfold putCells;simpa using h5,h6,?_,fun ho=>by cases ho⟩
   rw[jO,hgl,hnewc]
   exact hrel
  ·
   cases hg
 ·
  intro a1 a2 a3
  simp only[get] at hi hj
  split at hi
  ·
   split at hj
   ·
    rename_i e5 e6;rw[←e5,←e6]
   ·
    cases hj
  ·
   cases hi
 ·
  simp only[get] at hi
  split at hi
  ·
   rename_i e5
   subst e5
   exact m.ours 0 L2 (by simp[get]) hL
  ·
   cases hi
 ·
  have hne:j≠L.b:=by
   intro e5
   subst e5
   rcases m.ours 0 L (by simp[get]) h1 with h|h
   ·
    exact ho h
   ·
    omega
  rw[hframe j (Nat.lt_of_lt_of_le hj m.fr.size) hne]
  exact m.fr.block j hj ho
end
end Go.V
end
section
set_option maxHeartbeats 4000000
namespace Go.V
open Go Go.Proofs
attribute [local irreducible] W bO WD aO yl aS bW
section
variable (Γ:Glo Tryz.prog)
attribute [local simp] veq bP ei V.del
theorem f72n:PureOk Tryz.prog Γ 72 [.nils] .nils:=by
 refine Y1 8 Tryz.func72 rfl rfl fun a hl g0=>?_
 repeat' first|refine G1 ?_|(refine G2 ?_ ?_<;>intro hc hd<;>try exact hd.elim)|fail
 exact⟨by simp,.nils,1,by simp[Tryz.f72, *],rfl⟩
theorem f72s:PureOk Tryz.prog Γ 72 [.sle] (.sl [] 0 (some 0)):=by
 refine Y1 8 Tryz.func72 rfl rfl fun a hl g0=>?_
 repeat' first|refine G1 ?_|(refine G2 ?_ ?_<;>intro hc hd<;>try exact hd.elim)|fail
 exact⟨by simp,.so 3 0 0 (some 0),100,by simp[Tryz.f72, *],by simp[vw,vwL,V.get]⟩
theorem f178 (r:Ty)(f:Fld)(hb:r.fields.length+1<big)(hs:fC r.fields)(hf:ah f.name r.fields=none):PureOk Tryz.prog Γ 178 [.ag (cTy r),.ag (aZ f)] (.ag (cTy (dQ r f))):=by
 refine PureOk.wk ?_ (wX (row aZ (dU f r.fields)) (dU f r.fields).length (dU f r.fields) (Wk.refl _))
 cases hfs:r.fields with
 |nil=>
  rw[fA,hfs]
  have h1:=f72n Γ
  have h2:=f72s Γ
  have h3:=(f256 Γ [f] [f] (fun _=>Iff.rfl) (by simp[fC]) (by simp) (by simp[big])).ren [4] 6 rfl (by simp[cm,fU,aa,aR]) (by simp) rfl
  simp at h3
  clear hb hs hf
  refine Y2 18 Tryz.func178 rfl rfl fun a hl g0 g1=>?_
  (repeat' refine ey ?_);refine dX ?_;(repeat' first|refine eQ ?_|refine iN ?_);refine du ?_;simp only[eD,cd,cc]
  refine qF 0 (us:=[.int .i64 r.kind,.int .i64 r.lo,.int .i64 r.hi,sls aW r.names]) rfl ?_ ?_
  ·
   simp only[V.put,if_true,List.cons_append,List.nil_append]
   repeat' first|refine G1 ?_|(refine G2 ?_ ?_<;>intro hc hd<;>try exact hd.elim)|fail
   refine aQ h1 ?_
   repeat' first|refine G1 ?_|(refine G2 ?_ ?_<;>intro hc hd<;>try exact hd.elim)|fail
   refine gy [(3,.cells (aZ f) 112 false)] ?_
   repeat' first|refine G1 ?_|(refine G2 ?_ ?_<;>intro hc hd<;>try exact hd.elim)|fail
   refine av h3 ?_
   repeat' first|refine G1 ?_|(refine G2 ?_ ?_<;>intro hc hd<;>try exact hd.elim)|fail
   exact⟨by simp,.ag [.int .i64 1,.int .i64 0,.int .i64 0,.nils,.so 4 0 1 none,.nils],40,by simp[Tryz.f178,V.get,V.put,aX, *],er (by simp[aE,Val.closed]) (aI (aG rfl) (aI (aG rfl) (aI (aG rfl) (aI (aG rfl) (aI (by simpa[dU] using dC (k:=1) (cap:=none) (n:=33) (t:=112) (cs:=aZ f) rfl (by simp) (by simp) (by simp)) (aI (aG rfl) bR))))))⟩
  ·
   simp only[V.put,if_true,List.cons_append,List.nil_append]
   repeat' first|refine G1 ?_|(refine G2 ?_ ?_<;>intro hc hd<;>try exact hd.elim)|fail
   refine aQ h2 ?_
   repeat' first|refine G1 ?_|(refine G2 ?_ ?_<;>intro hc hd<;>try exact hd.elim)|fail
   refine gy [(3,.cells (aZ f) 112 false)] ?_
   repeat' first|refine G1 ?_|(refine G2 ?_ ?_<;>intro hc hd<;>try exact hd.elim)|fail
   refine av h3 ?_
   repeat' first|refine G1 ?_|(refine G2 ?_ ?_<;>intro hc hd<;>try exact hd.elim)|fail
   exact⟨by simp,.ag [.int .i64 1,.int .i64 0,.int .i64 0,.nils,.so 4 0 1 none,.nils],40,by simp[Tryz.f178,V.get,V.put,aX, *],er (by simp[aE,Val.closed]) (aI (aG rfl) (aI (aG rfl) (aI (aG rfl) (aI (aG rfl) (aI (by simpa[dU] using dC (k:=1) (cap:=none) (n:=33) (t:=112) (cs:=aZ f) rfl (by simp) (by simp) (by simp)) (aI (aG rfl) bR))))))⟩
 |cons x0 r0=>
  rw[hfs] at hb hs hf
  have h1:=(f72c Γ x0 r0 (by simp at hb;omega)).ren [] 3 rfl (by simp[cm]) (by simp) rfl
  simp at h1
  have hnd:((x0::r0++[f]).map Fld.name).Nodup:=by
   rw[List.map_append,List.nodup_append]
   refine⟨?_,by simp,?_⟩
   ·
    rw[List.Nodup,List.pairwise_map];exact List.Pairwise.imp (fun h=>kG h) hs
   ·
    intro a ha b hb e
    simp at hb
    subst hb
    subst e
    obtain⟨g,hg1,hg2⟩:=List.mem_map.1 ha
    have:=fK hs hg1
    rw[hg2,hf] at this
    cases this
  have h3:=(f256 Γ (x0::r0++[f]) (dU f (x0::r0)) (fun g=>by rw[pF];simp;constructor<;>(rintro(h|h|h)<;>simp[h])) (fE hs hf) hnd (by simp at hb ⊢;omega)).ren [10] 12 rfl (by simp[cm,fU,aa,aR]) (by simp) rfl
  have e1:row aZ (x0::r0++[f])=row aZ (x0::r0)++aZ f:=by rw[bd];simp
  have e2:(x0::r0++[f]).length=r0.length+1+1:=by simp
  have e3:(dU f (x0::r0)).length=r0.length+1+1:=by
   have:∀l:List Fld,(dU f l).length=l.length+1:=by
    intro l
    induction l with
    |nil=>rfl
    |cons g l ih=>rw[dU];split<;>simp[ih]
   rw[this];simp
  have e4:sls aZ (x0::r0)=.sl (row aZ (x0::r0)) (r0.length+1) none:=rfl
  have e5:aZ x0++row aZ r0=row aZ (x0::r0):=rfl
  rw[e1,e2] at h3
  try rw[e5] at h1
  rw[e3,fA,hfs,e4]
  have hc1:(row aZ (x0::r0)).length=(r0.length+1)*8:=by simp;omega
  have hc2:aE (row aZ (x0::r0))=true:=by simp
  have hc3:ai (row aZ (x0::r0))=true:=by simp
  have hd1:(row aZ (dU f (x0::r0))).length=(r0.length+1+1)*8:=by rw[jO,e3]
  have hd2:aE (row aZ (dU f (x0::r0)))=true:=by simp
  have hlo:=fun N=>aD (N:=N) _ hc2
  have hlo2:=fun N=>aD (N:=N) _ hd2
  have hbn:r0.length+1+1<100000000000:=by simp only[big] at hb;simpa using hb
  generalize row aZ (x0::r0)=cs at *
  generalize row aZ (dU f (x0::r0))=gs at *
  generalize r0.length=n at *
  simp[hc2,hd2] at h3
  have hb2:(n+1+1)*120≤140737488355328:=by omega
  have hnl:¬(n+1+1)*8≤(n+1)*8:=by omega
  have hta:List.take ((n+1)*8) cs=cs:=List.take_of_length_le (by omega)
  clear e1 e2 e3 e4 e5 hb hs hf hnd
  refine Y2 18 Tryz.func178 rfl rfl fun a hl g0 g1=>?_
  repeat' first|refine G1 ?_|(refine G2 ?_ ?_<;>intro hc hd<;>try exact hd.elim)|fail
  refine cI h1 ?_
  repeat' first|refine G1 ?_|(refine G2 ?_ ?_<;>intro hc hd<;>try exact hd.elim)|fail
  refine gy [(8,.cells cs 112 true),(9,.cells (aZ f) 112 false)] ?_
  repeat' first|refine G1 ?_|(refine G2 ?_ ?_<;>intro hc hd<;>try exact hd.elim)|fail
  refine av h3 ?_
  repeat' first|refine G1 ?_|(refine G2 ?_ ?_<;>intro hc hd<;>try exact hd.elim)|fail
  exact⟨by simp,.ag [.int .i64 1,.int .i64 0,.int .i64 0,.nils,.so 10 0 (n+1+1) none,.nils],gs.length+40,by simp[Tryz.f178,V.get,V.put,aX, *],er (by simp[aE,Val.closed]) (aI (aG rfl) (aI (aG rfl) (aI (aG rfl) (aI (aG rfl) (aI (dC (t:=112) (cs:=gs) rfl (by simp[hd1]) hd2 (by omega)) (aI (aG rfl) bR))))))⟩
end
end Go.V
end
