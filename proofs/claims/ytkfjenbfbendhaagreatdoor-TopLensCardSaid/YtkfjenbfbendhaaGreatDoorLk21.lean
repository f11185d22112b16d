/-
  A part of a proof: P7 P8 P9.
-/
import Derived.Test.YtkfjenbfbendhaaGreatDoorLk20
set_option linter.unusedSimpArgs false
set_option linter.unusedVariables false
section
namespace Go.V
def rr (n m:Nat):Nat:=1000*((1+n)*(1+m))
theorem ka (n m:Nat):1000≤rr n m:=by
 unfold rr
 have:0<(1+n)*(1+m):=Nat.mul_pos (by omega) (by omega)
 omega
def own (e:Int)(st:List Int)(ks:List Str)(x:Doc)(p:Plc):Option Doc:=if p=(e,st,ks) then some x else none
theorem wP {e:Int}{st:List Int}{ks:List Str}{x:Doc}{p:Plc}(h:¬rS e st ks p):own e st ks x p=none:=by
 unfold own
 rw[if_neg]
 rintro rfl
 exact h (pP e st ks)
section
variable {reg:Plc→Prop} {C:Nat} {run:Wlk→Flds→Option (Wlk×Flds)} {f f1 f':Flds} {A B:Plc→Option Doc}
theorem Act.eqR (h:Act reg C run f A f1 B)(he:eqM f1 f'):Act reg C run f A f' B:=by
 intro w g h1 h2 h3 h4 h5
 obtain⟨w',g',k1,k2,k3,k⟩:=h w g h1 h2 h3 h4 h5
 exact⟨w',g',k1,k2,k3.trans he,k⟩
end
section
variable {e:Int} {st:List Int} {ks:List Str} {a b:Str} {f:Flds} {ty:Ty} {d x y:Doc}
theorem rh (hf:bD a f=none)(la:a.length≤16)(ld:wD d≤257)(hl:st.length+ks.length≤100) :
  Act (rS e st ks) 1000 (fun w g=>some (jM e st ks a ty d w g)) f non (aq a d f) non:=by
 intro w g h1 h2 h3 h4 h5
 have ho:fnd (e,st,ks) w.res=none:=by
  have:=h4 _ (pP e st ks)
  unfold pd non at this
  cases h:fnd (e,st,ks) w.res with
  |none=>rfl
  |some x=>rw[h] at this;cases this
 have hw:jM e st ks a ty d w g=(⟨w.res,j9 w.needs ⟨e,st,ks,d⟩,w.err⟩,aq a d g):=by
  unfold jM
  rw[show jl e st ks w.res=none from ho]
 refine⟨_,_,congrArg some hw,bK _ _ h1,ib h2 a d,h3,h4,fun _ _=>rfl,rfl,?_⟩
 have k1:=qC w.needs ⟨e,st,ks,d⟩
 have k2:=dV wE (x:=d) ((h2 a).trans hf)
 simp only[wW,fW,wE] at *
 omega
theorem lf (hf:bD a f=none)(hv:cQ ty x=true)(la:a.length≤16)(ld:wD d≤257)(lx:wD x≤257)(hl:st.length+ks.length≤100) :
  Act (rS e st ks) 1000 (fun w g=>some (jM e st ks a ty d w g)) f (own e st ks x) (aq a x f) non:=by
 intro w g h1 h2 h3 h4 h5
 have ho:∃z,fnd (e,st,ks) w.res=some z∧z.doc=x:=by
  have:=h4 _ (pP e st ks)
  unfold pd own at this
  rw[if_pos rfl] at this
  cases h:fnd (e,st,ks) w.res with
  |none=>rw[h] at this;cases this
  |some z=>rw[h] at this;simp only[Option.map_some,Option.some.injEq] at this;exact⟨z,rfl,this⟩
 obtain⟨z,hz,hzx⟩:=ho
 have hw:jM e st ks a ty d w g=(⟨drp (e,st,ks) w.res,j9 w.needs ⟨e,st,ks,d⟩,w.err⟩,aq a x g):=by
  unfold jM
  rw[show jl e st ks w.res=some z from hz]
  simp only[hzx,hv,if_true]
  rfl
 refine⟨_,_,congrArg some hw,bK _ _ h1,ib h2 a x,(sT _ h3).1,?_,?_,rfl,?_⟩
 ·
  intro p hp
  simp only[ye,non]
  split
  ·
   rfl
  ·
   rename_i hne
   rw[h4 p hp]
   unfold own
   rw[if_neg hne]
 ·
  intro p hp
  simp only[ye]
  rw[if_neg]
  rintro rfl
  exact hp (pP e st ks)
 have k1:=qC w.needs ⟨e,st,ks,d⟩
 have k2:=dV wE (x:=x) ((h2 a).trans hf)
 have k3:=s6 (e,st,ks) w.res
 simp only[wW,fW,wE] at *
 omega
theorem o0 (hf:bD a f=some x)(hn:bl f)(lx:wD x≤257)(hl:st.length+ks.length≤100) :
  Act (rS e st ks) 1000 (fun w g=>some (ga e st ks a w g)) f non (dY a f) (own e st ks x):=by
 intro w g h1 h2 h3 h4 h5
 have hg:=(h2 a).trans hf
 have hw:ga e st ks a w g=(⟨j9 w.res ⟨e,st,ks,x⟩,w.needs,w.err⟩,dY a g):=by
  unfold ga
  rw[eT hg]
 refine⟨_,_,congrArg some hw,fc _ h1,vv h2 h1 hn a,zL _ h3,?_,?_,rfl,?_⟩
 ·
  intro p hp
  simp only[wQ,own]
  show(if p=(e,st,ks) then some x else _)=_
  split
  ·
   rfl
  ·
   exact h4 p hp
 ·
  intro p hp
  simp only[wQ]
  rw[if_neg]
  rintro rfl
  exact hp (pP e st ks)
 have k1:=qC w.res ⟨e,st,ks,x⟩
 have k2:=fz wE hg
 simp only[wW,fW,wE] at *
 omega
theorem BO {k:Nat}{sw:List (Int×Int)}{subs:List Lns}(hf:bl f)(hab:a≠b)(hb:bD b f=none)(la:a.length≤16)(lb:b.length≤16) :
  Way (rS e st ks) 1000 (cT e false (.mk 1 a b ty d sw subs) st ks) (cT e true (.mk 1 a b ty d sw subs) st ks) f (gf a b f) non non:=by
 have hF:∀n,bD n (gf a b f)=_:=fun n=>kf a b n hf hab hb
 have h1:Act (rS e st ks) 1000 (cT e false (.mk 1 a b ty d sw subs) st ks) f non (gf a b f) non:=by
  refine Act.fld (gf a b) (fun w g _ _=>by simp[cT]) fun g hg he=>⟨kH _ _ hg,fun n=>?_,?_⟩
  ·
   rw[kf a b n hg hab ((he b).trans hb),hF,he a,he n]
  ·
   have:=nI wE a b hg hab ((he b).trans hb)
   rw[fW,fW]
   cases hq:bD a g<;>rw[hq] at this<;>simp only[wE] at this<;>omega
 refine⟨fun _ _=>rfl,fun _ _=>rfl,h1,h1,?_⟩
 refine Act.fld (gf b a) (fun w g _ _=>by simp[cT,dt]) fun g hg he=>?_
 have ha:bD a g=none:=by rw[he a,hF];simp[hab.symm]
 refine⟨kH _ _ hg,fun n=>?_,?_⟩
 ·
  rw[kf b a n hg hab.symm ha,he b,he n,hF,hF]
  by_cases e1:a=n
  ·
   subst e1;simp
  ·
   by_cases e2:b=n
   ·
    subst e2;simp[e1,hb]
   ·
    simp[e1,e2]
 ·
  have:=nI wE b a hg hab.symm ha
  rw[fW,fW]
  cases hq:bD b g<;>rw[hq] at this<;>simp only[wE] at this<;>omega
theorem BM {sw:List (Int×Int)}{subs:List Lns}(hn:bl f)(hf:bD a f=none)(hv:cQ ty d=true)(la:a.length≤16)(ld:wD d≤257)(hl:st.length+ks.length≤100) :
  Way (rS e st ks) 1000 (cT e false (.mk 2 a b ty d sw subs) st ks) (cT e true (.mk 2 a b ty d sw subs) st ks) f (aq a d f) (own e st ks d) non:=by
 have e1:cT e false (.mk 2 a b ty d sw subs) st ks=fun w g=>some (jM e st ks a ty d w g):=by funext w g;simp[cT]
 have e2:cT e true (.mk 2 a b ty d sw subs) st ks=fun w g=>some (ga e st ks a w g):=by funext w g;simp[cT,dt]
 rw[e1,e2]
 refine⟨fun _ h=>wP h,fun _ _=>rfl,rh hf la ld hl,lf hf hv la ld ld hl,?_⟩
 have hn2:=bK a d hn
 refine(o0 (f:=aq a d f) (x:=d) (by rw[bE,if_pos rfl]) hn2 ld hl).eqR fun n=>?_
 rw[dK _ _ hn2,bE]
 by_cases e1:a=n
 ·
  subst e1;simp[hf]
 ·
  simp[e1]
theorem BN {sw:List (Int×Int)}{subs:List Lns}(hn:bl f)(hf:bD a f=some x)(hv:cQ ty x=true)(la:a.length≤16)(ld:wD d≤257)(lx:wD x≤257)(hl:st.length+ks.length≤100) :
  Way (rS e st ks) 1000 (cT e false (.mk 3 a b ty d sw subs) st ks) (cT e true (.mk 3 a b ty d sw subs) st ks) f (dY a f) non (own e st ks x):=by
 have e1:cT e false (.mk 3 a b ty d sw subs) st ks=fun w g=>some (ga e st ks a w g):=by funext w g;simp[cT]
 have e2:cT e true (.mk 3 a b ty d sw subs) st ks=fun w g=>some (jM e st ks a ty d w g):=by funext w g;simp[cT,dt]
 rw[e1,e2]
 have h1:Act (rS e st ks) 1000 _ f non (dY a f) (own e st ks x):=o0 hf hn lx hl
 refine⟨fun _ _=>rfl,fun _ h=>wP h,h1,h1,?_⟩
 refine(lf (f:=dY a f) (x:=x) (by rw[dK _ _ hn,if_pos rfl]) hv la ld lx hl).eqR fun n=>?_
 rw[bE,dK _ _ hn]
 by_cases e1:a=n
 ·
  subst e1;simp[hf]
 ·
  simp[e1]
end
section
variable {reg:Plc→Prop} {A:Plc→Option Doc} {a b:Str} {f:Flds} {x y:Doc}
def jV (a b:Str)(w:Wlk)(g:Flds):Option (Wlk×Flds):=
 if okK (bf a g) then
  match bD b (ofD (bf a g)) with
  |some y=>some (w,aq a (ar (dY b (ofD (bf a g)))) (aq b y g))
  |none=>some (w,aq a (ar (ofD (bf a g))) g)
 else none
def iB (a b:Str)(w:Wlk)(g:Flds):Option (Wlk×Flds):=
 if okK (bf a g) then
  match bD b g with
  |some y=>some (w,aq a (ar (aq b y (ofD (bf a g)))) (dY b g))
  |none=>some (w,aq a (ar (ofD (bf a g))) g)
 else none
theorem u9 {x:Doc}(h:ar (ofD x)=x):wD x=wF (ofD x)+1:=by have:=gA (ofD x);rw[h] at this;exact this
theorem si {x:Doc}(h:ar (ofD x)=x):cR x=1+cF (ofD x):=by have:=li (ofD x);rw[h] at this;exact this
theorem mR (f:Flds):okK (ar f)=true:=by
 unfold okK ar
 simp[Doc.keys,Doc.kids]
theorem iS {f:Flds}(h:bl f):ar (ofD (ar f))=ar f:=jE (cj _) h (gg h)
theorem qU (hx:bD a f=some x)(hk:okK x=true)(hd:ar (ofD x)=x)(hy:bD b (ofD x)=some y)(hb:bD b f=none)(hab:a≠b) :
  Act reg 0 (jV a b) f A (aq a (ar (dY b (ofD x))) (aq b y f)) A:=by
 refine Act.fld (fun g=>aq a (ar (dY b (ofD x))) (aq b y g)) (fun w g _ he=>?_) fun g hg he=>⟨bK _ _ (bK _ _ hg),ib (ib he _ _) _ _,?_⟩
 ·
  unfold jV
  rw[eT ((he a).trans hx),if_pos hk,hy]
 ·
  have k1:=dV wE (x:=y) ((he b).trans hb)
  have k2:=dW wE (x:=ar (dY b (ofD x))) (f:=aq b y g) (a:=a) (y:=x) (by rw[bE,if_neg hab.symm,he a,hx])
  have k3:=fz wE hy
  have k4:=u9 hd
  have k5:=gA (dY b (ofD x))
  simp only[fW,wE] at *
  omega
theorem oZ (hx:bD a f=some x)(hk:okK x=true)(hd:ar (ofD x)=x)(hy:bD b (ofD x)=none)(hb:bD b f=some y)(hn:bl f)(hab:a≠b) :
  Act reg 0 (iB a b) f A (aq a (ar (aq b y (ofD x))) (dY b f)) A:=by
 refine Act.fld (fun g=>aq a (ar (aq b y (ofD x))) (dY b g)) (fun w g _ he=>?_) fun g hg he=>⟨bK _ _ (fc _ hg),ib (vv he hg hn _) _ _,?_⟩
 ·
  unfold iB
  rw[eT ((he a).trans hx),if_pos hk,(he b).trans hb]
 ·
  have k1:=fz wE ((he b).trans hb)
  have k2:=dW wE (x:=ar (aq b y (ofD x))) (f:=dY b g) (a:=a) (y:=x) (by rw[dK _ _ hg,if_neg hab.symm,he a,hx])
  have k3:=dV wE (x:=y) hy
  have k4:=u9 hd
  have k5:=gA (aq b y (ofD x))
  simp only[fW,wE] at *
  omega
theorem x3 {C:Nat}(hn:bl f)(hx:bD a f=some x)(hk:okK x=true)(hd:ar (ofD x)=x)(hy:bD b (ofD x)=some y)(hb:bD b f=none)(hab:a≠b) :
  Way reg C (jV a b) (iB a b) f (aq a (ar (dY b (ofD x))) (aq b y f)) non non:=by
 have h1:Act reg 0 (jV a b) f non (aq a (ar (dY b (ofD x))) (aq b y f)) non:=qU hx hk hd hy hb hab
 refine Way.mono ⟨fun _ _=>rfl,fun _ _=>rfl,h1,h1,?_⟩ (Nat.zero_le _)
 have nd:=fc b (cj x)
 refine(oZ (x:=ar (dY b (ofD x))) (y:=y) (by rw[bE,if_pos rfl]) (mR _) (iS nd) ?_ (by rw[bE,if_neg hab,bE,if_pos rfl]) (bK _ _ (bK _ _ hn)) hab).eqR fun n=>?_
 ·
  rw[gg nd b,dK _ _ (cj x),if_pos rfl]
 ·
  have e1:ar (aq b y (ofD (ar (dY b (ofD x)))))=x:=by
   refine(jE (bK _ _ (cj _)) (cj x) fun m=>?_).trans hd
   rw[bE,gg nd m,dK _ _ (cj x)]
   by_cases e:b=m
   ·
    subst e;simp[hy]
   ·
    simp[e]
  rw[e1,bE,dK _ _ (bK _ _ (bK _ _ hn)),bE,bE]
  by_cases e1:a=n
  ·
   subst e1;simp[hx]
  ·
   by_cases e2:b=n
   ·
    subst e2;simp[e1,hb]
   ·
    simp[e1,e2]
theorem vV {C:Nat}(hn:bl f)(hx:bD a f=some x)(hk:okK x=true)(hd:ar (ofD x)=x)(hy:bD b (ofD x)=none)(hb:bD b f=some y)(hab:a≠b) :
  Way reg C (iB a b) (jV a b) f (aq a (ar (aq b y (ofD x))) (dY b f)) non non:=by
 have h1:Act reg 0 (iB a b) f non (aq a (ar (aq b y (ofD x))) (dY b f)) non:=oZ hx hk hd hy hb hn hab
 refine Way.mono ⟨fun _ _=>rfl,fun _ _=>rfl,h1,h1,?_⟩ (Nat.zero_le _)
 have np:=bK b y (cj x)
 refine(qU (x:=ar (aq b y (ofD x))) (y:=y) (by rw[bE,if_pos rfl]) (mR _) (iS np) ?_ (by rw[bE,if_neg hab,dK _ _ hn,if_pos rfl]) hab).eqR fun n=>?_
 ·
  rw[gg np b,bE,if_pos rfl]
 ·
  have e1:ar (dY b (ofD (ar (aq b y (ofD x)))))=x:=by
   refine(jE (fc _ (cj _)) (cj x) fun m=>?_).trans hd
   rw[dK _ _ (cj _),gg np m,bE]
   by_cases e:b=m
   ·
    subst e;simp[hy]
   ·
    simp[e]
  rw[e1,bE,bE,bE,dK _ _ hn]
  by_cases e1:a=n
  ·
   subst e1;simp[hx]
  ·
   by_cases e2:b=n
   ·
    subst e2;simp[e1,hb]
   ·
    simp[e1,e2]
theorem vg {C:Nat}{run:Wlk→Flds→Option (Wlk×Flds)}(hx:bD a f=some x)(hr:∀w g,bD a g=some x→run w g=some (w,aq a y g))(hC:wD y≤wD x+C):Act reg C run f A (aq a y f) A:=by
 refine Act.fld (aq a y) (fun w g _ he=>hr w g ((he a).trans hx)) fun g hg he=>⟨bK _ _ hg,ib he _ _,?_⟩
 have:=dW wE (x:=y) ((he a).trans hx)
 simp only[fW,wE] at *
 omega
theorem s7 {C:Nat}{fw bw:Wlk→Flds→Option (Wlk×Flds)}(hx:bD a f=some x)(hf:∀w g,bD a g=some x→fw w g=some (w,aq a y g))(hb:∀w g,bD a g=some y→bw w g=some (w,aq a x g))(hC:wD y≤wD x+C)(hD:wD x≤wD y+C):Way reg C fw bw f (aq a y f) non non:=by
 have h1:Act reg C fw f non (aq a y f) non:=vg hx hf hC
 refine⟨fun _ _=>rfl,fun _ _=>rfl,h1,h1,(vg (x:=y) (by rw[bE,if_pos rfl]) hb hD).eqR fun n=>?_⟩
 rw[bE,bE]
 by_cases e:a=n
 ·
  subst e;simp[hx]
 ·
  simp[e]
end
theorem nJ (n:Int):∀l:List (Int×Int),el n l=n∨el n l∈cJ l
 |[]=>.inl rfl
 |(a,b)::r=>by
  rw[el,cJ]
  split
  ·
   simp
  ·
   split
   ·
    simp
   ·
    rcases nJ n r with h|h
    ·
     exact .inl h
    ·
     exact .inr (by simp[h])
theorem gS (n a b:Int)(r:List (Int×Int)):el n ((a,b)::r)=if a=n then b else if b=n then a else el n r:=rfl
theorem no (n:Int):∀l:List (Int×Int),qN (cJ l)=false→el (el n l) l=n
 |[],_=>rfl
 |(a,b)::r,h=>by
  rw[cJ,qN,qN] at h
  simp only[Bool.or_eq_false_iff,List.contains_eq_mem,List.mem_cons,decide_eq_false_iff_not,not_or] at h
  obtain⟨⟨hab,har⟩,hbr,hr⟩:=h
  by_cases e1:a=n
  ·
   rw[gS n,if_pos e1,gS,if_neg hab,if_pos rfl]
   exact e1
  ·
   by_cases e2:b=n
   ·
    rw[gS n,if_neg e1,if_pos e2,gS,if_pos rfl]
    exact e2
   ·
    have ih:=no n r hr
    have hm:a≠el n r∧b≠el n r:=by
     rcases nJ n r with h|h
     ·
      rw[h];exact⟨e1,e2⟩
     ·
      exact⟨fun e=>har (by rw[e];exact h),fun e=>hbr (by rw[e];exact h)⟩
    rw[gS n,if_neg e1,if_neg e2,gS,if_neg hm.1,if_neg hm.2]
    exact ih
end Go.V
end
section
namespace Go.V
section
variable {reg reg':Plc→Prop} {C C':Nat} {fw bw:Wlk→Flds→Option (Wlk×Flds)} {f f':Flds} {A B:Plc→Option Doc}
theorem Way.wide (h:Way reg C fw bw f f' A B)(hr:∀p,reg p→reg' p):Way reg' C fw bw f f' A B:=
 ⟨fun p hp=>h.supA p fun hq=>hp (hr p hq),fun p hp=>h.supB p fun hq=>hp (hr p hq),
  h.first.wide hr fun p _ hq=>(h.supB p hq).symm,h.again.wide hr fun p _ hq=>(h.supA p hq).trans (h.supB p hq).symm,h.back.wide hr fun p _ hq=>(h.supB p hq).trans (h.supA p hq).symm⟩
end
theorem oS (h:Str→Doc→Nat){a:Str}{x:Doc}{f:Flds}(hx:bD a f=some x):h a x≤gQ h f:=by have:=fz h hx;omega
def kg (run:Wlk→Flds→Option (Wlk×Flds))(a:Str)(w:Wlk)(g:Flds):Option (Wlk×Flds):=
 if okK (bf a g) then
  match run w (ofD (bf a g)) with
  |some (w',f')=>some (w',aq a (ar f') g)
  |none=>none
 else none
section
variable {reg:Plc→Prop} {C:Nat} {run fw bw:Wlk→Flds→Option (Wlk×Flds)} {a:Str} {f f0 f1:Flds} {x:Doc} {A B:Plc→Option Doc}
theorem lN (hx:bD a f=some x)(hk:okK x=true)(hd:ar (ofD x)=x)(h0:eqM (ofD x) f0)(h1:bl f1)(h:Act reg C run f0 A f1 B):Act reg C (kg run a) f A (aq a (ar f1) f) B:=by
 intro w g g1 g2 g3 g4 g5
 have hg:=(g2 a).trans hx
 have k1:=u9 hd
 have k2:=oS wE hg
 simp only[wE] at k2
 rw[←fW] at k2
 obtain⟨w',g',q1,q2,q3,q4,q5,q6,q7,q8⟩:=h w (ofD x) (cj x) h0 g3 g4 (by omega)
 have e1:ar g'=ar f1:=jE q2 h1 q3
 refine⟨w',aq a (ar f1) g,?_,bK _ _ g1,ib g2 _ _,q4,q5,q6,q7,?_⟩
 ·
  unfold kg
  rw[eT hg,if_pos hk,q1]
  simp only[e1]
 ·
  have k3:=dW wE (x:=ar f1) hg
  have k4:=gA g'
  rw[e1] at k4
  simp only[fW,wE] at *
  omega
theorem vU (hn:bl f)(hx:bD a f=some x)(hk:okK x=true)(hd:ar (ofD x)=x)(h1:bl f1)(h:Way reg C fw bw (ofD x) f1 A B):Way reg C (kg fw a) (kg bw a) f (aq a (ar f1) f) A B:=by
 refine⟨h.supA,h.supB,lN hx hk hd (eqM.refl _) h1 h.first,lN hx hk hd (eqM.refl _) h1 h.again,?_⟩
 refine(lN (f:=aq a (ar f1) f) (x:=ar f1) (by rw[bE,if_pos rfl]) (mR _) (iS h1) (gg h1) (cj x) h.back).eqR fun n=>?_
 rw[hd,bE,bE]
 by_cases e:a=n
 ·
  subst e;simp[hx]
 ·
  simp[e]
end
def ActD {σ:Type}(wt:σ→Nat)(reg:Plc→Prop)(C:Nat)(run:σ→Wlk→Option (Wlk×σ))(x:σ)(A:Plc→Option Doc)(x':σ)(B:Plc→Option Doc):Prop:=
 ∀w,srt w.res→(∀p,reg p→pd p w.res=A p)→wW w+wt x+C<lim→
  ∃w',run x w=some (w',x')∧srt w'.res∧(∀p,reg p→pd p w'.res=B p)∧(∀p,¬reg p→pd p w'.res=pd p w.res)∧w'.err=w.err∧wW w'+wt x'≤wW w+wt x+C
theorem ActD.ab {σ:Type}{wt:σ→Nat}{reg:Plc→Prop}{C:Nat}{run:σ→Wlk→Option (Wlk×σ)}{x x':σ}{A A' B B':Plc→Option Doc}(h:ActD wt reg C run x A x' B)(hA:∀p,reg p→A p=A' p)(hB:∀p,reg p→B p=B' p):ActD wt reg C run x A' x' B':=by
 intro w h1 h2 h3
 obtain⟨w',k1,k2,k3,k4,k5,k6⟩:=h w h1 (fun p hp=>(h2 p hp).trans (hA p hp).symm) h3
 exact⟨w',k1,k2,fun p hp=>(k3 p hp).trans (hB p hp),k4,k5,k6⟩
theorem ActD.iff {σ:Type}{wt:σ→Nat}{reg reg':Plc→Prop}{C:Nat}{run:σ→Wlk→Option (Wlk×σ)}{x x':σ}{A B:Plc→Option Doc}(h:ActD wt reg C run x A x' B)(hr:∀p,reg p↔reg' p):ActD wt reg' C run x A x' B:=by
 intro w h1 h2 h3
 obtain⟨w',k1,k2,k3,k4,k5,k6⟩:=h w h1 (fun p hp=>h2 p ((hr p).1 hp)) h3
 exact⟨w',k1,k2,fun p hp=>k3 p ((hr p).2 hp),fun p hp=>k4 p fun hq=>hp ((hr p).1 hq),k5,k6⟩
def xK (run:Wlk→Flds→Option (Wlk×Flds))(y:Doc)(w:Wlk):Option (Wlk×Doc):=
 if okK y then (match run w (ofD y) with
  |some (w',f')=>some (w',ar f')
  |none=>none) else none
theorem ri {reg:Plc→Prop}{C:Nat}{run:Wlk→Flds→Option (Wlk×Flds)}{y:Doc}{f0 f1:Flds}{A B:Plc→Option Doc}(hk:okK y=true)(hd:ar (ofD y)=y)(h0:eqM (ofD y) f0)(h1:bl f1)(h:Act reg C run f0 A f1 B):ActD wD reg C (xK run) y A (ar f1) B:=by
 intro w g3 g4 g5
 have k1:=u9 hd
 obtain⟨w',g',q1,q2,q3,q4,q5,q6,q7,q8⟩:=h w (ofD y) (cj y) h0 g3 g4 (by omega)
 have e1:ar g'=ar f1:=jE q2 h1 q3
 refine⟨w',?_,q4,q5,q6,q7,?_⟩
 ·
  unfold xK
  rw[if_pos hk,q1]
  simp only[e1]
 ·
  have k4:=gA g'
  rw[e1] at k4
  omega
theorem oX {reg1 reg2:Plc→Prop}{C1 C2:Nat}{R:Str→Doc→Wlk→Option (Wlk×Doc)}{s:Str}{ks:List Str}{y y':Doc}{ds ds':List Doc}{A B:Plc→Option Doc}
  (h:ActD wD reg1 C1 (R s) y A y' B) (k:ActD wDs reg2 C2 (fun ds w=>gE R ks ds w) ds A ds' B) (hd:∀p,reg1 p→reg2 p→False) :
  ActD wDs (fun p=>reg1 p∨reg2 p) (C1+C2) (fun ds w=>gE R (s::ks) ds w) (y::ds) A (y'::ds') B:=by
 intro w h1 h2 h3
 simp only[wDs] at h3 ⊢
 obtain⟨w',k1,k2,k3,k4,k5,k6⟩:=h w h1 (fun p hp=>h2 p (.inl hp)) (by omega)
 obtain⟨w2,l1,l2,l3,l4,l5,l6⟩:=k w' k2 (fun p hp=>by rw[k4 p (fun hq=>hd p hq hp)];exact h2 p (.inr hp)) (by omega)
 refine⟨w2,?_,l2,?_,?_,l5.trans k5,by omega⟩
 ·
  simp only at l1 ⊢
  rw[gE,k1]
  simp only[l1]
 ·
  rintro p (hp|hp)
  ·
   rw[l4 p (fun hq=>hd p hp hq)];exact k3 p hp
  ·
   exact l3 p hp
 ·
  intro p hp
  rw[l4 p (fun hq=>hp (.inr hq)),k4 p (fun hq=>hp (.inl hq))]
structure WayE (reg:Plc→Prop)(C:Nat)(fw bw:List Doc→Wlk→Option (Wlk×List Doc))(ds ds':List Doc)(A B:Plc→Option Doc):Prop where
 supA:∀p,¬reg p→A p=none
 supB:∀p,¬reg p→B p=none
 first:ActD wDs reg C fw ds non ds' B
 again:ActD wDs reg C fw ds A ds' B
 back:ActD wDs reg C bw ds' B ds A
def ia (n m:Nat):Nat:=1000*(n*(1+m))
def le (l:List Lns):Prop:=∀(e:Int)(st:List Int)(ks:List Str)(k:Nat)(r u:Ty)(f:Flds),gd r→bQ l r 0=.ok u→Tf r.fields f→st.length+ks.length+2*ak l≤100→
 ∃f' A B,gd u∧Tf u.fields f'∧cF f'=cF f∧Way (rL e st ks k) (ia (bJ l) (cF f)) (ej e false l k st ks) (ej e true l k st ks) f f' A B
def ve (s:Lns):Prop:=∀(e:Int)(st:List Int)(ks:List Str)(r r':Ty)(f:Flds),gd r→gd r'→Did s r r'→Tf r.fields f→st.length+ks.length+2*ir s≤99→
 ∃f' A B,Tf r'.fields f'∧cF f'=cF f∧Way (rS e st ks) (rr (jK s) (cF f)) (cT e false s st ks) (cT e true s st ks) f f' A B
theorem tL {l:List Lns}(H:le l)(e:Int)(st:List Int)(ks:List Str){t u:Ty}(ht:gd t)(hl:bQ l t 0=.ok u)(hb:st.length+(ks.length+1)+2*ak l≤100) :
  ∀(keys:List Str) (ds:List Doc),keys.length=ds.length→keys.Nodup→(∀y∈ds,rightD y=true∧okT t y=true)→
   ∃ds' A B,ds'.length=ds.length∧(∀y∈ds',rightD y=true∧okT u y=true)∧cRs ds'=cRs ds∧
    WayE (fun p=>∃s∈keys,rS e st (ks++[s]) p) (1000*(bJ l*cRs ds)) (fun ds w=>gE (fun s y w=>xK (ej e false l 0 st (ks++[s])) y w) keys ds w) (fun ds w=>gE (fun s y w=>xK (ej e true l 0 st (ks++[s])) y w) keys ds w) ds ds' A B
 |[],[],_,_,_=>by
  have key:∀R:Str→Doc→Wlk→Option (Wlk×Doc),ActD wDs (fun p=>∃s∈([]:List Str),rS e st (ks++[s]) p) (1000*(bJ l*cRs [])) (fun ds w=>gE R [] ds w) [] non [] non:=fun R w h1 h2 h3=>
   ⟨w,rfl,h1,h2,fun _ _=>rfl,rfl,by omega⟩
  exact⟨[],non,non,rfl,by simp,rfl,fun _ _=>rfl,fun _ _=>rfl,key _,key _,key _⟩
 |s::keys,y::ds,hlen,hnd,hy=>by
  rw[List.nodup_cons] at hnd
  obtain⟨ds',A2,B2,i1,i2,i3,i4⟩:=tL H e st ks ht hl hb keys ds (by simpa using hlen) hnd.2 fun y' hy'=>hy y' (by simp[hy'])
  obtain⟨y1,y2⟩:=hy y (by simp)
  obtain⟨r1,r2,r3⟩:=nF y1 ht.kind y2
  obtain⟨f1,A1,B1,j1,j2,j3,j4⟩:=H e st (ks++[s]) 0 t u (ofD y) ht hl r1 (by simp;omega)
  have j5:=j4.wide (reg':=rS e st (ks++[s])) fun p hp=>yi hp
  have hc:=si r2
  have hd:∀p,rS e st (ks++[s]) p→(∃s'∈keys,rS e st (ks++[s']) p)→False:=by
   rintro p h1 ⟨s',h2,h3⟩
   have:=xI h1 h3
   subst this
   exact hnd.1 h2
  have out:=vA j1 j2
  have hreg:∀p,(rS e st (ks++[s]) p∨∃s'∈keys,rS e st (ks++[s']) p)↔∃s'∈s::keys,rS e st (ks++[s']) p:=fun p=>by simp
  have hcost:ia (bJ l) (cF (ofD y))+1000*(bJ l*cRs ds)=1000*(bJ l*cRs (y::ds)):=by
   unfold ia
   rw[cRs,hc,Nat.mul_add (bJ l) (1+cF (ofD y)) (cRs ds),Nat.mul_add 1000]
  have aF:=ri r3 r2 (eqM.refl _) j2.nod j5.first
  have aA:=ri r3 r2 (eqM.refl _) j2.nod j5.again
  have aB:=ri (mR f1) (iS j2.nod) (gg j2.nod) (cj y) j5.back
  rw[r2] at aB
  have bA:∀p,rS e st (ks++[s]) p→A1 p=(A1 p).or (A2 p):=fun p hp=>by
   rw[i4.supA p fun hq=>hd p hp hq];cases A1 p<;>rfl
  have bB:∀p,rS e st (ks++[s]) p→B1 p=(B1 p).or (B2 p):=fun p hp=>by
   rw[i4.supB p fun hq=>hd p hp hq];cases B1 p<;>rfl
  have cA:∀p,(∃s'∈keys,rS e st (ks++[s']) p)→A2 p=(A1 p).or (A2 p):=fun p hp=>by
   rw[j5.supA p fun hq=>hd p hq hp];rfl
  have cB:∀p,(∃s'∈keys,rS e st (ks++[s']) p)→B2 p=(B1 p).or (B2 p):=fun p hp=>by
   rw[j5.supB p fun hq=>hd p hq hp];rfl
  refine⟨ar f1::ds',fun p=>(A1 p).or (A2 p),fun p=>(B1 p).or (B2 p),by simp[i1],?_,?_,⟨fun p hp=>?_,fun p hp=>?_,?_,?_,?_⟩⟩
  ·
   intro z hz
   rcases List.mem_cons.1 hz with rfl|hz
   ·
    exact⟨out.2,out.1⟩
   ·
    exact i2 z hz
  ·
   rw[cRs,cRs,i3,li,j3,←hc]
  ·
   have hp':=fun h=>hp ((hreg p).1 h)
   show(A1 p).or (A2 p)=none
   rw[j5.supA p fun hq=>hp' (.inl hq),i4.supA p fun hq=>hp' (.inr hq)];rfl
  ·
   have hp':=fun h=>hp ((hreg p).1 h)
   show(B1 p).or (B2 p)=none
   rw[j5.supB p fun hq=>hp' (.inl hq),i4.supB p fun hq=>hp' (.inr hq)];rfl
  ·
   rw[←hcost]
   exact(oX (aF.ab (fun _ _=>rfl) bB) (i4.first.ab (fun _ _=>rfl) cB) hd).iff hreg
  ·
   rw[←hcost]
   exact(oX (aA.ab bA bB) (i4.again.ab cA cB) hd).iff hreg
  ·
   rw[←hcost]
   exact(oX (aB.ab bB bA) (i4.back.ab cB cA) hd).iff hreg
def qm (R:Str→Doc→Wlk→Option (Wlk×Doc))(a:Str)(w:Wlk)(g:Flds):Option (Wlk×Flds):=
 match gE R (bf a g).keys (bf a g).kids w with
 |some (w',l)=>some (w',aq a (.mk (bf a g).kind (bf a g).num (bf a g).str (bf a g).keys l) g)
 |none=>none
theorem oY {reg:Plc→Prop}{C:Nat}{R:Str→Doc→Wlk→Option (Wlk×Doc)}{a:Str}{f:Flds}{k n:Int}{s:Str}{keys:List Str}{ds ds':List Doc}{A B:Plc→Option Doc}(hx:bD a f=some (.mk k n s keys ds))
  (h:ActD wDs reg C (fun ds w=>gE R keys ds w) ds A ds' B):Act reg C (qm R a) f A (aq a (.mk k n s keys ds') f) B:=by
 intro w g g1 g2 g3 g4 g5
 have hg:=(g2 a).trans hx
 have k2:=oS wE hg
 simp only[wE,wD] at k2
 rw[←fW] at k2
 obtain⟨w',q1,q4,q5,q6,q7,q8⟩:=h w g3 g4 (by omega)
 refine⟨w',aq a (.mk k n s keys ds') g,?_,bK _ _ g1,ib g2 _ _,q4,q5,q6,q7,?_⟩
 ·
  unfold qm
  rw[eT hg]
  simp only[Doc.keys,Doc.kids,Doc.kind,Doc.num,Doc.str] at q1 ⊢
  rw[q1]
 ·
  have k3:=dW wE (x:=.mk k n s keys ds') hg
  simp only[fW,wE,wD] at *
  omega
theorem zj {reg:Plc→Prop}{C:Nat}{R R':Str→Doc→Wlk→Option (Wlk×Doc)}{a:Str}{f:Flds}{k n:Int}{s:Str}{keys:List Str}{ds ds':List Doc}{A B:Plc→Option Doc}(hx:bD a f=some (.mk k n s keys ds))
  (h:WayE reg C (fun ds w=>gE R keys ds w) (fun ds w=>gE R' keys ds w) ds ds' A B):Way reg C (qm R a) (qm R' a) f (aq a (.mk k n s keys ds') f) A B:=by
 refine⟨h.supA,h.supB,oY hx h.first,oY hx h.again,(oY (f:=aq a (.mk k n s keys ds') f) (ds:=ds') (by rw[bE,if_pos rfl]) h.back).eqR fun m=>?_⟩
 rw[bE,bE]
 by_cases e:a=m
 ·
  subst e;simp[hx]
 ·
  simp[e]
end Go.V
end
section
namespace Go.V
theorem Tf.turn {fs fs':List Fld}{f f':Flds}(h:Tf fs f)(hn:bl f')(hg:∀n,(bD n f'=bD n f∧ah n fs'=ah n fs)∨(okA (ah n fs') (bD n f')∧∀x,bD n f'=some x→rightD x=true)):Tf fs' f':=
 ⟨hn,fun n=>by
  rcases hg n with ⟨h1,h2⟩|⟨h1,_⟩
  ·
   rw[h1,h2];exact h.ok n
  ·
   exact h1,fun n x hx=>by
  rcases hg n with ⟨h1,h2⟩|⟨_,h1⟩
  ·
   exact h.rd n x (by rw[←h1];exact hx)
  ·
   exact h1 x hx⟩
theorem o3 {a:Str}{x y:Doc}{f:Flds}(hx:bD a f=some x)(h:cR y=cR x):cF (aq a y f)=cF f:=by
 have:=dW cE (x:=y) hx
 unfold cF
 simp only[cE] at *
 omega
theorem Tf.one {r:List Fld}{a:Str}{t:Ty}{y:Doc}{f:Flds}(h:Tf r f)(hy:okT t y=true)(hr:rightD y=true):Tf (fM a t r) (aq a y f):=by
 refine h.turn (bK _ _ h.nod) fun n=>?_
 rw[bE,be]
 by_cases e:a=n
 ·
  simp only[e,if_true]
  exact .inr ⟨hy,fun x hx=>by cases hx;exact hr⟩
 ·
  simp[e]
theorem pW {t:Ty}{d:Doc}(h:dy t d=0):bq t=true∧de t=true∧cQ t d=true:=by
 unfold dy at h
 split at h
 ·
  cases h
 ·
  rename_i h1
  split at h
  ·
   cases h
  ·
   rename_i h2
   simp only[not_or,Bool.not_eq_false] at h1 h2
   exact⟨h1.1,h1.2,h2⟩
theorem gT (t:Ty)(d:Doc):cQ t d=true↔bq t=true∧dH d=true∧okT t d=true:=by
 unfold cQ
 simp[and_assoc]
theorem zM (e:Int)(a b:Str)(ty:Ty)(d:Doc)(sw:List (Int×Int))(subs:List Lns)(bk:Bool)(st:List Int)(ks:List Str):cT e bk (.mk 9 a b ty d sw subs) st ks=kg (ej e bk subs 0 st ks) a:=by
 funext w g
 cases bk<;>simp[cT,dt,kg]<;>rfl
theorem w6 (e:Int)(a b:Str)(ty:Ty)(d:Doc)(sw:List (Int×Int))(subs:List Lns)(bk:Bool)(st:List Int)(ks:List Str):cT e bk (.mk 10 a b ty d sw subs) st ks=qm (fun s y w=>xK (ej e bk subs 0 st (ks++[s])) y w) a:=by
 funext w g
 cases bk<;>simp only[cT,dt,qm,xK,decide_false,Bool.false_and,Bool.true_and,Bool.false_eq_true,if_false,if_true]<;>rfl
theorem w9 {s:Lns}(H:le s.subs):ve s:=by
 obtain⟨k,a,b,ty,d,sw,subs⟩:=s
 intro e st ks r r' f hr hr' hd hf hb
 simp only[Lns.subs] at H
 cases hd with
 |ren f0 hk hf0 hn hb0=>
  simp only[Lns.kind,Lns.a,Lns.b] at *
  subst hk
  have hab:a≠b:=fun e=>by rw[←e,hf0] at hb0;cases hb0
  have hgb:=hf.miss hb0
  have hd:ah (Fld.mk b f0.opt f0.ty).name (bZ a r.fields)=none:=by rw[bV];simp[Fld.name,hb0]
  refine⟨gf a b f,non,non,hf.turn (kH _ _ hf.nod) fun n=>?_,?_,(BO (k:=0) hf.nod hab hgb (jJ (hr.fld hf0).2.1) (jJ hn)).mono (ka _ _)⟩
  ·
   rw[kf a b n hf.nod hab hgb,aj,cw _ _ _ hd,bV]
   simp only[Fld.name]
   by_cases e1:b=n
   ·
    subst e1
    simp only[if_true]
    have h1:=hf.ok a
    rw[hf0] at h1
    refine .inr ⟨?_,fun x hx=>hf.rd a x hx⟩
    cases h2:bD a f with
    |none=>rw[h2] at h1;exact h1
    |some x=>rw[h2] at h1;exact h1
   ·
    by_cases e2:a=n
    ·
     subst e2
     simp only[e1,if_false,if_true]
     exact .inr ⟨trivial,fun x hx=>by cases hx⟩
    ·
     simp[e1,e2]
  ·
   have:=nI cE a b hf.nod hab hgb
   unfold cF
   cases h2:bD a f<;>rw[h2] at this<;>simp only[cE] at this<;>omega
 |add hk hn ha he=>
  simp only[Lns.kind,Lns.a,Lns.b,Lns.ty,Lns.doc] at *
  subst hk
  obtain⟨q1,q2,q3⟩:=pW he
  obtain⟨_,q4,q5⟩:=(gT _ _).1 q3
  have q6:=((eZ _).1 q4).2.2
  obtain⟨q7,q8,_⟩:=fy q2 q5 q6
  have hga:=hf.miss ha
  refine⟨aq a d f,own e st ks d,non,hf.turn (bK _ _ hf.nod) fun n=>?_,?_,(BM hf.nod hga q3 (jJ hn) q7 (by omega)).mono (ka _ _)⟩
  ·
   rw[bE,aj,cw _ (.mk a false ty) _ ha]
   simp only[Fld.name]
   by_cases e1:a=n
   ·
    simp only[e1,if_true]
    exact .inr ⟨q5,fun x hx=>by cases hx;exact q6⟩
   ·
    simp[e1]
  ·
   have:=dV cE (x:=d) hga
   unfold cF
   simp only[cE] at this
   omega
 |rem f0 hk hf0 ho ht he=>
  simp only[Lns.kind,Lns.a,Lns.b,Lns.ty,Lns.doc] at *
  subst hk
  obtain⟨q1,q2,q3⟩:=pW he
  obtain⟨_,q4,q5⟩:=(gT _ _).1 q3
  have q6:=((eZ _).1 q4).2.2
  obtain⟨q7,_,_⟩:=fy q2 q5 q6
  obtain⟨x,hx,hx2,hx3⟩:=hf.has hf0 ho
  rw[ht] at hx2
  obtain⟨p1,p2,p3⟩:=fy q2 hx2 hx3
  refine⟨dY a f,non,own e st ks x,hf.turn (fc _ hf.nod) fun n=>?_,?_,(BN hf.nod hx ((gT _ _).2 ⟨q1,p3,hx2⟩) (jJ (hr.fld hf0).2.1) q7 p1 (by omega)).mono (ka _ _)⟩
  ·
   rw[dK _ _ hf.nod,aj,bV]
   by_cases e1:a=n
   ·
    simp only[e1,if_true]
    exact .inr ⟨trivial,fun x hx=>by cases hx⟩
   ·
    simp[e1]
  ·
   have:=fz cE hx
   unfold cF
   simp only[cE] at this
   omega
 |hoist f0 g0 hk hf0 ho ht hg0 hgo hb0=>
  simp only[Lns.kind,Lns.a,Lns.b] at *
  subst hk
  have hab:a≠b:=fun e=>by rw[←e,hf0] at hb0;cases hb0
  have hfa:=hr.fld hf0
  have gdf:gd f0.ty:=⟨hfa.2.2,ht⟩
  have hgb:=gdf.fld hg0
  obtain⟨x,hx,hx2,hx3⟩:=hf.has hf0 ho
  obtain⟨r1,r2,r3⟩:=nF hx3 ht hx2
  obtain⟨y,hy,hy2,hy3⟩:=r1.has hg0 hgo
  have hgb':=hf.miss hb0
  have e1:cT e false (.mk 4 a b ty d sw subs) st ks=jV a b:=by funext w g;simp[cT,jV];rfl
  have e2:cT e true (.mk 4 a b ty d sw subs) st ks=iB a b:=by funext w g;simp[cT,dt,iB];rfl
  have hX:Tf (bZ b f0.ty.fields) (dY b (ofD x)):=r1.turn (fc _ r1.nod) fun n=>by
   rw[dK _ _ r1.nod,bV]
   by_cases e1:b=n
   ·
    simp only[e1,if_true]
    exact .inr ⟨trivial,fun x hx=>by cases hx⟩
   ·
    simp[e1]
  have hXo:=sO (fD b gdf.parts.2.1) (fun g hg=>(gdf.parts.2.2 g (tu hg)).1) hX
  have hsf:ah g0.name (fM a (dA (bZ b f0.ty.fields)) r.fields)=none:=by rw[be,hgb.1,if_neg hab,hb0]
  rw[e1,e2]
  refine⟨_,non,non,hf.turn (bK _ _ (bK _ _ hf.nod)) fun n=>?_,?_,x3 hf.nod hx r3 r2 hy hgb' hab⟩
  ·
   rw[bE,bE,aj,cw _ _ _ hsf,be,hgb.1]
   by_cases e1:a=n
   ·
    subst e1
    simp only[hab.symm,if_false,if_true]
    exact .inr ⟨hXo.1,fun x hx=>by cases hx;exact hXo.2⟩
   ·
    by_cases e2:b=n
    ·
     subst e2
     simp only[hab,if_false,if_true]
     exact .inr ⟨hy2,fun x hx=>by cases hx;exact hy3⟩
    ·
     simp[e1,e2]
  ·
   have k1:=dV cE (x:=y) hgb'
   have k2:=dW cE (x:=ar (dY b (ofD x))) (f:=aq b y f) (a:=a) (y:=x) (by rw[bE,if_neg hab.symm,hx])
   have k3:=fz cE hy
   have k4:=si r2
   have k5:=li (dY b (ofD x))
   unfold cF at *
   simp only[cE] at *
   omega
 |plunge f0 g0 hk hf0 ho hg0 hgo ht hab hb0=>
  simp only[Lns.kind,Lns.a,Lns.b] at *
  subst hk
  have hfa:=hr.fld hf0
  have hga:=hr.fld hg0
  have gdf:gd f0.ty:=⟨hfa.2.2,ht⟩
  obtain⟨x,hx,hx2,hx3⟩:=hf.has hf0 ho
  obtain⟨y,hy,hy2,hy3⟩:=hf.has hg0 hgo
  obtain⟨r1,r2,r3⟩:=nF hx3 ht hx2
  have hxb:=r1.miss hb0
  have e1:cT e false (.mk 5 a b ty d sw subs) st ks=iB a b:=by funext w g;simp[cT,iB];rfl
  have e2:cT e true (.mk 5 a b ty d sw subs) st ks=jV a b:=by funext w g;simp[cT,dt,jV];rfl
  have hgn:ah g0.name f0.ty.fields=none:=by rw[hga.1];exact hb0
  have hX:Tf (dU g0 f0.ty.fields) (aq b y (ofD x)):=r1.turn (bK _ _ r1.nod) fun n=>by
   rw[bE,cw _ _ _ hgn,hga.1]
   by_cases e1:b=n
   ·
    simp only[e1,if_true]
    exact .inr ⟨hy2,fun x hx=>by cases hx;exact hy3⟩
   ·
    simp[e1]
  have hXo:=sO (fE gdf.parts.2.1 hgn) (fun g hg=>by
   rcases pF.1 hg with rfl|hg
   ·
    rw[hga.1];exact hga.2.1
   ·
    exact(gdf.parts.2.2 g hg).1) hX
  rw[e1,e2]
  refine⟨_,non,non,hf.turn (bK _ _ (fc _ hf.nod)) fun n=>?_,?_,vV hf.nod hx r3 r2 hxb hy hab⟩
  ·
   rw[bE,dK _ _ hf.nod,aj,bV,be]
   by_cases e1:a=n
   ·
    subst e1
    simp only[hab.symm,if_false,if_true]
    exact .inr ⟨hXo.1,fun x hx=>by cases hx;exact hXo.2⟩
   ·
    by_cases e2:b=n
    ·
     subst e2
     simp only[hab,if_false,if_true]
     exact .inr ⟨trivial,fun x hx=>by cases hx⟩
    ·
     simp[e1,e2]
  ·
   have k1:=fz cE hy
   have k2:=dW cE (x:=ar (aq b y (ofD x))) (f:=dY b f) (a:=a) (y:=x) (by rw[dK _ _ hf.nod,if_neg hab.symm,hx])
   have k3:=dV cE (x:=y) hxb
   have k4:=si r2
   have k5:=li (aq b y (ofD x))
   unfold cF at *
   simp only[cE] at *
   omega
 |wrap f0 hk hf0 ho hs=>
  simp only[Lns.kind,Lns.a] at *
  subst hk
  obtain⟨x,hx,hx2,hx3⟩:=hf.has hf0 ho
  obtain⟨p1,p2,p3⟩:=fy hs hx2 hx3
  refine⟨aq a (.mk 3 0 [] [] [x]) f,non,non,hf.one ?_ ?_,o3 hx ?_,?_⟩
  ·
   simp[okT,qQ,cy,Ty.kind,Ty.lo,Ty.hi,Doc.kind,Doc.kids,hx2]
  ·
   simp[rightD,jb,ee,eq,Doc.kind,Doc.num,Doc.str,Doc.keys,hx3]
  ·
   simp[cR,cRs]
  ·
   refine(s7 (C:=1000) hx (fun w g hg=>?_) (fun w g hg=>?_) ?_ ?_).mono (ka _ _)
   ·
    simp[cT,eT hg]
   ·
    simp[cT,dt,eT hg,Doc.kids]
   ·
    simp[wD,dD,wDs]<;>omega
   ·
    simp[wD,dD,wDs]<;>omega
 |head f0 t ns fs ts hk hf0 ho ht hs=>
  simp only[Lns.kind,Lns.a] at *
  subst hk
  obtain⟨x,hx,hx2,hx3⟩:=hf.has hf0 ho
  have hfa:=hr.fld hf0
  obtain⟨v,hv,_⟩:=gj hfa.2.2 (by rw[ht];exact .inr rfl)
  rw[ht] at hx2
  have hfit:=hx2
  rw[j7,Bool.and_eq_true,decide_eq_true_eq] at hfit
  obtain⟨h1,h2⟩:=hfit
  have hxk:x.kind=3:=by have:=iI h1;simpa[Ty.kind] using this.symm
  simp only[cy,Ty.kind,Ty.lo,Ty.hi,hxk] at h1
  simp[Ty.kind,Ty.of,qQ] at h1 h2
  have hp:=((dO x).1 hx3)
  obtain⟨k0,n0,s0,ks0,ds0⟩:=x
  simp only[Doc.kind,Doc.kids] at hxk h1 h2 hp
  subst hxk
  simp[ee,Doc.kind,Doc.num,Doc.str,Doc.keys] at hp
  obtain⟨⟨⟨e1,e2⟩,e3⟩,_,hp3⟩:=hp
  replace e1:=of_decide_eq_true e1
  subst e1
  first|(replace e2:=of_decide_eq_true e2;subst e2)|subst e2|skip
  first|(replace e3:=of_decide_eq_true e3;subst e3)|subst e3|skip
  have hlen:ds0.length=1:=by omega
  match ds0,hlen with
  |[y],_=>
  have hy:okT t y=true:=h2 y (by simp)
  have hyr:rightD y=true:=hp3 y (by simp)
  obtain⟨p1,p2,p3⟩:=fy hs hy hyr
  refine⟨aq a y f,non,non,hf.one hy hyr,o3 hx (by simp[cR,cRs]),?_⟩
  refine(s7 (C:=1000) hx (fun w g hg=>?_) (fun w g hg=>?_) ?_ ?_).mono (ka _ _)
  ·
   simp[cT,eT hg,Doc.kids]
  ·
   simp[cT,dt,eT hg]
  ·
   simp[wD,dD,wDs]<;>omega
  ·
   simp[wD,dD,wDs]<;>omega
 |conv f0 hk hf0 ho ht hs=>
  simp only[Lns.kind,Lns.a,Lns.swaps] at *
  subst hk
  obtain⟨x,hx,hx2,hx3⟩:=hf.has hf0 ho
  have hfit:=hx2
  rw[j7,Bool.and_eq_true,decide_eq_true_eq] at hfit
  obtain⟨h1,_⟩:=hfit
  have hxk:x.kind=4:=by have:=iI h1;rw[if_neg (by omega)] at this;omega
  have hp:=((dO x).1 hx3).1
  obtain⟨k0,n0,s0,ks0,ds0⟩:=x
  simp only[Doc.kind] at hxk
  subst hxk
  obtain⟨z1,z2,_,z3⟩:=mU (.inl rfl) hp
  have hp':ks0=[]∧ds0=[]∧s0=[]:=⟨z1,z2,z3 rfl⟩
  obtain⟨rfl,rfl,rfl⟩:=hp'
  unfold iY at hs
  split at hs
  ·
   cases hs
  rename_i hdup
  split at hs
  ·
   cases hs
  split at hs
  ·
   cases hs
  rename_i hany
  simp only[Bool.not_eq_true] at hdup
  have hrange:∀n∈cJ sw,f0.ty.lo≤n∧n≤f0.ty.hi:=by
   intro n hn
   simp only[Bool.not_eq_true,List.any_eq_false,Bool.or_eq_true,decide_eq_true_eq] at hany
   have:=hany n hn
   omega
  have hfit2:∀n:Int,cy f0.ty (.mk 4 n [] [] [])=if n<f0.ty.lo∨f0.ty.hi<n then 8 else 0:=fun n=>by
   unfold cy
   simp[ht,Doc.kind,Doc.num]
   rfl
  have hn0:f0.ty.lo≤n0∧n0≤f0.ty.hi:=by
   rw[hfit2] at h1
   split at h1
   ·
    cases h1
   ·
    omega
  have hok:okT f0.ty (.mk 4 (el n0 sw) [] [] [])=true:=by
   rw[j7,hfit2]
   have:f0.ty.lo≤el n0 sw∧el n0 sw≤f0.ty.hi:=by
    rcases nJ n0 sw with h|h
    ·
     rw[h];exact hn0
    ·
     exact hrange _ h
   rw[if_neg (by omega),if_neg (by omega),if_neg (by omega)]
   rfl
  have hsame:∀n,ah n (fM a f0.ty r.fields)=ah n r.fields:=fun n=>by
   rw[be]
   by_cases e:a=n
   ·
    subst e;rw[if_pos rfl,hf0,Fld.eta f0,(hr.fld hf0).1,ho];rfl
   ·
    rw[if_neg e]
  have htf:=hf.one (a:=a) hok (by simp[rightD,jb,ee,eq,Doc.kind,Doc.num,Doc.str,Doc.keys,Doc.kids])
  refine⟨aq a (.mk 4 (el n0 sw) [] [] []) f,non,non,⟨htf.nod,fun n=>by rw[←hsame n];exact htf.ok n,htf.rd⟩,o3 hx (by simp[cR,cRs]),?_⟩
  refine(s7 (C:=1000) hx (fun w g hg=>?_) (fun w g hg=>?_) ?_ ?_).mono (ka _ _)
  ·
   simp[cT,eT hg,Doc.num]
  ·
   simp[cT,dt,eT hg,Doc.num,no n0 sw hdup]
  ·
   simp[wD,dD,wDs]
  ·
   simp[wD,dD,wDs]
 |ins f0 t hk hf0 ho ht hs=>
  simp only[Lns.kind,Lns.a,Lns.subs] at *
  subst hk
  obtain⟨x,hx,hx2,hx3⟩:=hf.has hf0 ho
  have hfa:=hr.fld hf0
  have gdf:gd f0.ty:=⟨hfa.2.2,ht⟩
  obtain⟨r1,r2,r3⟩:=nF hx3 ht hx2
  obtain⟨f1,A,B,j1,j2,j3,j4⟩:=H e st ks 0 f0.ty t (ofD x) gdf hs r1 (by simp only[ir] at hb;omega)
  have out:=vA j1 j2
  have hc:=si r2
  rw[zM,zM]
  refine⟨aq a (ar f1) f,A,B,hf.one out.1 out.2,o3 hx (by rw[li,j3,hc]),?_⟩
  refine(vU hf.nod hx r3 r2 j2.nod (j4.wide fun p hp=>yi hp)).mono ?_
  have k1:=oS cE hx
  unfold rr ia
  simp only[cE] at k1
  refine Nat.mul_le_mul_left 1000 (Nat.mul_le_mul (by simp only[jK];omega) (by unfold cF at *;omega))
 |each f0 lo hi ns fs t ts u hk hf0 ho ht htk hs=>
  simp only[Lns.kind,Lns.a,Lns.subs] at *
  subst hk
  obtain⟨x,hx,hx2,hx3⟩:=hf.has hf0 ho
  have hfa:=hr.fld hf0
  obtain⟨v,hv,hv2⟩:=gj hfa.2.2 (by rw[ht];exact .inl rfl)
  have hft:v=t:=by
   rw[ht] at hv
   simp only[Ty.kind,Ty.lo,Ty.hi,Ty.mk.injEq,List.cons.injEq] at hv
   exact hv.2.2.2.2.2.1.symm
  subst hft
  rw[ht] at hx2
  have hfit:=hx2
  rw[j7,Bool.and_eq_true,decide_eq_true_eq] at hfit
  obtain⟨h1,h2⟩:=hfit
  have hxk:x.kind=2:=by have:=iI h1;simpa[Ty.kind] using this.symm
  simp[Ty.kind,Ty.of,qQ] at h2
  have hp:=((dO x).1 hx3)
  obtain⟨k0,n0,s0,ks0,ds0⟩:=x
  simp only[Doc.kind] at hxk
  subst hxk
  obtain⟨p1,p2,p3⟩:=hp
  have hlen:ks0.length=ds0.length:=by
   have q1:(decide (n0=0)&&decide (s0=[])&&decide (ks0.length=ds0.length))=true:=p1
   rw[Bool.and_eq_true,decide_eq_true_eq] at q1
   exact q1.2
  have hnd:ks0.Nodup:=(((iV _ none ks0).1 p2).2.1).imp fun h=>kG h
  obtain⟨ds',A,B,i1,i2,i3,i4⟩:=tL H e st ks ⟨hv2,htk⟩ hs (by simp only[ir] at hb;omega) ks0 ds0 hlen hnd fun y hy=>⟨p3 y hy,h2 y hy⟩
  rw[w6,w6]
  refine⟨aq a (.mk 2 n0 s0 ks0 ds') f,A,B,hf.one ?_ ?_,o3 hx (by simp[cR,i3]),?_⟩
  ·
   rw[j7,Bool.and_eq_true,decide_eq_true_eq]
   constructor
   ·
    simp only[cy,Ty.kind,Ty.lo,Ty.hi,Doc.kind,Doc.kids,i1] at h1 ⊢
    exact h1
   ·
    simp[Ty.kind,Ty.of,qQ]
    exact fun y hy=>(i2 y hy).2
  ·
   rw[dO]
   refine⟨?_,p2,fun y hy=>(i2 y hy).1⟩
   simp only[ee,Doc.kind,Doc.num,Doc.str,Doc.keys,Doc.kids,i1] at p1 ⊢
   exact p1
  ·
   have hw:=zj hx i4
   have hrr:∀p,(∃s∈ks0,rS e st (ks++[s]) p)→rS e st ks p:=by
    rintro p ⟨s,_,h⟩
    exact Dv h
   refine(hw.wide hrr).mono ?_
   have k1:=oS cE hx
   simp only[cE,cR] at k1
   unfold rr
   refine Nat.mul_le_mul_left 1000 (Nat.mul_le_mul (by simp only[jK];omega) (by unfold cF;omega))
theorem jZ:∀l:List Lns,(∀s∈l,ve s)→le l
 |[],_=>by
  intro e st ks k r u f hr hl hf hb
  simp only[bQ,Except.ok.injEq] at hl
  subst hl
  have key:∀bk,Act (rL e st ks k) (ia (bJ []) (cF f)) (ej e bk [] k st ks) f non f non:=by
   intro bk w g h1 h2 h3 h4 h5
   refine⟨w,g,?_,h1,h2,h3,h4,fun _ _=>rfl,rfl,by omega⟩
   rw[ej,if_pos]
   unfold d9
   unfold wW at h5
   simp only[decide_eq_true_eq]
   omega
  exact⟨f,non,non,hr,hf,rfl,fun _ _=>rfl,fun _ _=>rfl,key _,key _,key _⟩
 |s::l,H=>by
  intro e st ks k r u f hr hl hf hb
  obtain⟨r1,h1,h2,h3⟩:=fF.1 hl
  have hd:=rx s hr.kind h1
  have hg1:gd r1:=⟨h2,hd.kind hr.kind⟩
  rw[ak] at hb
  obtain⟨f1,A1,B1,i1,i2,i3⟩:=H s (by simp) e (st++[(k:Int)]) ks r r1 f hr hg1 hd hf (by simp;omega)
  obtain⟨f2,A2,B2,j1,j2,j3,j4⟩:=jZ l (fun s' hs'=>H s' (by simp[hs'])) e st ks (k+1) r1 u f1 hg1 h3 i1 (by omega)
  have hap:∀p,rS e (st++[(k:Int)]) ks p→rL e st ks (k+1) p→False:=fun p=>yg
  have hcost:rr (jK s) (cF f)+ia (bJ l) (cF f1)=ia (bJ (s::l)) (cF f):=by
   unfold rr ia
   rw[i2,bJ,←Nat.mul_add,←Nat.add_mul,Nat.add_comm 1 (jK s)]
  have hcost2:ia (bJ l) (cF f1)+rr (jK s) (cF f)=ia (bJ (s::l)) (cF f):=by rw[Nat.add_comm];exact hcost
  have bA:∀p,rS e (st++[(k:Int)]) ks p→A1 p=(A1 p).or (A2 p):=fun p hp=>by
   rw[j4.supA p fun hq=>hap p hp hq];cases A1 p<;>rfl
  have bB:∀p,rS e (st++[(k:Int)]) ks p→B1 p=(B1 p).or (B2 p):=fun p hp=>by
   rw[j4.supB p fun hq=>hap p hp hq];cases B1 p<;>rfl
  have cA:∀p,rL e st ks (k+1) p→A2 p=(A1 p).or (A2 p):=fun p hp=>by
   rw[i3.supA p fun hq=>hap p hq hp];rfl
  have cB:∀p,rL e st ks (k+1) p→B2 p=(B1 p).or (B2 p):=fun p hp=>by
   rw[i3.supB p fun hq=>hap p hq hp];rfl
  have fwd:∀X Y:Plc→Option Doc,Act (rS e (st++[(k:Int)]) ks) (rr (jK s) (cF f)) (cT e false s (st++[(k:Int)]) ks) f X f1 Y→Act (rL e st ks (k+1)) (ia (bJ l) (cF f1)) (ej e false l (k+1) st ks) f1 X f2 Y→Act (rL e st ks k) (ia (bJ (s::l)) (cF f)) (ej e false (s::l) k st ks) f X f2 Y:=by
   intro X Y a1 a2
   rw[←hcost]
   refine((a1.seq a2 hap).iff fun p=>oO.symm).runs fun w g _ _ hlt w' g' hq _=>?_
   rw[ej]
   simp only[Bool.false_eq_true,if_false]
   rw[if_pos (by unfold d9;unfold wW at hlt;simp only[decide_eq_true_eq];omega)]
   exact hq
  refine⟨f2,fun p=>(A1 p).or (A2 p),fun p=>(B1 p).or (B2 p),j1,j2,j3.trans i2,⟨fun p hp=>?_,fun p hp=>?_,?_,?_,?_⟩⟩
  ·
   have hp':=fun h=>hp (oO.2 h)
   show(A1 p).or (A2 p)=none
   rw[i3.supA p fun hq=>hp' (.inl hq),j4.supA p fun hq=>hp' (.inr hq)];rfl
  ·
   have hp':=fun h=>hp (oO.2 h)
   show(B1 p).or (B2 p)=none
   rw[i3.supB p fun hq=>hp' (.inl hq),j4.supB p fun hq=>hp' (.inr hq)];rfl
  ·
   exact fwd _ _ (i3.first.ab (fun _ _=>rfl) bB) (j4.first.ab (fun _ _=>rfl) cB)
  ·
   exact fwd _ _ (i3.again.ab bA bB) (j4.again.ab cA cB)
  ·
   rw[←hcost2]
   refine(((j4.back.ab cB cA).seq (i3.back.ab bB bA) fun p h1 h2=>hap p h2 h1).iff fun p=>(Or.comm.trans oO.symm)).runs fun w g _ _ hlt w' g' hq hle=>?_
   rw[ej]
   simp only[if_true]
   split at hq
   ·
    rename_i w1 g1 hq1
    rw[hq1]
    simp only
    rw[hq]
    simp only
    rw[if_pos (by unfold d9;unfold wW at hlt hle;simp only[decide_eq_true_eq];omega)]
   ·
    cases hq
theorem A9 (l:List Lns):le l:=by
 have key:∀s:Lns,le s.subs:=by
  intro s
  induction s using Lns.ind with
  |h s ih=>exact jZ _ fun x hx=>w9 (ih x hx)
 exact jZ l fun s _=>w9 (key s)
end Go.V
end
