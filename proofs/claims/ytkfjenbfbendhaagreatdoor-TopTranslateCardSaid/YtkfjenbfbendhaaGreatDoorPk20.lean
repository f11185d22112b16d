/-
  A part of a proof: P7 P8 P9.
-/
import Derived.Test.YtkfjenbfbendhaaGreatDoorPk19
set_option linter.unusedSimpArgs false
set_option linter.unusedVariables false
section
namespace Go.V
def de (e:Int)(R:List Str→Wlk→Flds→Option (Wlk×Flds))(k:Int)(a b:Str)(ty:Ty)(d:Doc)(sw:List (Int×Int))(st:List Int)(ks:List Str)(w:Wlk)(f:Flds):Option (Wlk×Flds):=
 let x:=bv a f
 if k=1 then some (w,iI a b f)
 else if k=2 then some (kN e st ks a ty d w f)
 else if k=3 then some (iB e st ks a w f)
 else if k=4 then
  if okK x then
   match bI b (ofD x) with
   |some y=>some (w,ar a (ay (dq b (ofD x))) (ar b y f))
   |none=>some (w,ar a (ay (ofD x)) f)
  else none
 else if k=5 then
  if okK x then
   match bI b f with
   |some y=>some (w,ar a (ay (ar b y (ofD x))) (dq b f))
   |none=>some (w,ar a (ay (ofD x)) f)
  else none
 else if k=6 then some (w,ar a (.mk 3 0 [] [] [x]) f)
 else if k=7 then
  match x.kids with
  |y::_=>some (w,ar a y f)
  |[]=>none
 else if k=8 then some (w,ar a (.mk 4 (fP x.num sw) [] [] []) f)
 else if k=9 then
  if okK x then
   match R ks w (ofD x) with
   |some (w',f')=>some (w',ar a (ay f') f)
   |none=>none
  else none
 else
  match gv (fun s y w=>if okK y then (match R (ks++[s]) w (ofD y) with
   |some (w',f')=>some (w',ay f')
   |none=>none) else none) x.keys x.kids w with
  |some (w',l)=>some (w',ar a (.mk x.kind x.num x.str x.keys l) f)
  |none=>none
theorem xn (k:Int):dC (dC k)=k:=by
 unfold dC;by_cases h1:k=2∨k=4∨k=6
 ·rw[if_pos h1,if_neg (by omega),if_pos (by omega)];omega
 ·rw[if_neg h1];by_cases h2:k=3∨k=5∨k=7
  ·rw[if_pos h2,if_pos (by omega)];omega
  ·rw[if_neg h2,if_neg h1,if_neg h2]
theorem BE (k:Int):dC k=1↔k=1:=by
 unfold dC;split
 ·omega
 ·split<;>omega
theorem qX (e:Int)(bk:Bool)(k:Int)(a b:Str)(ty:Ty)(d:Doc)(sw:List (Int×Int))(subs:List Lns)(st:List Int)(ks:List Str) :
  lP e bk (.mk k a b ty d sw subs) st ks=de e (eb e bk subs 0 st) (if bk then dC k else k) (if bk&&decide (k=1) then b else a) (if bk&&decide (k=1) then a else b) ty d sw st ks:=by
 funext w f;rw[lP];rfl
def w5 (n m:Nat):Nat:=1000*((1+n)*(1+m))
theorem mZ (n m:Nat):1000≤w5 n m:=by unfold w5;have:0<(1+n)*(1+m):=Nat.mul_pos (by omega) (by omega);omega
def own (e:Int)(st:List Int)(ks:List Str)(x:Doc)(p:Plc):Option Doc:=if p=(e,st,ks) then some x else none
theorem zw {e:Int}{st:List Int}{ks:List Str}{x:Doc}{p:Plc}(h:¬rS e st ks p):own e st ks x p=none:=by unfold own;rw[if_neg];rintro rfl;exact h (rh e st ks)
section
variable {reg:Plc→Prop} {C:Nat} {run:Wlk→Flds→Option (Wlk×Flds)} {f f1 f':Flds} {A B N:Plc→Option Doc}
theorem Act.eqR (h:Act reg C run f A f1 B N)(he:eqM f1 f'):Act reg C run f A f' B N:=by intro w g h1 h2 h3 h4 h5;obtain⟨w',g',k1,k2,k3,k⟩:=h w g h1 h2 h3 h4 h5;exact⟨w',g',k1,k2,k3.trans he,k⟩
end
theorem CF {e:Int}{st:List Int}{ks:List Str}{d:Doc}(w:Wlk){w':Wlk}(h:w'.needs=jV w.needs ⟨e,st,ks,d⟩):nd (own e st ks d) w w':=fun h0=>by rw[h];refine⟨sB _ h0,fun p=>?_⟩;rw[qT];unfold own;show(if p=(e,st,ks) then some d else _)=_;split<;>rfl
section
variable {e:Int} {st:List Int} {ks:List Str} {a b:Str} {f:Flds} {ty:Ty} {d x y:Doc}
theorem ut (hf:bI a f=none)(la:a.length≤16)(ld:wD d≤257)(hl:st.length+ks.length≤100) :
  Act (rS e st ks) 1000 (fun w g=>some (kN e st ks a ty d w g)) f non (ar a d f) non (own e st ks d):=by
 intro w g h1 h2 h3 h4 h5;have ho:fnd (e,st,ks) w.res=none:=by
  have:=h4 _ (rh e st ks);unfold pd non at this;cases h:fnd (e,st,ks) w.res with
  |none=>rfl
  |some x=>rw[h] at this;cases this
 have hw:kN e st ks a ty d w g=(⟨w.res,jV w.needs ⟨e,st,ks,d⟩,w.err⟩,ar a d g):=by unfold kN;rw[show fj e st ks w.res=none from ho]
 refine⟨_,_,congrArg some hw,bV _ _ h1,jw h2 a d,h3,h4,fun _ _=>rfl,rfl,?_,CF _ rfl⟩;have k1:=og w.needs ⟨e,st,ks,d⟩;have k2:=eA wE (x:=d) ((h2 a).trans hf);simp only[wW,gW,wE] at *
 omega
theorem n8 (hf:bI a f=none)(hv:cD ty x=true)(la:a.length≤16)(ld:wD d≤257)(lx:wD x≤257)(hl:st.length+ks.length≤100) :
  Act (rS e st ks) 1000 (fun w g=>some (kN e st ks a ty d w g)) f (own e st ks x) (ar a x f) non (own e st ks d):=by
 intro w g h1 h2 h3 h4 h5;have ho:∃z,fnd (e,st,ks) w.res=some z∧z.doc=x:=by
  have:=h4 _ (rh e st ks);unfold pd own at this;rw[if_pos rfl] at this;cases h:fnd (e,st,ks) w.res with
  |none=>rw[h] at this;cases this
  |some z=>rw[h] at this;simp only[Option.map_some,Option.some.injEq] at this;exact⟨z,rfl,this⟩
 obtain⟨z,hz,hzx⟩:=ho;have hw:kN e st ks a ty d w g=(⟨drp (e,st,ks) w.res,jV w.needs ⟨e,st,ks,d⟩,w.err⟩,ar a x g):=by unfold kN;rw[show fj e st ks w.res=some z from hz];simp only[hzx,hv,if_true];rfl
 refine⟨_,_,congrArg some hw,bV _ _ h1,jw h2 a x,(vl _ h3).1,?_,?_,rfl,?_,CF _ rfl⟩
 ·intro p hp;simp only[CJ,non];split
  ·rfl
  ·rename_i hne;rw[h4 p hp];unfold own;rw[if_neg hne]
 ·intro p hp;simp only[CJ];rw[if_neg];rintro rfl;exact hp (rh e st ks)
 have k1:=og w.needs ⟨e,st,ks,d⟩;have k2:=eA wE (x:=x) ((h2 a).trans hf);have k3:=vy (e,st,ks) w.res;simp only[wW,gW,wE] at *
 omega
theorem qg (hf:bI a f=some x)(hn:cH f)(lx:wD x≤257)(hl:st.length+ks.length≤100) :
  Act (rS e st ks) 1000 (fun w g=>some (iB e st ks a w g)) f non (dq a f) (own e st ks x) non:=by
 intro w g h1 h2 h3 h4 h5;have hg:=(h2 a).trans hf;have hw:iB e st ks a w g=(⟨jV w.res ⟨e,st,ks,x⟩,w.needs,w.err⟩,dq a g):=by unfold iB;rw[fG hg]
 refine⟨_,_,congrArg some hw,gc _ h1,zi h2 h1 hn a,sB _ h3,?_,?_,rfl,?_,fun h=>⟨h,fun _=>rfl⟩⟩
 ·intro p hp;simp only[qT,own];show(if p=(e,st,ks) then some x else _)=_;split
  ·rfl
  ·exact h4 p hp
 ·intro p hp;simp only[qT];rw[if_neg];rintro rfl;exact hp (rh e st ks)
 have k1:=og w.res ⟨e,st,ks,x⟩;have k2:=iD wE hg;simp only[wW,gW,wE] at *
 omega
theorem Ed {sw:List (Int×Int)}{R R':List Str→Wlk→Flds→Option (Wlk×Flds)}(hf:cH f)(hab:a≠b)(hb:bI b f=none)(la:a.length≤16)(lb:b.length≤16) :
  Way (rS e st ks) 1000 (de e R 1 a b ty d sw st ks) (de e R' 1 b a ty d sw st ks) f (iI a b f) non non:=by
 have hF:∀n,bI n (iI a b f)=_:=fun n=>mb a b n hf hab hb
 have h1:Act (rS e st ks) 1000 (de e R 1 a b ty d sw st ks) f non (iI a b f) non non:=by
  refine Act.fld (iI a b) (fun w g _ _=>by simp[de]) fun g hg he=>⟨lw _ _ hg,fun n=>?_,?_⟩
  ·rw[mb a b n hg hab ((he b).trans hb),hF,he a,he n]
  ·have:=pK wE a b hg hab ((he b).trans hb);rw[gW,gW];cases hq:bI a g<;>rw[hq] at this<;>simp only[wE] at this<;>omega
 refine⟨fun _ _=>rfl,fun _ _=>rfl,h1,h1,non,?_⟩;refine Act.fld (iI b a) (fun w g _ _=>by simp[de]) fun g hg he=>?_
 have ha:bI a g=none:=by rw[he a,hF];simp[hab.symm]
 refine⟨lw _ _ hg,fun n=>?_,?_⟩
 ·rw[mb b a n hg hab.symm ha,he b,he n,hF,hF];by_cases e1:a=n
  ·subst e1;simp
  ·by_cases e2:b=n
   ·subst e2;simp[e1,hb]
   ·simp[e1,e2]
 ·have:=pK wE b a hg hab.symm ha;rw[gW,gW];cases hq:bI b g<;>rw[hq] at this<;>simp only[wE] at this<;>omega
theorem Eb {sw:List (Int×Int)}{R R':List Str→Wlk→Flds→Option (Wlk×Flds)}(hn:cH f)(hf:bI a f=none)(hv:cD ty d=true)(la:a.length≤16)(ld:wD d≤257)(hl:st.length+ks.length≤100) :
  Way (rS e st ks) 1000 (de e R 2 a b ty d sw st ks) (de e R' 3 a b ty d sw st ks) f (ar a d f) (own e st ks d) non:=by
 have e1:de e R 2 a b ty d sw st ks=fun w g=>some (kN e st ks a ty d w g):=by funext w g;simp[de]
 have e2:de e R' 3 a b ty d sw st ks=fun w g=>some (iB e st ks a w g):=by funext w g;simp[de]
 rw[e1,e2];refine⟨fun _ h=>zw h,fun _ _=>rfl,ut hf la ld hl,n8 hf hv la ld ld hl,non,?_⟩;have hn2:=bV a d hn;refine(qg (f:=ar a d f) (x:=d) (by rw[bL,if_pos rfl]) hn2 ld hl).eqR fun n=>?_
 rw[dh _ _ hn2,bL];by_cases e1:a=n
 ·subst e1;simp[hf]
 ·simp[e1]
theorem Ec {sw:List (Int×Int)}{R R':List Str→Wlk→Flds→Option (Wlk×Flds)}(hn:cH f)(hf:bI a f=some x)(hv:cD ty x=true)(la:a.length≤16)(ld:wD d≤257)(lx:wD x≤257)(hl:st.length+ks.length≤100) :
  Way (rS e st ks) 1000 (de e R 3 a b ty d sw st ks) (de e R' 2 a b ty d sw st ks) f (dq a f) non (own e st ks x):=by
 have e1:de e R 3 a b ty d sw st ks=fun w g=>some (iB e st ks a w g):=by funext w g;simp[de]
 have e2:de e R' 2 a b ty d sw st ks=fun w g=>some (kN e st ks a ty d w g):=by funext w g;simp[de]
 rw[e1,e2];have h1:Act (rS e st ks) 1000 _ f non (dq a f) (own e st ks x) non:=qg hf hn lx hl;refine⟨fun _ _=>rfl,fun _ h=>zw h,h1,h1,own e st ks d,?_⟩;refine(n8 (f:=dq a f) (x:=x) (by rw[dh _ _ hn,if_pos rfl]) hv la ld lx hl).eqR fun n=>?_
 rw[bL,dh _ _ hn];by_cases e1:a=n
 ·subst e1;simp[hf]
 ·simp[e1]
end
section
variable {reg:Plc→Prop} {A:Plc→Option Doc} {a b:Str} {f:Flds} {x y:Doc}
def km (a b:Str)(w:Wlk)(g:Flds):Option (Wlk×Flds):=
 if okK (bv a g) then
  match bI b (ofD (bv a g)) with
  |some y=>some (w,ar a (ay (dq b (ofD (bv a g)))) (ar b y g))
  |none=>some (w,ar a (ay (ofD (bv a g))) g)
 else none
def jU (a b:Str)(w:Wlk)(g:Flds):Option (Wlk×Flds):=
 if okK (bv a g) then
  match bI b g with
  |some y=>some (w,ar a (ay (ar b y (ofD (bv a g)))) (dq b g))
  |none=>some (w,ar a (ay (ofD (bv a g))) g)
 else none
theorem xy {x:Doc}(h:ay (ofD x)=x):wD x=wF (ofD x)+1:=by have:=iF (ofD x);rw[h] at this;exact this
theorem wM {x:Doc}(h:ay (ofD x)=x):cR x=1+cF (ofD x):=by have:=nb (ofD x);rw[h] at this;exact this
theorem oL (f:Flds):okK (ay f)=true:=by unfold okK ay;simp[Doc.keys,Doc.kids]
theorem jf {f:Flds}(h:cH f):ay (ofD (ay f))=ay f:=kQ (dR _) h (ij h)
theorem tC (hx:bI a f=some x)(hk:okK x=true)(hd:ay (ofD x)=x)(hy:bI b (ofD x)=some y)(hb:bI b f=none)(hab:a≠b) :
  Act reg 0 (km a b) f A (ar a (ay (dq b (ofD x))) (ar b y f)) A non:=by
 refine Act.fld (fun g=>ar a (ay (dq b (ofD x))) (ar b y g)) (fun w g _ he=>?_) fun g hg he=>⟨bV _ _ (bV _ _ hg),jw (jw he _ _) _ _,?_⟩
 ·unfold km;rw[fG ((he a).trans hx),if_pos hk,hy]
 ·have k1:=eA wE (x:=y) ((he b).trans hb);have k2:=eB wE (x:=ay (dq b (ofD x))) (f:=ar b y g) (a:=a) (y:=x) (by rw[bL,if_neg hab.symm,he a,hx]);have k3:=iD wE hy;have k4:=xy hd;have k5:=iF (dq b (ofD x));simp only[gW,wE] at *
  omega
theorem qf (hx:bI a f=some x)(hk:okK x=true)(hd:ay (ofD x)=x)(hy:bI b (ofD x)=none)(hb:bI b f=some y)(hn:cH f)(hab:a≠b) :
  Act reg 0 (jU a b) f A (ar a (ay (ar b y (ofD x))) (dq b f)) A non:=by
 refine Act.fld (fun g=>ar a (ay (ar b y (ofD x))) (dq b g)) (fun w g _ he=>?_) fun g hg he=>⟨bV _ _ (gc _ hg),jw (zi he hg hn _) _ _,?_⟩
 ·unfold jU;rw[fG ((he a).trans hx),if_pos hk,(he b).trans hb]
 ·have k1:=iD wE ((he b).trans hb);have k2:=eB wE (x:=ay (ar b y (ofD x))) (f:=dq b g) (a:=a) (y:=x) (by rw[dh _ _ hg,if_neg hab.symm,he a,hx]);have k3:=eA wE (x:=y) hy;have k4:=xy hd;have k5:=iF (ar b y (ofD x));simp only[gW,wE] at *
  omega
theorem BI {C:Nat}(hn:cH f)(hx:bI a f=some x)(hk:okK x=true)(hd:ay (ofD x)=x)(hy:bI b (ofD x)=some y)(hb:bI b f=none)(hab:a≠b) :
  Way reg C (km a b) (jU a b) f (ar a (ay (dq b (ofD x))) (ar b y f)) non non:=by
 have h1:Act reg 0 (km a b) f non (ar a (ay (dq b (ofD x))) (ar b y f)) non non:=tC hx hk hd hy hb hab;refine Way.mono ⟨fun _ _=>rfl,fun _ _=>rfl,h1,h1,non,?_⟩ (Nat.zero_le _);have nd:=gc b (dR x);refine(qf (x:=ay (dq b (ofD x))) (y:=y) (by rw[bL,if_pos rfl]) (oL _) (jf nd) ?_ (by rw[bL,if_neg hab,bL,if_pos rfl]) (bV _ _ (bV _ _ hn)) hab).eqR fun n=>?_
 ·rw[ij nd b,dh _ _ (dR x),if_pos rfl]
 ·have e1:ay (ar b y (ofD (ay (dq b (ofD x)))))=x:=by
   refine(kQ (bV _ _ (dR _)) (dR x) fun m=>?_).trans hd;rw[bL,ij nd m,dh _ _ (dR x)];by_cases e:b=m
   ·subst e;simp[hy]
   ·simp[e]
  rw[e1,bL,dh _ _ (bV _ _ (bV _ _ hn)),bL,bL];by_cases e1:a=n
  ·subst e1;simp[hx]
  ·by_cases e2:b=n
   ·subst e2;simp[e1,hb]
   ·simp[e1,e2]
theorem zL {C:Nat}(hn:cH f)(hx:bI a f=some x)(hk:okK x=true)(hd:ay (ofD x)=x)(hy:bI b (ofD x)=none)(hb:bI b f=some y)(hab:a≠b) :
  Way reg C (jU a b) (km a b) f (ar a (ay (ar b y (ofD x))) (dq b f)) non non:=by
 have h1:Act reg 0 (jU a b) f non (ar a (ay (ar b y (ofD x))) (dq b f)) non non:=qf hx hk hd hy hb hn hab;refine Way.mono ⟨fun _ _=>rfl,fun _ _=>rfl,h1,h1,non,?_⟩ (Nat.zero_le _);have np:=bV b y (dR x);refine(tC (x:=ay (ar b y (ofD x))) (y:=y) (by rw[bL,if_pos rfl]) (oL _) (jf np) ?_ (by rw[bL,if_neg hab,dh _ _ hn,if_pos rfl]) hab).eqR fun n=>?_
 ·rw[ij np b,bL,if_pos rfl]
 ·have e1:ay (dq b (ofD (ay (ar b y (ofD x)))))=x:=by
   refine(kQ (gc _ (dR _)) (dR x) fun m=>?_).trans hd;rw[dh _ _ (dR _),ij np m,bL];by_cases e:b=m
   ·subst e;simp[hy]
   ·simp[e]
  rw[e1,bL,bL,bL,dh _ _ hn];by_cases e1:a=n
  ·subst e1;simp[hx]
  ·by_cases e2:b=n
   ·subst e2;simp[e1,hb]
   ·simp[e1,e2]
theorem zW {C:Nat}{run:Wlk→Flds→Option (Wlk×Flds)}(hx:bI a f=some x)(hr:∀w g,bI a g=some x→run w g=some (w,ar a y g))(hC:wD y≤wD x+C):Act reg C run f A (ar a y f) A non:=by
 refine Act.fld (ar a y) (fun w g _ he=>hr w g ((he a).trans hx)) fun g hg he=>⟨bV _ _ hg,jw he _ _,?_⟩
 have:=eB wE (x:=y) ((he a).trans hx);simp only[gW,wE] at *
 omega
theorem vz {C:Nat}{fw bw:Wlk→Flds→Option (Wlk×Flds)}(hx:bI a f=some x)(hf:∀w g,bI a g=some x→fw w g=some (w,ar a y g))(hb:∀w g,bI a g=some y→bw w g=some (w,ar a x g))(hC:wD y≤wD x+C)(hD:wD x≤wD y+C):Way reg C fw bw f (ar a y f) non non:=by
 have h1:Act reg C fw f non (ar a y f) non non:=zW hx hf hC;refine⟨fun _ _=>rfl,fun _ _=>rfl,h1,h1,non,(zW (x:=y) (by rw[bL,if_pos rfl]) hb hD).eqR fun n=>?_⟩;rw[bL,bL];by_cases e:a=n
 ·subst e;simp[hx]
 ·simp[e]
end
theorem pL (n:Int):∀l:List (Int×Int),fP n l=n∨fP n l∈cd l
 |[]=>.inl rfl
 |(a,b)::r=>by
  rw[fP,cd];split
  ·simp
  ·split
   ·simp
   ·rcases pL n r with h|h
    ·exact .inl h
    ·exact .inr (by simp[h])
theorem iY (n a b:Int)(r:List (Int×Int)):fP n ((a,b)::r)=if a=n then b else if b=n then a else fP n r:=rfl
theorem pu (n:Int):∀l:List (Int×Int),sq (cd l)=false→fP (fP n l) l=n
 |[],_=>rfl
 |(a,b)::r,h=>by
  rw[cd,sq,sq] at h;simp only[Bool.or_eq_false_iff,List.contains_eq_mem,List.mem_cons,decide_eq_false_iff_not,not_or] at h;obtain⟨⟨hab,har⟩,hbr,hr⟩:=h;by_cases e1:a=n
  ·rw[iY n,if_pos e1,iY,if_neg hab,if_pos rfl];exact e1
  ·by_cases e2:b=n
   ·rw[iY n,if_neg e1,if_pos e2,iY,if_pos rfl];exact e2
   ·have ih:=pu n r hr;have hm:a≠fP n r∧b≠fP n r:=by
     rcases pL n r with h|h
     ·rw[h];exact⟨e1,e2⟩
     ·exact⟨fun e=>har (by rw[e];exact h),fun e=>hbr (by rw[e];exact h)⟩
    rw[iY n,if_neg e1,if_neg e2,iY,if_neg hm.1,if_neg hm.2];exact ih
end Go.V
end
section
namespace Go.V
section
variable {reg reg':Plc→Prop} {C C':Nat} {fw bw:Wlk→Flds→Option (Wlk×Flds)} {f f':Flds} {A B:Plc→Option Doc}
theorem Way.wide (h:Way reg C fw bw f f' A B)(hr:∀p,reg p→reg' p):Way reg' C fw bw f f' A B:=
 ⟨fun p hp=>h.supA p fun hq=>hp (hr p hq),fun p hp=>h.supB p fun hq=>hp (hr p hq),
  h.first.wide hr fun p _ hq=>(h.supB p hq).symm,h.again.wide hr fun p _ hq=>(h.supA p hq).trans (h.supB p hq).symm,h.back.imp fun _ k=>k.wide hr fun p _ hq=>(h.supB p hq).trans (h.supA p hq).symm⟩
theorem Way.iff (h:Way reg C fw bw f f' A B)(hr:∀p,reg p↔reg' p):Way reg' C fw bw f f' A B:=h.wide fun p hp=>(hr p).1 hp
end
theorem qZ (h:Str→Doc→Nat){a:Str}{x:Doc}{f:Flds}(hx:bI a f=some x):h a x≤iX h f:=by have:=iD h hx;omega
def md (run:Wlk→Flds→Option (Wlk×Flds))(a:Str)(w:Wlk)(g:Flds):Option (Wlk×Flds):=
 if okK (bv a g) then
  match run w (ofD (bv a g)) with
  |some (w',f')=>some (w',ar a (ay f') g)
  |none=>none
 else none
section
variable {reg:Plc→Prop} {C:Nat} {run fw bw:Wlk→Flds→Option (Wlk×Flds)} {a:Str} {f f0 f1:Flds} {x:Doc} {A B N:Plc→Option Doc}
theorem nK (hx:bI a f=some x)(hk:okK x=true)(hd:ay (ofD x)=x)(h0:eqM (ofD x) f0)(h1:cH f1)(h:Act reg C run f0 A f1 B N):Act reg C (md run a) f A (ar a (ay f1) f) B N:=by
 intro w g g1 g2 g3 g4 g5;have hg:=(g2 a).trans hx;have k1:=xy hd;have k2:=qZ wE hg;simp only[wE] at k2;rw[←gW] at k2;obtain⟨w',g',q1,q2,q3,q4,q5,q6,q7,q8,q9⟩:=h w (ofD x) (dR x) h0 g3 g4 (by omega);have e1:ay g'=ay f1:=kQ q2 h1 q3;refine⟨w',ar a (ay f1) g,?_,bV _ _ g1,jw g2 _ _,q4,q5,q6,q7,?_,q9⟩
 ·unfold md;rw[fG hg,if_pos hk,q1];simp only[e1]
 ·have k3:=eB wE (x:=ay f1) hg;have k4:=iF g';rw[e1] at k4;simp only[gW,wE] at *
  omega
theorem zK (hn:cH f)(hx:bI a f=some x)(hk:okK x=true)(hd:ay (ofD x)=x)(h1:cH f1)(h:Way reg C fw bw (ofD x) f1 A B):Way reg C (md fw a) (md bw a) f (ar a (ay f1) f) A B:=by
 obtain⟨N,hb⟩:=h.back;refine⟨h.supA,h.supB,nK hx hk hd (eqM.refl _) h1 h.first,nK hx hk hd (eqM.refl _) h1 h.again,N,?_⟩;refine(nK (f:=ar a (ay f1) f) (x:=ay f1) (by rw[bL,if_pos rfl]) (oL _) (jf h1) (ij h1) (dR x) hb).eqR fun n=>?_
 rw[hd,bL,bL];by_cases e:a=n
 ·subst e;simp[hx]
 ·simp[e]
end
def ActD {σ:Type}(wt:σ→Nat)(reg:Plc→Prop)(C:Nat)(run:σ→Wlk→Option (Wlk×σ))(x:σ)(A:Plc→Option Doc)(x':σ)(B N:Plc→Option Doc):Prop:=
 ∀w,srt w.res→(∀p,reg p→pd p w.res=A p)→wW w+wt x+C<lim→
  ∃w',run x w=some (w',x')∧srt w'.res∧(∀p,reg p→pd p w'.res=B p)∧(∀p,¬reg p→pd p w'.res=pd p w.res)∧w'.err=w.err∧wW w'+wt x'≤wW w+wt x+C∧nd N w w'
theorem ActD.ab {σ:Type}{wt:σ→Nat}{reg:Plc→Prop}{C:Nat}{run:σ→Wlk→Option (Wlk×σ)}{x x':σ}{A A' B B' N:Plc→Option Doc}(h:ActD wt reg C run x A x' B N)(hA:∀p,reg p→A p=A' p)(hB:∀p,reg p→B p=B' p):ActD wt reg C run x A' x' B' N:=by intro w h1 h2 h3;obtain⟨w',k1,k2,k3,k4⟩:=h w h1 (fun p hp=>(h2 p hp).trans (hA p hp).symm) h3;exact⟨w',k1,k2,fun p hp=>(k3 p hp).trans (hB p hp),k4⟩
theorem ActD.iff {σ:Type}{wt:σ→Nat}{reg reg':Plc→Prop}{C:Nat}{run:σ→Wlk→Option (Wlk×σ)}{x x':σ}{A B N:Plc→Option Doc}(h:ActD wt reg C run x A x' B N)(hr:∀p,reg p↔reg' p):ActD wt reg' C run x A x' B N:=by intro w h1 h2 h3;obtain⟨w',k1,k2,k3,k4,k5,k6⟩:=h w h1 (fun p hp=>h2 p ((hr p).1 hp)) h3;exact⟨w',k1,k2,fun p hp=>k3 p ((hr p).2 hp),fun p hp=>k4 p fun hq=>hp ((hr p).1 hq),k5,k6⟩
def Ao (run:Wlk→Flds→Option (Wlk×Flds))(y:Doc)(w:Wlk):Option (Wlk×Doc):=
 if okK y then (match run w (ofD y) with
  |some (w',f')=>some (w',ay f')
  |none=>none) else none
theorem uu {reg:Plc→Prop}{C:Nat}{run:Wlk→Flds→Option (Wlk×Flds)}{y:Doc}{f0 f1:Flds}{A B N:Plc→Option Doc}(hk:okK y=true)(hd:ay (ofD y)=y)(h0:eqM (ofD y) f0)(h1:cH f1)(h:Act reg C run f0 A f1 B N):ActD wD reg C (Ao run) y A (ay f1) B N:=by
 intro w g3 g4 g5;have k1:=xy hd;obtain⟨w',g',q1,q2,q3,q4,q5,q6,q7,q8,q9⟩:=h w (ofD y) (dR y) h0 g3 g4 (by omega);have e1:ay g'=ay f1:=kQ q2 h1 q3;refine⟨w',?_,q4,q5,q6,q7,?_,q9⟩
 ·unfold Ao;rw[if_pos hk,q1];simp only[e1]
 ·have k4:=iF g';rw[e1] at k4;omega
theorem qd {reg1 reg2:Plc→Prop}{C1 C2:Nat}{R:Str→Doc→Wlk→Option (Wlk×Doc)}{s:Str}{ks:List Str}{y y':Doc}{ds ds':List Doc}{A B N N':Plc→Option Doc}
  (h:ActD wD reg1 C1 (R s) y A y' B N) (k:ActD wDs reg2 C2 (fun ds w=>gv R ks ds w) ds A ds' B N') (hd:∀p,reg1 p→reg2 p→False) :
  ActD wDs (fun p=>reg1 p∨reg2 p) (C1+C2) (fun ds w=>gv R (s::ks) ds w) (y::ds) A (y'::ds') B (orP N' N):=by
 intro w h1 h2 h3;simp only[wDs] at h3 ⊢;obtain⟨w',k1,k2,k3,k4,k5,k6,k7⟩:=h w h1 (fun p hp=>h2 p (.inl hp)) (by omega);obtain⟨w2,l1,l2,l3,l4,l5,l6,l7⟩:=k w' k2 (fun p hp=>by rw[k4 p (fun hq=>hd p hq hp)];exact h2 p (.inr hp)) (by omega);refine⟨w2,?_,l2,?_,?_,l5.trans k5,by omega,k7.trans l7⟩
 ·simp only at l1 ⊢;rw[gv,k1];simp only[l1]
 ·rintro p (hp|hp)
  ·rw[l4 p (fun hq=>hd p hp hq)];exact k3 p hp
  ·exact l3 p hp
 ·intro p hp;rw[l4 p (fun hq=>hp (.inr hq)),k4 p (fun hq=>hp (.inl hq))]
structure WayE (reg:Plc→Prop)(C:Nat)(fw bw:List Doc→Wlk→Option (Wlk×List Doc))(ds ds':List Doc)(A B:Plc→Option Doc):Prop where
 supA:∀p,¬reg p→A p=none
 supB:∀p,¬reg p→B p=none
 first:ActD wDs reg C fw ds non ds' B A
 again:ActD wDs reg C fw ds A ds' B A
 back:∃N,ActD wDs reg C bw ds' B ds A N
def nh (n m:Nat):Nat:=1000*(n*(1+m))
def om (bk:Bool)(l:List Lns):List Lns:=if bk then ba l else l
def Ia (bk:Bool)(s:Lns):Lns:=if bk then turnN s else s
def mT (l:List Lns):Prop:=∀(bk:Bool)(e:Int)(st:List Int)(ks:List Str)(k:Nat)(r u:Ty)(f:Flds),gd r→bO (om bk l) r 0=.ok u→Tf r.fields f→st.length+ks.length+2*ak l≤100→
 ∃f' A B,gd u∧Tf u.fields f'∧cF f'=cF f∧Way (rL e st ks k) (nh (bQ l) (cF f)) (eb e bk l k st ks) (eb e (!bk) l k st ks) f f' A B
def zU (s:Lns):Prop:=∀(bk:Bool)(e:Int)(st:List Int)(ks:List Str)(r r':Ty)(f:Flds),gd r→gd r'→Did (Ia bk s) r r'→Tf r.fields f→st.length+ks.length+2*kf s≤99→
 ∃f' A B,Tf r'.fields f'∧cF f'=cF f∧Way (rS e st ks) (w5 (oW s) (cF f)) (lP e bk s st ks) (lP e (!bk) s st ks) f f' A B
theorem wg {l:List Lns}(H:mT l)(bk:Bool)(e:Int)(st:List Int)(ks:List Str){t u:Ty}(ht:gd t)(hl:bO (om bk l) t 0=.ok u)(hb:st.length+(ks.length+1)+2*ak l≤100) :
  ∀(keys:List Str) (ds:List Doc),keys.length=ds.length→keys.Nodup→(∀y∈ds,rightD y=true∧okT t y=true)→
   ∃ds' A B,ds'.length=ds.length∧(∀y∈ds',rightD y=true∧okT u y=true)∧cRs ds'=cRs ds∧
    WayE (fun p=>∃s∈keys,rS e st (ks++[s]) p) (1000*(bQ l*cRs ds)) (fun ds w=>gv (fun s y w=>Ao (eb e bk l 0 st (ks++[s])) y w) keys ds w) (fun ds w=>gv (fun s y w=>Ao (eb e (!bk) l 0 st (ks++[s])) y w) keys ds w) ds ds' A B
 |[],[],_,_,_=>by
  have key:∀R:Str→Doc→Wlk→Option (Wlk×Doc),ActD wDs (fun p=>∃s∈([]:List Str),rS e st (ks++[s]) p) (1000*(bQ l*cRs [])) (fun ds w=>gv R [] ds w) [] non [] non non:=fun R w h1 h2 h3=>⟨w,rfl,h1,h2,fun _ _=>rfl,rfl,by omega,vW w⟩
  exact⟨[],non,non,rfl,by simp,rfl,fun _ _=>rfl,fun _ _=>rfl,key _,key _,_,key _⟩
 |s::keys,y::ds,hlen,hnd,hy=>by
  rw[List.nodup_cons] at hnd;obtain⟨ds',A2,B2,i1,i2,i3,i4⟩:=wg H bk e st ks ht hl hb keys ds (by simpa using hlen) hnd.2 fun y' hy'=>hy y' (by simp[hy'])
  obtain⟨y1,y2⟩:=hy y (by simp);obtain⟨r1,r2,r3⟩:=pH y1 ht.kind y2;obtain⟨f1,A1,B1,j1,j2,j3,j4⟩:=H bk e st (ks++[s]) 0 t u (ofD y) ht hl r1 (by simp;omega);have j5:=j4.wide (reg':=rS e st (ks++[s])) fun p hp=>CM hp
  have hc:=wM r2;have hd:∀p,rS e st (ks++[s]) p→(∃s'∈keys,rS e st (ks++[s']) p)→False:=(by rintro p h1 ⟨s',h2,h3⟩;have:=Am h1 h3;subst this;exact hnd.1 h2);have out:=yd j1 j2;have hreg:∀p,(rS e st (ks++[s]) p∨∃s'∈keys,rS e st (ks++[s']) p)↔∃s'∈s::keys,rS e st (ks++[s']) p:=fun p=>by simp
  have hcost:nh (bQ l) (cF (ofD y))+1000*(bQ l*cRs ds)=1000*(bQ l*cRs (y::ds)):=(by unfold nh;rw[cRs,hc,Nat.mul_add (bQ l) (1+cF (ofD y)) (cRs ds),Nat.mul_add 1000]);have aF:=uu r3 r2 (eqM.refl _) j2.nod j5.first;have aA:=uu r3 r2 (eqM.refl _) j2.nod j5.again;obtain⟨N1,j5b⟩:=j5.back;obtain⟨N2,i4b⟩:=i4.back;have aB:=uu (oL f1) (jf j2.nod) (ij j2.nod) (dR y) j5b;rw[r2] at aB;have bA:∀p,rS e st (ks++[s]) p→A1 p=orP A2 A1 p:=fun p hp=>by unfold orP;rw[i4.supA p fun hq=>hd p hp hq];rfl
  have bB:∀p,rS e st (ks++[s]) p→B1 p=orP B2 B1 p:=fun p hp=>by unfold orP;rw[i4.supB p fun hq=>hd p hp hq];rfl
  have cA:∀p,(∃s'∈keys,rS e st (ks++[s']) p)→A2 p=orP A2 A1 p:=fun p hp=>by unfold orP;rw[j5.supA p fun hq=>hd p hq hp];cases A2 p<;>rfl
  have cB:∀p,(∃s'∈keys,rS e st (ks++[s']) p)→B2 p=orP B2 B1 p:=fun p hp=>by unfold orP;rw[j5.supB p fun hq=>hd p hq hp];cases B2 p<;>rfl
  refine⟨ay f1::ds',orP A2 A1,orP B2 B1,by simp[i1],?_,?_,⟨fun p hp=>?_,fun p hp=>?_,?_,?_,⟨orP N2 N1,?_⟩⟩⟩
  ·intro z hz;rcases List.mem_cons.1 hz with rfl|hz
   ·exact⟨out.2,out.1⟩
   ·exact i2 z hz
  ·rw[cRs,cRs,i3,nb,j3,←hc]
  ·have hp':=fun h=>hp ((hreg p).1 h)
   unfold orP;rw[j5.supA p fun hq=>hp' (.inl hq),i4.supA p fun hq=>hp' (.inr hq)];rfl
  ·have hp':=fun h=>hp ((hreg p).1 h)
   unfold orP;rw[j5.supB p fun hq=>hp' (.inl hq),i4.supB p fun hq=>hp' (.inr hq)];rfl
  ·rw[←hcost];exact(qd (aF.ab (fun _ _=>rfl) bB) (i4.first.ab (fun _ _=>rfl) cB) hd).iff hreg
  ·rw[←hcost];exact(qd (aA.ab bA bB) (i4.again.ab cA cB) hd).iff hreg
  ·rw[←hcost];exact(qd (aB.ab bB bA) (i4b.ab cB cA) hd).iff hreg
def te (R:Str→Doc→Wlk→Option (Wlk×Doc))(a:Str)(w:Wlk)(g:Flds):Option (Wlk×Flds):=
 match gv R (bv a g).keys (bv a g).kids w with
 |some (w',l)=>some (w',ar a (.mk (bv a g).kind (bv a g).num (bv a g).str (bv a g).keys l) g)
 |none=>none
theorem qe {reg:Plc→Prop}{C:Nat}{R:Str→Doc→Wlk→Option (Wlk×Doc)}{a:Str}{f:Flds}{k n:Int}{s:Str}{keys:List Str}{ds ds':List Doc}{A B N:Plc→Option Doc}(hx:bI a f=some (.mk k n s keys ds))
  (h:ActD wDs reg C (fun ds w=>gv R keys ds w) ds A ds' B N):Act reg C (te R a) f A (ar a (.mk k n s keys ds') f) B N:=by
 intro w g g1 g2 g3 g4 g5;have hg:=(g2 a).trans hx;have k2:=qZ wE hg;simp only[wE,wD] at k2;rw[←gW] at k2;obtain⟨w',q1,q4,q5,q6,q7,q8,q9⟩:=h w g3 g4 (by omega);refine⟨w',ar a (.mk k n s keys ds') g,?_,bV _ _ g1,jw g2 _ _,q4,q5,q6,q7,?_,q9⟩
 ·unfold te;rw[fG hg];simp only[Doc.keys,Doc.kids,Doc.kind,Doc.num,Doc.str] at q1 ⊢;rw[q1]
 ·have k3:=eB wE (x:=.mk k n s keys ds') hg;simp only[gW,wE,wD] at *
  omega
theorem DD {reg:Plc→Prop}{C:Nat}{R R':Str→Doc→Wlk→Option (Wlk×Doc)}{a:Str}{f:Flds}{k n:Int}{s:Str}{keys:List Str}{ds ds':List Doc}{A B:Plc→Option Doc}(hx:bI a f=some (.mk k n s keys ds))
  (h:WayE reg C (fun ds w=>gv R keys ds w) (fun ds w=>gv R' keys ds w) ds ds' A B):Way reg C (te R a) (te R' a) f (ar a (.mk k n s keys ds') f) A B:=by
 obtain⟨N,hb⟩:=h.back;refine⟨h.supA,h.supB,qe hx h.first,qe hx h.again,N,(qe (f:=ar a (.mk k n s keys ds') f) (ds:=ds') (by rw[bL,if_pos rfl]) hb).eqR fun m=>?_⟩;rw[bL,bL];by_cases e:a=m
 ·subst e;simp[hx]
 ·simp[e]
end Go.V
end
section
namespace Go.V
theorem Tf.turn {fs fs':List Fld}{f f':Flds}(h:Tf fs f)(hn:cH f')(hg:∀n,(bI n f'=bI n f∧aj n fs'=aj n fs)∨(okA (aj n fs') (bI n f')∧∀x,bI n f'=some x→rightD x=true)):Tf fs' f':=
 ⟨hn,fun n=>by
  rcases hg n with ⟨h1,h2⟩|⟨h1,_⟩
  ·rw[h1,h2];exact h.ok n
  ·exact h1,fun n x hx=>by
  rcases hg n with ⟨h1,h2⟩|⟨_,h1⟩
  ·exact h.rd n x (by rw[←h1];exact hx)
  ·exact h1 x hx⟩
theorem qh {a:Str}{x y:Doc}{f:Flds}(hx:bI a f=some x)(h:cR y=cR x):cF (ar a y f)=cF f:=by
 have:=eB cE (x:=y) hx;unfold cF;simp only[cE] at *
 omega
theorem Tf.one {r:List Fld}{a:Str}{t:Ty}{y:Doc}{f:Flds}(h:Tf r f)(hy:okT t y=true)(hr:rightD y=true):Tf (gE a t r) (ar a y f):=by
 refine h.turn (bV _ _ h.nod) fun n=>?_
 rw[bL,bx];by_cases e:a=n
 ·simp only[e,if_true];exact .inr ⟨hy,fun x hx=>by cases hx;exact hr⟩
 ·simp[e]
theorem rq {t:Ty}{d:Doc}(h:eQ t d=0):bq t=true∧eG t=true∧cD t d=true:=by
 unfold eQ at h;split at h
 ·cases h
 ·rename_i h1;split at h
  ·cases h
  ·rename_i h2;simp only[not_or,Bool.not_eq_false] at h1 h2;exact⟨h1.1,h1.2,h2⟩
theorem fZ (t:Ty)(d:Doc):cD t d=true↔bq t=true∧dS d=true∧okT t d=true:=by unfold cD;simp[and_assoc]
theorem Ce (e:Int)(R:List Str→Wlk→Flds→Option (Wlk×Flds))(a b:Str)(ty:Ty)(d:Doc)(sw:List (Int×Int))(st:List Int)(ks:List Str):de e R 9 a b ty d sw st ks=md (R ks) a:=by funext w g;simp[de,md]<;>rfl
theorem AM (e:Int)(R:List Str→Wlk→Flds→Option (Wlk×Flds))(a b:Str)(ty:Ty)(d:Doc)(sw:List (Int×Int))(st:List Int)(ks:List Str):de e R 10 a b ty d sw st ks=te (fun s y w=>Ao (R (ks++[s])) y w) a:=by funext w g;simp[de,te,Ao]<;>rfl
theorem xi {l:List Lns}(H:mT l)(bk:Bool)(k:Int)(a b:Str)(ty:Ty)(d:Doc)(sw:List (Int×Int))(subs:List Lns)(hsub:k=9∨k=10→subs=om bk l)(e:Int)(st:List Int)(ks:List Str)(r r':Ty)(f:Flds)(hr:gd r)(hr':gd r')(hd:Did (.mk k a b ty d sw subs) r r')(hf:Tf r.fields f)(hb:st.length+ks.length+2*ak l≤99) :
  ∃f' A B,Tf r'.fields f'∧cF f'=cF f∧Way (rS e st ks) (w5 (bQ l) (cF f)) (de e (eb e bk l 0 st) k a b ty d sw st ks) (de e (eb e (!bk) l 0 st) (dC k) (if k=1 then b else a) (if k=1 then a else b) ty d sw st ks) f f' A B:=by
 cases hd with
 |ren f0 hk hf0 hn hb0=>
  simp only[Lns.kind,Lns.a,Lns.b] at *
  subst hk;rw[show dC 1=1 from rfl,if_pos rfl,if_pos rfl];have hab:a≠b:=fun e=>by rw[←e,hf0] at hb0;cases hb0
  have hgb:=hf.miss hb0;have hd:aj (Fld.mk b f0.opt f0.ty).name (br a r.fields)=none:=(by rw[be];simp[Fld.name,hb0]);refine⟨iI a b f,non,non,hf.turn (lw _ _ hf.nod) fun n=>?_,?_,(Ed hf.nod hab hgb (kZ (hr.fld hf0).2.1) (kZ hn)).mono (mZ _ _)⟩
  ·rw[mb a b n hf.nod hab hgb,am,dZ _ _ _ hd,be];simp only[Fld.name];by_cases e1:b=n
   ·subst e1;simp only[if_true];have h1:=hf.ok a;rw[hf0] at h1;refine .inr ⟨?_,fun x hx=>hf.rd a x hx⟩;cases h2:bI a f with
    |none=>rw[h2] at h1;exact h1
    |some x=>rw[h2] at h1;exact h1
   ·by_cases e2:a=n
    ·subst e2;simp only[e1,if_false,if_true];exact .inr ⟨trivial,fun x hx=>by cases hx⟩
    ·simp[e1,e2]
  ·have:=pK cE a b hf.nod hab hgb;unfold cF;cases h2:bI a f<;>rw[h2] at this<;>simp only[cE] at this<;>omega
 |add hk hn ha he=>
  simp only[Lns.kind,Lns.a,Lns.b,Lns.ty,Lns.doc] at *
  subst hk;rw[show dC 2=3 from rfl,if_neg (by decide),if_neg (by decide)];obtain⟨q1,q2,q3⟩:=rq he;obtain⟨_,q4,q5⟩:=(fZ _ _).1 q3;have q6:=((eV _).1 q4).2.2;obtain⟨q7,q8,_⟩:=iC q2 q5 q6;have hga:=hf.miss ha;refine⟨ar a d f,own e st ks d,non,hf.turn (bV _ _ hf.nod) fun n=>?_,?_,(Eb hf.nod hga q3 (kZ hn) q7 (by omega)).mono (mZ _ _)⟩
  ·rw[bL,am,dZ _ (.mk a false ty) _ ha];simp only[Fld.name];by_cases e1:a=n
   ·simp only[e1,if_true];exact .inr ⟨q5,fun x hx=>by cases hx;exact q6⟩
   ·simp[e1]
  ·have:=eA cE (x:=d) hga;unfold cF;simp only[cE] at this;omega
 |rem f0 hk hf0 ho ht he=>
  simp only[Lns.kind,Lns.a,Lns.b,Lns.ty,Lns.doc] at *
  subst hk;rw[show dC 3=2 from rfl,if_neg (by decide),if_neg (by decide)];obtain⟨q1,q2,q3⟩:=rq he;obtain⟨_,q4,q5⟩:=(fZ _ _).1 q3;have q6:=((eV _).1 q4).2.2;obtain⟨q7,_,_⟩:=iC q2 q5 q6;obtain⟨x,hx,hx2,hx3⟩:=hf.has hf0 ho;rw[ht] at hx2;obtain⟨p1,p2,p3⟩:=iC q2 hx2 hx3;refine⟨dq a f,non,own e st ks x,hf.turn (gc _ hf.nod) fun n=>?_,?_,(Ec hf.nod hx ((fZ _ _).2 ⟨q1,p3,hx2⟩) (kZ (hr.fld hf0).2.1) q7 p1 (by omega)).mono (mZ _ _)⟩
  ·rw[dh _ _ hf.nod,am,be];by_cases e1:a=n
   ·simp only[e1,if_true];exact .inr ⟨trivial,fun x hx=>by cases hx⟩
   ·simp[e1]
  ·have:=iD cE hx;unfold cF;simp only[cE] at this;omega
 |hoist f0 g0 hk hf0 ho ht hg0 hgo hb0=>
  simp only[Lns.kind,Lns.a,Lns.b] at *
  subst hk;rw[show dC 4=5 from rfl,if_neg (by decide),if_neg (by decide)];have hab:a≠b:=fun e=>by rw[←e,hf0] at hb0;cases hb0
  have hfa:=hr.fld hf0;have gdf:gd f0.ty:=⟨hfa.2.2,ht⟩;have hgb:=gdf.fld hg0;obtain⟨x,hx,hx2,hx3⟩:=hf.has hf0 ho;obtain⟨r1,r2,r3⟩:=pH hx3 ht hx2;obtain⟨y,hy,hy2,hy3⟩:=r1.has hg0 hgo;have hgb':=hf.miss hb0;have e1:de e (eb e bk l 0 st) 4 a b ty d sw st ks=km a b:=(by funext w g;simp[de,km]);have e2:de e (eb e (!bk) l 0 st) 5 a b ty d sw st ks=jU a b:=(by funext w g;simp[de,jU]);have hX:Tf (br b f0.ty.fields) (dq b (ofD x)):=r1.turn (gc _ r1.nod) fun n=>by
   rw[dh _ _ r1.nod,be];by_cases e1:b=n
   ·simp only[e1,if_true];exact .inr ⟨trivial,fun x hx=>by cases hx⟩
   ·simp[e1]
  have hXo:=vb (fv b gdf.parts.2.1) (fun g hg=>(gdf.parts.2.2 g (xM hg)).1) hX;have hsf:aj g0.name (gE a (d8 (br b f0.ty.fields)) r.fields)=none:=(by rw[bx,hgb.1,if_neg hab,hb0]);rw[e1,e2];refine⟨_,non,non,hf.turn (bV _ _ (bV _ _ hf.nod)) fun n=>?_,?_,BI hf.nod hx r3 r2 hy hgb' hab⟩
  ·rw[bL,bL,am,dZ _ _ _ hsf,bx,hgb.1];by_cases e1:a=n
   ·subst e1;simp only[hab.symm,if_false,if_true];exact .inr ⟨hXo.1,fun x hx=>by cases hx;exact hXo.2⟩
   ·by_cases e2:b=n
    ·subst e2;simp only[hab,if_false,if_true];exact .inr ⟨hy2,fun x hx=>by cases hx;exact hy3⟩
    ·simp[e1,e2]
  ·have k1:=eA cE (x:=y) hgb';have k2:=eB cE (x:=ay (dq b (ofD x))) (f:=ar b y f) (a:=a) (y:=x) (by rw[bL,if_neg hab.symm,hx]);have k3:=iD cE hy;have k4:=wM r2;have k5:=nb (dq b (ofD x));unfold cF at *
   simp only[cE] at *
   omega
 |plunge f0 g0 hk hf0 ho hg0 hgo ht hab hb0=>
  simp only[Lns.kind,Lns.a,Lns.b] at *
  subst hk;rw[show dC 5=4 from rfl,if_neg (by decide),if_neg (by decide)];have hfa:=hr.fld hf0;have hga:=hr.fld hg0;have gdf:gd f0.ty:=⟨hfa.2.2,ht⟩;obtain⟨x,hx,hx2,hx3⟩:=hf.has hf0 ho;obtain⟨y,hy,hy2,hy3⟩:=hf.has hg0 hgo;obtain⟨r1,r2,r3⟩:=pH hx3 ht hx2;have hxb:=r1.miss hb0;have e1:de e (eb e bk l 0 st) 5 a b ty d sw st ks=jU a b:=(by funext w g;simp[de,jU]);have e2:de e (eb e (!bk) l 0 st) 4 a b ty d sw st ks=km a b:=(by funext w g;simp[de,km]);have hgn:aj g0.name f0.ty.fields=none:=(by rw[hga.1];exact hb0);have hX:Tf (dz g0 f0.ty.fields) (ar b y (ofD x)):=r1.turn (bV _ _ r1.nod) fun n=>by
   rw[bL,dZ _ _ _ hgn,hga.1];by_cases e1:b=n
   ·simp only[e1,if_true];exact .inr ⟨hy2,fun x hx=>by cases hx;exact hy3⟩
   ·simp[e1]
  have hXo:=vb (fx gdf.parts.2.1 hgn) (fun g hg=>by
   rcases rW.1 hg with rfl|hg
   ·rw[hga.1];exact hga.2.1
   ·exact(gdf.parts.2.2 g hg).1) hX
  rw[e1,e2];refine⟨_,non,non,hf.turn (bV _ _ (gc _ hf.nod)) fun n=>?_,?_,zL hf.nod hx r3 r2 hxb hy hab⟩
  ·rw[bL,dh _ _ hf.nod,am,be,bx];by_cases e1:a=n
   ·subst e1;simp only[hab.symm,if_false,if_true];exact .inr ⟨hXo.1,fun x hx=>by cases hx;exact hXo.2⟩
   ·by_cases e2:b=n
    ·subst e2;simp only[hab,if_false,if_true];exact .inr ⟨trivial,fun x hx=>by cases hx⟩
    ·simp[e1,e2]
  ·have k1:=iD cE hy;have k2:=eB cE (x:=ay (ar b y (ofD x))) (f:=dq b f) (a:=a) (y:=x) (by rw[dh _ _ hf.nod,if_neg hab.symm,hx]);have k3:=eA cE (x:=y) hxb;have k4:=wM r2;have k5:=nb (ar b y (ofD x));unfold cF at *
   simp only[cE] at *
   omega
 |wrap f0 hk hf0 ho hs=>
  simp only[Lns.kind,Lns.a] at *
  subst hk;rw[show dC 6=7 from rfl,if_neg (by decide),if_neg (by decide)];obtain⟨x,hx,hx2,hx3⟩:=hf.has hf0 ho;obtain⟨p1,p2,p3⟩:=iC hs hx2 hx3;refine⟨ar a (.mk 3 0 [] [] [x]) f,non,non,hf.one ?_ ?_,qh hx ?_,?_⟩
  ·simp[okT,sv,d7,Ty.kind,Ty.lo,Ty.hi,Doc.kind,Doc.kids,hx2]
  ·simp[rightD,lD,fH,fi,Doc.kind,Doc.num,Doc.str,Doc.keys,hx3]
  ·simp[cR,cRs]
  ·refine(vz (C:=1000) hx (fun w g hg=>?_) (fun w g hg=>?_) ?_ ?_).mono (mZ _ _)
   ·simp[de,fG hg]
   ·simp[de,fG hg,Doc.kids]
   ·simp[wD,cw,wDs]<;>omega
   ·simp[wD,cw,wDs]<;>omega
 |head f0 t ns fs ts hk hf0 ho ht hs=>
  simp only[Lns.kind,Lns.a] at *
  subst hk;rw[show dC 7=6 from rfl,if_neg (by decide),if_neg (by decide)];obtain⟨x,hx,hx2,hx3⟩:=hf.has hf0 ho;have hfa:=hr.fld hf0;obtain⟨v,hv,_⟩:=im hfa.2.2 (by rw[ht];exact .inr rfl);rw[ht] at hx2;have hfit:=hx2;rw[kz,Bool.and_eq_true,decide_eq_true_eq] at hfit;obtain⟨h1,h2⟩:=hfit;have hxk:x.kind=3:=(by have:=j6 h1;simpa[Ty.kind] using this.symm);simp only[d7,Ty.kind,Ty.lo,Ty.hi,hxk] at h1;simp[Ty.kind,Ty.of,sv] at h1 h2;have hp:=((d9 x).1 hx3);obtain⟨k0,n0,s0,ks0,ds0⟩:=x;simp only[Doc.kind,Doc.kids] at hxk h1 h2 hp;subst hxk;simp[fH,Doc.kind,Doc.num,Doc.str,Doc.keys] at hp;obtain⟨⟨⟨e1,e2⟩,e3⟩,_,hp3⟩:=hp;replace e1:=of_decide_eq_true e1;subst e1;first|(replace e2:=of_decide_eq_true e2;subst e2)|subst e2|skip
  first|(replace e3:=of_decide_eq_true e3;subst e3)|subst e3|skip
  have hlen:ds0.length=1:=by omega
  match ds0,hlen with
  |[y],_=>
  have hy:okT t y=true:=h2 y (by simp);have hyr:rightD y=true:=hp3 y (by simp);obtain⟨p1,p2,p3⟩:=iC hs hy hyr;refine⟨ar a y f,non,non,hf.one hy hyr,qh hx (by simp[cR,cRs]),?_⟩;refine(vz (C:=1000) hx (fun w g hg=>?_) (fun w g hg=>?_) ?_ ?_).mono (mZ _ _)
  ·simp[de,fG hg,Doc.kids]
  ·simp[de,fG hg]
  ·simp[wD,cw,wDs]<;>omega
  ·simp[wD,cw,wDs]<;>omega
 |conv f0 hk hf0 ho ht hs=>
  simp only[Lns.kind,Lns.a,Lns.swaps] at *
  subst hk;rw[show dC 8=8 from rfl,if_neg (by decide),if_neg (by decide)];obtain⟨x,hx,hx2,hx3⟩:=hf.has hf0 ho;have hfit:=hx2;rw[kz,Bool.and_eq_true,decide_eq_true_eq] at hfit;obtain⟨h1,_⟩:=hfit;have hxk:x.kind=4:=(by have:=j6 h1;rw[if_neg (by omega)] at this;omega);have hp:=((d9 x).1 hx3).1;obtain⟨k0,n0,s0,ks0,ds0⟩:=x;simp only[Doc.kind] at hxk;subst hxk;obtain⟨z1,z2,_,z3⟩:=lB (.inl rfl) hp;have hp':ks0=[]∧ds0=[]∧s0=[]:=⟨z1,z2,z3 rfl⟩;obtain⟨rfl,rfl,rfl⟩:=hp';unfold jq at hs;split at hs
  ·cases hs
  rename_i hdup;split at hs
  ·cases hs
  split at hs
  ·cases hs
  rename_i hany;simp only[Bool.not_eq_true] at hdup;have hrange:∀n∈cd sw,f0.ty.lo≤n∧n≤f0.ty.hi:=(by intro n hn;simp only[Bool.not_eq_true,List.any_eq_false,Bool.or_eq_true,decide_eq_true_eq] at hany;have:=hany n hn;omega);have hfit2:∀n:Int,d7 f0.ty (.mk 4 n [] [] [])=if n<f0.ty.lo∨f0.ty.hi<n then 8 else 0:=fun n=>by unfold d7;simp[ht,Doc.kind,Doc.num];rfl
  have hn0:f0.ty.lo≤n0∧n0≤f0.ty.hi:=by
   rw[hfit2] at h1;split at h1
   ·cases h1
   ·omega
  have hok:okT f0.ty (.mk 4 (fP n0 sw) [] [] [])=true:=by
   rw[kz,hfit2];have:f0.ty.lo≤fP n0 sw∧fP n0 sw≤f0.ty.hi:=by
    rcases pL n0 sw with h|h
    ·rw[h];exact hn0
    ·exact hrange _ h
   rw[if_neg (by omega),if_neg (by omega),if_neg (by omega)];rfl
  have hsame:∀n,aj n (gE a f0.ty r.fields)=aj n r.fields:=fun n=>by
   rw[bx];by_cases e:a=n
   ·subst e;rw[if_pos rfl,hf0,Fld.eta f0,(hr.fld hf0).1,ho];rfl
   ·rw[if_neg e]
  have htf:=hf.one (a:=a) hok (by simp[rightD,lD,fH,fi,Doc.kind,Doc.num,Doc.str,Doc.keys,Doc.kids]);refine⟨ar a (.mk 4 (fP n0 sw) [] [] []) f,non,non,⟨htf.nod,fun n=>by rw[←hsame n];exact htf.ok n,htf.rd⟩,qh hx (by simp[cR,cRs]),?_⟩;refine(vz (C:=1000) hx (fun w g hg=>?_) (fun w g hg=>?_) ?_ ?_).mono (mZ _ _)
  ·simp[de,fG hg,Doc.num]
  ·simp[de,fG hg,Doc.num,pu n0 sw hdup]
  ·simp[wD,cw,wDs]
  ·simp[wD,cw,wDs]
 |ins f0 t hk hf0 ho ht hs=>
  simp only[Lns.kind,Lns.a,Lns.subs] at *
  subst hk;rw[show dC 9=9 from rfl,if_neg (by decide),if_neg (by decide)];rw[hsub (.inl rfl)] at hs;obtain⟨x,hx,hx2,hx3⟩:=hf.has hf0 ho;have hfa:=hr.fld hf0;have gdf:gd f0.ty:=⟨hfa.2.2,ht⟩;obtain⟨r1,r2,r3⟩:=pH hx3 ht hx2;obtain⟨f1,A,B,j1,j2,j3,j4⟩:=H bk e st ks 0 f0.ty t (ofD x) gdf hs r1 (by omega);have out:=yd j1 j2;have hc:=wM r2;rw[Ce,Ce];refine⟨ar a (ay f1) f,A,B,hf.one out.1 out.2,qh hx (by rw[nb,j3,hc]),?_⟩;refine(zK hf.nod hx r3 r2 j2.nod (j4.wide fun p hp=>CM hp)).mono ?_;have k1:=qZ cE hx;unfold w5 nh;simp only[cE] at k1;refine Nat.mul_le_mul_left 1000 (Nat.mul_le_mul (by omega) (by unfold cF at *;omega))
 |each f0 lo hi ns fs t ts u hk hf0 ho ht htk hs=>
  simp only[Lns.kind,Lns.a,Lns.subs] at *
  subst hk;rw[show dC 10=10 from rfl,if_neg (by decide),if_neg (by decide)];rw[hsub (.inr rfl)] at hs;obtain⟨x,hx,hx2,hx3⟩:=hf.has hf0 ho;have hfa:=hr.fld hf0;obtain⟨v,hv,hv2⟩:=im hfa.2.2 (by rw[ht];exact .inl rfl);have hft:v=t:=(by rw[ht] at hv;simp only[Ty.kind,Ty.lo,Ty.hi,Ty.mk.injEq,List.cons.injEq] at hv;exact hv.2.2.2.2.2.1.symm);subst hft;rw[ht] at hx2;have hfit:=hx2;rw[kz,Bool.and_eq_true,decide_eq_true_eq] at hfit;obtain⟨h1,h2⟩:=hfit;have hxk:x.kind=2:=(by have:=j6 h1;simpa[Ty.kind] using this.symm);simp[Ty.kind,Ty.of,sv] at h2;have hp:=((d9 x).1 hx3);obtain⟨k0,n0,s0,ks0,ds0⟩:=x;simp only[Doc.kind] at hxk;subst hxk;obtain⟨p1,p2,p3⟩:=hp;have hlen:ks0.length=ds0.length:=(by have q1:(decide (n0=0)&&decide (s0=[])&&decide (ks0.length=ds0.length))=true:=p1;rw[Bool.and_eq_true,decide_eq_true_eq] at q1;exact q1.2);have hnd:ks0.Nodup:=(((iP _ none ks0).1 p2).2.1).imp fun h=>lv h
  obtain⟨ds',A,B,i1,i2,i3,i4⟩:=wg H bk e st ks ⟨hv2,htk⟩ hs (by omega) ks0 ds0 hlen hnd fun y hy=>⟨p3 y hy,h2 y hy⟩
  rw[AM,AM];refine⟨ar a (.mk 2 n0 s0 ks0 ds') f,A,B,hf.one ?_ ?_,qh hx (by simp[cR,i3]),?_⟩
  ·rw[kz,Bool.and_eq_true,decide_eq_true_eq];constructor
   ·simp only[d7,Ty.kind,Ty.lo,Ty.hi,Doc.kind,Doc.kids,i1] at h1 ⊢;exact h1
   ·simp[Ty.kind,Ty.of,sv];exact fun y hy=>(i2 y hy).2
  ·rw[d9];refine⟨?_,p2,fun y hy=>(i2 y hy).1⟩;simp only[fH,Doc.kind,Doc.num,Doc.str,Doc.keys,Doc.kids,i1] at p1 ⊢;exact p1
  ·have hw:=DD hx i4;have hrr:∀p,(∃s∈ks0,rS e st (ks++[s]) p)→rS e st ks p:=(by rintro p ⟨s,_,h⟩;exact IK h);refine(hw.wide hrr).mono ?_;have k1:=qZ cE hx;simp only[cE,cR] at k1;unfold w5;refine Nat.mul_le_mul_left 1000 (Nat.mul_le_mul (by omega) (by unfold cF;omega))
theorem AN {s:Lns}(H:mT s.subs):zU s:=by
 obtain⟨k,a,b,ty,d,sw,subs⟩:=s;intro bk e st ks r r' f hr hr' hd hf hb;simp only[Lns.subs] at H;rw[kf] at hb;rw[oW];cases bk with
 |false=>obtain⟨f',A,B,h1,h2,h3⟩:=xi H false k a b ty d sw subs (fun _=>rfl) e st ks r r' f hr hr' hd hf hb;refine⟨f',A,B,h1,h2,?_⟩;rw[qX,qX];simp only[Bool.not_false,Bool.false_and,Bool.true_and,Bool.false_eq_true,if_false,if_true,decide_eq_true_eq] at h3 ⊢;exact h3
 |true=>
  have hd':Did (.mk (dC k) (if k=1 then b else a) (if k=1 then a else b) ty d sw (if k=9∨k=10 then ba subs else subs)) r r':=(by have:Ia true (.mk k a b ty d sw subs)=turnN (.mk k a b ty d sw subs):=rfl;rw[this,turnN] at hd;exact hd);have hk:dC k=9∨dC k=10→k=9∨k=10:=by
   unfold dC;split
   ·omega
   ·split<;>omega
  obtain⟨f',A,B,h1,h2,h3⟩:=xi H true _ _ _ ty d sw _ (fun h=>by rw[if_pos (hk h)];rfl) e st ks r r' f hr hr' hd' hf hb;refine⟨f',A,B,h1,h2,?_⟩;rw[qX,qX];rw[xn] at h3;simp only[BE,Bool.not_true,Bool.false_and,Bool.true_and,Bool.false_eq_true,if_false,if_true,decide_eq_true_eq] at h3 ⊢;by_cases h:k=1
  ·simpa only[h,if_true] using h3
  ·simpa only[h,if_false] using h3
theorem oY:∀{l m:List Lns}{r v:Ty},bO (l++m) r 0=.ok v→∃u,bO l r 0=.ok u∧bO m u 0=.ok v
 |[],m,r,v,h=>⟨r,rfl,h⟩
 |s::l,m,r,v,h=>by obtain⟨r1,h1,h2,h3⟩:=eU.1 h;obtain⟨u,h4,h5⟩:=oY h3;exact⟨u,eU.2 ⟨r1,h1,h2,h4⟩,h5⟩
theorem AI {e:Int}{s:Lns}{l:List Lns}{k:Nat}{st:List Int}{ks:List Str}{w:Wlk}{g:Flds}(h:dV w g=true):eb e false (s::l) k st ks w g=sE (lP e false s (st++[(k:Int)]) ks) (eb e false l (k+1) st ks) w g:=by rw[eb];simp only[Bool.false_eq_true,if_false];rw[if_pos h];rfl
theorem AH {e:Int}{s:Lns}{l:List Lns}{k:Nat}{st:List Int}{ks:List Str}{w w':Wlk}{g g':Flds}(h:sE (eb e true l (k+1) st ks) (lP e true s (st++[(k:Int)]) ks) w g=some (w',g'))(hs:dV w' g'=true):eb e true (s::l) k st ks w g=some (w',g'):=by
 rw[eb];simp only[if_true];unfold sE at h;split at h
 ·rename_i w1 g1 hq;rw[hq];simp only;rw[h];simp only;rw[if_pos hs]
 ·cases h
theorem jR:∀l:List Lns,(∀s∈l,zU s)→mT l
 |[],_=>by intro bk e st ks k r u f hr hl hf hb;have hl':r=u:=(by cases bk<;>simpa[om,ba,bO] using hl);subst hl';have key:∀bk,Act (rL e st ks k) (nh (bQ []) (cF f)) (eb e bk [] k st ks) f non f non non:=(by intro bk w g h1 h2 h3 h4 h5;refine⟨w,g,?_,h1,h2,h3,h4,fun _ _=>rfl,rfl,by omega,vW w⟩;rw[eb,if_pos];unfold dV;unfold wW at h5;simp only[decide_eq_true_eq];omega);exact⟨f,non,non,hr,hf,rfl,fun _ _=>rfl,fun _ _=>rfl,key _,key _,_,key _⟩
 |s::l,H=>by
  intro bk e st ks k r u f hr hl hf hb;have hap:∀p,rS e (st++[(k:Int)]) ks p→rL e st ks (k+1) p→False:=fun p=>CL
  have hsm:∀(C:Nat) (w:Wlk) (g:Flds),wW w+wF g+C<lim→dV w g=true:=fun C w g h=>by unfold dV;unfold wW at h;simp only[decide_eq_true_eq];omega
  have hsm2:∀(C:Nat) (w w':Wlk) (g g':Flds),wW w+wF g+C<lim→wW w'+wF g'≤wW w+wF g+C→dV w' g'=true:=fun C w w' g g' h h'=>by unfold dV;unfold wW at h h';simp only[decide_eq_true_eq];omega
  have hcost:∀n m:Nat,w5 n m+nh (bQ l) m=1000*((1+n+bQ l)*(1+m)):=fun n m=>by unfold w5 nh;rw[←Nat.mul_add,←Nat.add_mul]
  have hsz:1+oW s+bQ l=bQ (s::l):=(by rw[bQ,Nat.add_comm 1]);rw[ak] at hb;cases bk with
  |false=>
   obtain⟨r1,h1,h2,h3⟩:=eU.1 (show bO (s::l) r 0=.ok u from hl);have hd:=qu s hr.kind h1;obtain⟨f1,A1,B1,i1,i2,i3⟩:=H s (by simp) false e (st++[(k:Int)]) ks r r1 f hr ⟨h2,hd.kind hr.kind⟩ hd hf (by simp;omega);obtain⟨f2,A2,B2,j1,j2,j3,j4⟩:=jR l (fun s' hs'=>H s' (by simp[hs'])) false e st ks (k+1) r1 u f1 ⟨h2,hd.kind hr.kind⟩ h3 i1 (by omega);have hw:=(i3.seq j4 hap).iff fun p=>AC.symm
   rw[i2,hcost,hsz] at hw;exact⟨f2,_,_,j1,j2,j3.trans i2,hw.runs (fun w g hlt w' g' hq _=>by rw[AI (hsm _ _ _ hlt)];exact hq) fun w g hlt w' g' hq hle=>AH hq (hsm2 _ _ _ _ _ hlt hle)⟩
  |true=>
   obtain⟨r1,h1,h2⟩:=oY (show bO (ba l++[turnN s]) r 0=.ok u by rw[←ba];exact hl);obtain⟨f1,A1,B1,j1,j2,j3,j4⟩:=jR l (fun s' hs'=>H s' (by simp[hs'])) true e st ks (k+1) r r1 f hr h1 hf (by omega);obtain⟨r2,k1,k2,k3⟩:=eU.1 h2;have hu:r2=u:=(by simpa[bO] using k3);subst hu;have hd:=qu (turnN s) j1.kind k1;have gu:gd r2:=⟨k2,hd.kind j1.kind⟩;obtain⟨f2,A2,B2,i1,i2,i3⟩:=H s (by simp) true e (st++[(k:Int)]) ks r1 r2 f1 j1 gu hd j2 (by simp;omega);have hw:=(j4.seq i3 fun p h1 h2=>hap p h2 h1).iff fun p=>Or.comm.trans AC.symm
   rw[j3,Nat.add_comm,hcost,hsz] at hw;exact⟨f2,_,_,gu,i1,i2.trans j3,hw.runs (fun w g hlt w' g' hq hle=>AH hq (hsm2 _ _ _ _ _ hlt hle)) fun w g hlt w' g' hq _=>by rw[Bool.not_true,AI (hsm _ _ _ hlt)];exact hq⟩
theorem Dw (l:List Lns):mT l:=by
 have key:∀s:Lns,mT s.subs:=by
  intro s;induction s using Lns.ind with
  |h s ih=>exact jR _ fun x hx=>AN (ih x hx)
 exact jR l fun s _=>AN (key s)
end Go.V
end
