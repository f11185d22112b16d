/-
  A part of a proof: P4 P5 P12 Y2 Y3.
-/
import Derived.Test.YtkfjenbfbendhaaGreatDoorLk14
import Derived.Test.YtkfjenbfbendhaaGreatDoorLk16
import Derived.Test.YtkfjenbfbendhaaGreatDoorLk17
set_option linter.unusedSimpArgs false
set_option linter.unusedVariables false
section
namespace Go.V
def fM (a:Str)(t:Ty)(l:List Fld):List Fld:=dU (.mk a false t) (bZ a l)
inductive Did (s:Lns)(r:Ty):Ty→Prop
 |ren (f:Fld) (hk:s.kind=1) (hf:ah s.a r.fields=some f) (hn:d8 s.b=true) (hb:ah s.b r.fields=none):Did s r (dA (dU (.mk s.b f.opt f.ty) (bZ s.a r.fields)))
 |add (hk:s.kind=2) (hn:d8 s.a=true) (ha:ah s.a r.fields=none) (he:dy s.ty s.doc=0):Did s r (dA (dU (.mk s.a false s.ty) r.fields))
 |rem (f:Fld) (hk:s.kind=3) (hf:ah s.a r.fields=some f) (ho:f.opt=false) (ht:f.ty=s.ty) (he:dy s.ty s.doc=0):Did s r (dA (bZ s.a r.fields))
 |hoist (f g:Fld) (hk:s.kind=4) (hf:ah s.a r.fields=some f) (ho:f.opt=false) (ht:f.ty.kind=1) (hg:ah s.b f.ty.fields=some g) (hgo:g.opt=false) (hb:ah s.b r.fields=none):Did s r (dA (dU g (fM s.a (dA (bZ s.b f.ty.fields)) r.fields)))
 |plunge (f g:Fld) (hk:s.kind=5) (hf:ah s.a r.fields=some f) (ho:f.opt=false) (hg:ah s.b r.fields=some g) (hgo:g.opt=false) (ht:f.ty.kind=1) (hab:s.a≠s.b) (hb:ah s.b f.ty.fields=none):Did s r (dA (bZ s.b (fM s.a (dA (dU g f.ty.fields)) r.fields)))
 |wrap (f:Fld) (hk:s.kind=6) (hf:ah s.a r.fields=some f) (ho:f.opt=false) (hs:de f.ty=true):Did s r (dA (fM s.a (.mk 3 1 1 [] [] [f.ty]) r.fields))
 |head (f:Fld) (t:Ty) (ns:List Str) (fs:List Fld) (ts:List Ty) (hk:s.kind=7) (hf:ah s.a r.fields=some f) (ho:f.opt=false) (ht:f.ty=.mk 3 1 1 ns fs (t::ts)) (hs:de t=true):Did s r (dA (fM s.a t r.fields))
 |conv (f:Fld) (hk:s.kind=8) (hf:ah s.a r.fields=some f) (ho:f.opt=false) (ht:f.ty.kind=4) (hs:iY s.swaps f.ty=0):Did s r r
 |ins (f:Fld) (t:Ty) (hk:s.kind=9) (hf:ah s.a r.fields=some f) (ho:f.opt=false) (ht:f.ty.kind=1) (hs:bQ s.subs f.ty 0=.ok t):Did s r (dA (fM s.a t r.fields))
 |each (f:Fld) (lo hi:Int) (ns:List Str) (fs:List Fld) (t:Ty) (ts:List Ty) (u:Ty) (hk:s.kind=10) (hf:ah s.a r.fields=some f) (ho:f.opt=false) (ht:f.ty=.mk 2 lo hi ns fs (t::ts)) (htk:t.kind=1) (hs:bQ s.subs t 0=.ok u) :
   Did s r (dA (fM s.a (.mk 2 lo hi ns fs [u]) r.fields))
theorem rx (s:Lns){r r':Ty}(hr:r.kind=1)(h:eu s r=.ok r'):Did s r r':=by
 obtain⟨k,a,b,ty,d,sw,subs⟩:=s
 rw[eu] at h
 have hR:∀n,fieldR r n=ah n r.fields:=fun n=>by unfold fieldR;rw[if_pos hr]
 simp only[hR] at h
 by_cases k2:k=2
 ·
  subst k2
  simp only[if_true] at h
  split at h
  ·
   cases h
  ·
   rename_i h1
   split at h
   ·
    cases h
   ·
    rename_i h2
    split at h
    ·
     rename_i h3
     cases h
     exact .add rfl (by simpa[Lns.a] using h1) (by simpa[Lns.a] using h2) h3
    ·
     cases h
 rw[if_neg k2] at h
 by_cases hk:k=1∨(3≤k∧k≤10)
 case neg=>rw[if_neg hk] at h;cases h
 rw[if_pos hk] at h
 split at h
 ·
  cases h
 rename_i f hf
 by_cases ho:f.opt=true∧k≠1
 case pos=>rw[if_pos ho] at h;cases h
 rw[if_neg ho] at h
 have ho':k≠1→f.opt=false:=fun hk=>by
  cases hfo:f.opt with
  |false=>rfl
  |true=>exact(ho ⟨hfo,hk⟩).elim
 by_cases k1:k=1
 ·
  subst k1
  simp only[if_true] at h
  split at h
  ·
   cases h
  ·
   rename_i h1
   split at h
   ·
    cases h
   ·
    rename_i h2
    cases h
    exact .ren f rfl hf (by simpa[Lns.a,Lns.b,Lns.ty] using h1) (by simpa[Lns.a,Lns.b,Lns.ty] using h2)
 replace ho:=ho' k1
 clear ho'
 rw[if_neg k1] at h
 by_cases k3:k=3
 ·
  subst k3
  simp only[if_true] at h
  split at h
  ·
   cases h
  ·
   rename_i h1
   split at h
   ·
    rename_i h2
    cases h
    exact .rem f rfl hf ho ((vx _ _).1 (by simpa[Lns.a,Lns.b,Lns.ty] using h1)) h2
   ·
    cases h
 rw[if_neg k3] at h
 by_cases k4:k=4
 ·
  subst k4
  simp only[if_true] at h
  split at h
  ·
   cases h
  ·
   rename_i h1
   split at h
   ·
    cases h
   ·
    rename_i g hg
    split at h
    ·
     cases h
    ·
     rename_i h2
     split at h
     ·
      cases h
     ·
      rename_i h3
      cases h
      exact .hoist f g rfl hf ho (by simpa[Lns.a,Lns.b,Lns.ty] using h1) hg (by simpa[Lns.a,Lns.b,Lns.ty] using h2) (by simpa[Lns.a,Lns.b,Lns.ty] using h3)
 rw[if_neg k4] at h
 by_cases k5:k=5
 ·
  subst k5
  simp only[if_true] at h
  split at h
  ·
   cases h
  ·
   rename_i g hg
   split at h
   ·
    cases h
   ·
    rename_i h1
    split at h
    ·
     cases h
    ·
     rename_i h2
     cases h
     simp only[not_or] at h1
     exact .plunge f g rfl hf ho hg (by simpa[Lns.a,Lns.b,Lns.ty] using h1.1) (by simpa[Lns.a,Lns.b,Lns.ty] using h1.2.1) h1.2.2 (by simpa[Lns.a,Lns.b,Lns.ty] using h2)
 rw[if_neg k5] at h
 by_cases k6:k=6
 ·
  subst k6
  simp only[if_true] at h
  split at h
  ·
   rename_i h1
   cases h
   exact .wrap f rfl hf ho h1
  ·
   cases h
 rw[if_neg k6] at h
 by_cases k7:k=7
 ·
  subst k7
  simp only[if_true] at h
  split at h
  ·
   rename_i ns fs t ts ht
   split at h
   ·
    rename_i h1
    cases h
    exact .head f t ns fs ts rfl hf ho ht h1
   ·
    cases h
  ·
   cases h
 rw[if_neg k7] at h
 by_cases k8:k=8
 ·
  subst k8
  simp only[if_true] at h
  split at h
  ·
   cases h
  ·
   rename_i h1
   split at h
   ·
    rename_i h2
    cases h
    exact .conv f rfl hf ho (by simpa using h1) h2
   ·
    cases h
 rw[if_neg k8] at h
 by_cases k9:k=9
 ·
  subst k9
  simp only[if_true] at h
  split at h
  ·
   cases h
  ·
   rename_i h1
   split at h
   ·
    rename_i t ht
    cases h
    exact .ins f t rfl hf ho (by simpa using h1) ht
   ·
    cases h
 rw[if_neg k9] at h
 have k10:k=10:=by omega
 split at h
 ·
  rename_i lo hi ns fs t ts ht
  split at h
  ·
   cases h
  ·
   rename_i h1
   split at h
   ·
    rename_i u hu
    cases h
    exact .each f lo hi ns fs t ts u k10 hf ho ht (by simpa using h1) hu
   ·
    cases h
 ·
  cases h
theorem CC {s:Lns}{r r':Ty}(hr:r.kind=1)(h:Did s r r'):eu s r=.ok r':=by
 obtain⟨k,a,b,ty,d,sw,subs⟩:=s
 have hR:∀n,fieldR r n=ah n r.fields:=fun n=>by unfold fieldR;rw[if_pos hr]
 rw[eu]
 simp only[hR]
 cases h with
 |ren f hk hf hn hb=>simp only[Lns.kind,Lns.a,Lns.b] at *;subst hk;simp[hf,hn,hb,dQ,ax,aj]
 |add hk hn ha he=>simp only[Lns.kind,Lns.a,Lns.b,Lns.ty,Lns.doc] at *;subst hk;simp[hn,ha,he,dQ]
 |rem f hk hf ho ht he=>simp only[Lns.kind,Lns.a,Lns.b,Lns.ty,Lns.doc] at *;subst hk;simp[hf,ho,he,ax,(vx _ _).2 ht]
 |hoist f g hk hf ho ht hg hgo hb=>simp only[Lns.kind,Lns.a,Lns.b] at *;subst hk;simp[hf,ho,ht,hg,hgo,hb,dQ,ax,eL,fM,aj]
 |plunge f g hk hf ho hg hgo ht hab hb=>simp only[Lns.kind,Lns.a,Lns.b] at *;subst hk;simp[hf,ho,ht,hg,hgo,hab,hb,dQ,ax,eL,fM,aj]
 |wrap f hk hf ho hs=>simp only[Lns.kind,Lns.a,Lns.b] at *;subst hk;simp[hf,ho,hs,dQ,ax,eL,fM,aj]
 |head f t ns fs ts hk hf ho ht hs=>simp only[Lns.kind,Lns.a,Lns.b] at *;subst hk;simp[hf,ho,ht,hs,dQ,ax,eL,fM,aj]
 |conv f hk hf ho ht hs=>simp only[Lns.kind,Lns.a,Lns.swaps] at *;subst hk;simp[hf,ho,ht,hs]
 |ins f t hk hf ho ht hs=>simp only[Lns.kind,Lns.a,Lns.subs] at *;subst hk;simp[hf,ho,ht,hs,dQ,ax,eL,fM,aj]
 |each f lo hi ns fs t ts u hk hf ho ht htk hs=>simp only[Lns.kind,Lns.a,Lns.subs] at *;subst hk;simp[hf,ho,ht,htk,hs,dQ,ax,eL,fM,aj]
theorem pb:∀(l:List Lns)(r u:Ty)(k j:Nat),bQ l r k=.ok u→bQ l r j=.ok u
 |[],r,u,k,j,h=>by simpa[bQ] using h
 |s::l,r,u,k,j,h=>by
  rw[bQ] at h ⊢
  split at h
  ·
   rename_i r' hr
   try rw[hr]
   try simp only
   split at h
   ·
    rename_i h1
    rw[if_pos h1]
    exact pb l r' u _ _ h
   ·
    cases h
  ·
   cases h
theorem fF {s:Lns}{l:List Lns}{r u:Ty}{k:Nat}:bQ (s::l) r k=.ok u↔∃r1,eu s r=.ok r1∧bq r1=true∧bQ l r1 0=.ok u:=by
 rw[bQ]
 constructor
 ·
  intro h
  split at h
  ·
   rename_i r' hr
   split at h
   ·
    rename_i h1
    exact⟨r',hr,h1,pb _ _ _ _ _ h⟩
   ·
    cases h
  ·
   cases h
 ·
  rintro⟨r1,h1,h2,h3⟩
  rw[h1]
  simp only
  rw[if_pos h2]
  exact pb _ _ _ _ _ h3
theorem lL:∀{l m:List Lns}{r u v:Ty},bQ l r 0=.ok u→bQ m u 0=.ok v→bQ (l++m) r 0=.ok v
 |[],m,r,u,v,h,h'=>by
  simp only[bQ,Except.ok.injEq] at h
  subst h
  exact h'
 |s::l,m,r,u,v,h,h'=>by
  obtain⟨r1,h1,h2,h3⟩:=fF.1 h
  exact fF.2 ⟨r1,h1,h2,lL h3 h'⟩
theorem Did.kind {s:Lns}{r r':Ty}(h:Did s r r')(hr:r.kind=1):r'.kind=1:=by
 cases h with
 |conv=>exact hr
 |_=>rfl
theorem be (n a:Str)(t:Ty)(l:List Fld):ah n (fM a t l)=if a=n then some (.mk a false t) else ah n l:=by
 unfold fM
 rw[cw _ _ _ (by rw[bV];simp[Fld.name]),bV]
 by_cases e:a=n<;>simp[e,Fld.name]
theorem eU (a:Str)(t:Ty){l:List Fld}(h:fC l):fC (fM a t l):=fE (fD a h) (by rw[bV];simp[Fld.name])
@[simp] theorem C7 (s:Lns):(turnN s).kind=dt s.kind:=by cases s;rfl
@[simp] theorem il (s:Lns):(turnN s).a=if s.kind=1 then s.b else s.a:=by cases s;rfl
@[simp] theorem wc (s:Lns):(turnN s).b=if s.kind=1 then s.a else s.b:=by cases s;rfl
@[simp] theorem zT (s:Lns):(turnN s).ty=s.ty:=by cases s;rfl
@[simp] theorem Cu (s:Lns):(turnN s).doc=s.doc:=by cases s;rfl
@[simp] theorem Bf (s:Lns):(turnN s).swaps=s.swaps:=by cases s;rfl
@[simp] theorem C8 (s:Lns):(turnN s).subs=if s.kind=9∨s.kind=10 then bU s.subs else s.subs:=by cases s;rfl
def s8 (l:List Lns):Prop:=∀r u,gd r→bQ l r 0=.ok u→gd u∧bQ (bU l) u 0=.ok r
theorem fm {s:Lns}{r r1 r2:Ty}(h:Did s r r1)(e:r1=r2):Did s r r2:=e ▸ h
theorem xw {s:Lns}{r r':Ty}(hg:gd r)(hg':gd r')(h:Did s r r')(ih:s8 s.subs):Did (turnN s) r' r:=by
 obtain⟨hr,hsr,hfr⟩:=hg.parts
 have key:∀l:List Fld,fC l→(∀n,ah n l=ah n r.fields)→dA l=r:=fun l hl he=>(pQ hl hsr he).trans hr.symm
 cases h with
 |ren f hk hf hn hb=>
  have hfa:=(hg.fld hf)
  have hab:s.b≠s.a:=fun e=>by rw[e,hf] at hb;cases hb
  have hd:ah (Fld.mk s.b f.opt f.ty).name (bZ s.a r.fields)=none:=by rw[bV];simp[Fld.name,hb]
  have hF:∀n,ah n (dU (.mk s.b f.opt f.ty) (bZ s.a r.fields))=if s.b=n then some (.mk s.b f.opt f.ty) else if s.a=n then none else ah n r.fields:=fun n=>by rw[cw _ _ _ hd,bV];rfl
  have:=Did.ren (s:=turnN s) (r:=dA (dU (.mk s.b f.opt f.ty) (bZ s.a r.fields))) (.mk s.b f.opt f.ty) (by simp[hk,dt]) (by rw[aj,hF];simp[hk]) (by simp[hk,hfa.2.1]) (by rw[aj,hF];simp[hk,hab])
  refine fm this (key _ (fE (fD _ (fE (fD _ hsr) hd)) ?_) fun n=>?_)
  ·
   rw[bV,aj,hF];simp[Fld.name,hk,hab]
  ·
   rw[cw _ _ _ (by rw[bV,aj,hF];simp[Fld.name,hk,hab]),bV,aj,hF]
   simp only[Fld.name,wc,il,hk,if_true,Fld.opt,Fld.ty]
   by_cases e1:s.a=n
   ·
    subst e1;rw[if_pos rfl,hf,Fld.eta f,hfa.1]
   ·
    by_cases e2:s.b=n
    ·
     subst e2;simp[e1,hb]
    ·
     simp[e1,e2]
 |add hk hn ha he=>
  have hF:∀n,ah n (dU (.mk s.a false s.ty) r.fields)=if s.a=n then some (.mk s.a false s.ty) else ah n r.fields:=fun n=>cw _ _ _ ha
  have:=Did.rem (s:=turnN s) (r:=dA (dU (.mk s.a false s.ty) r.fields)) (.mk s.a false s.ty) (by simp[hk,dt]) (by rw[aj,hF];simp[hk]) rfl (by simp[Fld.ty]) (by simpa using he)
  refine fm this (key _ (fD _ (fE hsr ha)) fun n=>?_)
  rw[bV,aj,hF]
  simp only[il,hk]
  by_cases e1:s.a=n
  ·
   subst e1;simp[ha]
  ·
   simp[e1]
 |rem f hk hf ho ht he=>
  have hfa:=(hg.fld hf)
  have hF:∀n,ah n (bZ s.a r.fields)=if s.a=n then none else ah n r.fields:=fun n=>bV _ _ _
  have:=Did.add (s:=turnN s) (r:=dA (bZ s.a r.fields)) (by simp[hk,dt]) (by simp[hk,hfa.2.1]) (by rw[aj,hF];simp[hk]) (by simpa using he)
  refine fm this (key _ (fE (fD _ hsr) (by rw[aj,hF];simp[Fld.name,hk])) fun n=>?_)
  rw[cw _ _ _ (by rw[aj,hF];simp[Fld.name,hk]),aj,hF]
  simp only[Fld.name,il,zT,hk]
  by_cases e1:s.a=n
  ·
   subst e1;rw[hf,Fld.eta f,hfa.1,ho,ht];simp
  ·
   simp[e1]
 |hoist f g hk hf ho ht hg2 hgo hb=>
  have hfa:=(hg.fld hf)
  have gdf:gd f.ty:=⟨hfa.2.2,ht⟩
  have hgb:=gdf.fld hg2
  have hab:s.a≠s.b:=fun e=>by rw[←e,hf] at hb;cases hb
  have hd:ah g.name (fM s.a (dA (bZ s.b f.ty.fields)) r.fields)=none:=by rw[be,hgb.1,if_neg hab,hb]
  have hF:∀n,ah n (dU g (fM s.a (dA (bZ s.b f.ty.fields)) r.fields))=if s.b=n then some g else if s.a=n then some (.mk s.a false (dA (bZ s.b f.ty.fields))) else ah n r.fields:=fun n=>by rw[cw _ _ _ hd,be,hgb.1]
  have:=Did.plunge (s:=turnN s) (r:=dA (dU g (fM s.a (dA (bZ s.b f.ty.fields)) r.fields))) (.mk s.a false (dA (bZ s.b f.ty.fields))) g (by simp[hk,dt]) (by rw[aj,hF];simp[hk,hab.symm]) rfl (by rw[aj,hF];simp[hk]) hgo rfl (by simp[hk,hab]) (by simp[Fld.ty,aj,bV,hk])
  refine fm this (key _ (fD _ (eU _ _ (fE (eU _ _ hsr) hd))) fun n=>?_)
  rw[bV,be,aj,hF]
  have hback:dA (dU g (bZ s.b f.ty.fields))=f.ty:=by
   have hp:=gdf.parts
   refine(pQ (fE (fD _ hp.2.1) (by rw[bV,hgb.1];simp)) hp.2.1 fun n=>?_).trans hp.1.symm
   rw[cw _ _ _ (by rw[bV,hgb.1];simp),bV,hgb.1]
   by_cases e:s.b=n
   ·
    subst e;simp[hg2]
   ·
    simp[e]
  have hh:dA (dU g (Fld.mk s.a false (dA (bZ s.b f.ty.fields))).ty.fields)=f.ty:=hback
  rw[hh]
  simp only[il,wc,hk]
  simp only[show ¬((4:Int)=1) by omega,if_false]
  by_cases e1:s.a=n
  ·
   subst e1;simp[hab.symm];rw[hf,Fld.eta f,hfa.1,ho];rfl
  ·
   by_cases e2:s.b=n
   ·
    subst e2;simp[hb]
   ·
    simp[e1,e2]
 |plunge f g hk hf ho hg2 hgo ht hab hb=>
  have hfa:=(hg.fld hf)
  have hga:=(hg.fld hg2)
  have gdf:gd f.ty:=⟨hfa.2.2,ht⟩
  have hF:∀n,ah n (bZ s.b (fM s.a (dA (dU g f.ty.fields)) r.fields))=if s.b=n then none else if s.a=n then some (.mk s.a false (dA (dU g f.ty.fields))) else ah n r.fields:=fun n=>by rw[bV,be]
  have hgn:ah g.name f.ty.fields=none:=by rw[hga.1];exact hb
  have:=Did.hoist (s:=turnN s) (r:=dA (bZ s.b (fM s.a (dA (dU g f.ty.fields)) r.fields))) (.mk s.a false (dA (dU g f.ty.fields))) g (by simp[hk,dt]) (by rw[aj,hF];simp[hk,hab.symm]) rfl rfl (by show ah (turnN s).b (dU g f.ty.fields)=some g;rw[cw _ _ _ hgn,hga.1];simp[hk]) hgo (by rw[aj,hF];simp[hk])
  have hback:dA (bZ s.b (dU g f.ty.fields))=f.ty:=by
   have hp:=gdf.parts
   refine(pQ (fD _ (fE hp.2.1 hgn)) hp.2.1 fun n=>?_).trans hp.1.symm
   rw[bV,cw _ _ _ hgn,hga.1]
   by_cases e:s.b=n
   ·
    subst e;simp[hb]
   ·
    simp[e]
  have hd:ah g.name (fM (turnN s).a (dA (bZ (turnN s).b (Fld.mk s.a false (dA (dU g f.ty.fields))).ty.fields)) (dA (bZ s.b (fM s.a (dA (dU g f.ty.fields)) r.fields))).fields)=none:=by
   rw[be,aj,hF,hga.1];simp[hk,hab]
  refine fm this (key _ (fE (eU _ _ (fD _ (eU _ _ hsr))) hd) fun n=>?_)
  rw[cw _ _ _ hd,be,aj,hF]
  have hb':(turnN s).b=s.b:=by simp[hk]
  have ha':(turnN s).a=s.a:=by simp[hk]
  have hh:dA (bZ (turnN s).b (Fld.mk s.a false (dA (dU g f.ty.fields))).ty.fields)=f.ty:=by rw[hb'];exact hback
  rw[hh,ha',hga.1]
  by_cases e1:s.b=n
  ·
   subst e1;simp[hg2]
  ·
   by_cases e2:s.a=n
   ·
    subst e2;simp[e1];rw[hf,Fld.eta f,hfa.1,ho];rfl
   ·
    simp[e1,e2]
 |wrap f hk hf ho hs=>
  have hfa:=(hg.fld hf)
  have:=Did.head (s:=turnN s) (r:=dA (fM s.a (.mk 3 1 1 [] [] [f.ty]) r.fields)) (.mk s.a false (.mk 3 1 1 [] [] [f.ty])) f.ty [] [] [] (by simp[hk,dt]) (by rw[aj,be];simp[hk]) rfl rfl hs
  refine fm this (key _ (eU _ _ (eU _ _ hsr)) fun n=>?_)
  rw[be,aj,be]
  simp only[il,hk]
  by_cases e1:s.a=n
  ·
   subst e1;simp;rw[hf,Fld.eta f,hfa.1,ho];rfl
  ·
   simp[e1]
 |head f t ns fs ts hk hf ho ht hs=>
  have hfa:=(hg.fld hf)
  obtain⟨u,hu,_⟩:=gj hfa.2.2 (by rw[ht];exact .inr rfl)
  have hft:f.ty=.mk 3 1 1 [] [] [t]:=by
   rw[ht] at hu ⊢
   simp only[Ty.kind,Ty.lo,Ty.hi,Ty.mk.injEq,List.cons.injEq] at hu
   obtain⟨_,_,_,e1,e2,e3,e4⟩:=hu
   rw[e1,e2,e4]
  have:=Did.wrap (s:=turnN s) (r:=dA (fM s.a t r.fields)) (.mk s.a false t) (by simp[hk,dt]) (by rw[aj,be];simp[hk]) rfl hs
  refine fm this (key _ (eU _ _ (eU _ _ hsr)) fun n=>?_)
  rw[be,aj,be]
  simp only[il,hk,Fld.ty]
  by_cases e1:s.a=n
  ·
   subst e1;simp;rw[hf,Fld.eta f,hfa.1,ho,hft]
  ·
   simp[e1]
 |conv f hk hf ho ht hs=>
  exact Did.conv f (by simp[hk,dt]) (by simp[hk,hf]) ho ht (by simpa using hs)
 |ins f t hk hf ho ht hs=>
  have hfa:=(hg.fld hf)
  obtain⟨i1,i2⟩:=ih f.ty t ⟨hfa.2.2,ht⟩ hs
  have:=Did.ins (s:=turnN s) (r:=dA (fM s.a t r.fields)) (.mk s.a false t) f.ty (by simp[hk,dt]) (by rw[aj,be];simp[hk]) rfl i1.kind (by simpa[hk,Fld.ty] using i2)
  refine fm this (key _ (eU _ _ (eU _ _ hsr)) fun n=>?_)
  rw[be,aj,be]
  simp only[il,hk]
  by_cases e1:s.a=n
  ·
   subst e1;simp;rw[hf,Fld.eta f,hfa.1,ho];rfl
  ·
   simp[e1]
 |each f lo hi ns fs t ts u hk hf ho ht htk hs=>
  have hfa:=(hg.fld hf)
  obtain⟨v,hv,hv2⟩:=gj hfa.2.2 (by rw[ht];exact .inl rfl)
  have hft:ts=[]∧v=t:=by
   rw[ht] at hv
   simp only[Ty.kind,Ty.lo,Ty.hi,Ty.mk.injEq,List.cons.injEq] at hv
   exact⟨hv.2.2.2.2.2.2,hv.2.2.2.2.2.1.symm⟩
  obtain⟨rfl,rfl⟩:=hft
  obtain⟨i1,i2⟩:=ih v u ⟨hv2,htk⟩ hs
  have:=Did.each (s:=turnN s) (r:=dA (fM s.a (.mk 2 lo hi ns fs [u]) r.fields)) (.mk s.a false (.mk 2 lo hi ns fs [u])) lo hi ns fs u [] v (by simp[hk,dt]) (by rw[aj,be];simp[hk]) rfl rfl i1.kind (by simpa[hk] using i2)
  refine fm this (key _ (eU _ _ (eU _ _ hsr)) fun n=>?_)
  rw[be,aj,be]
  simp only[il,hk]
  by_cases e1:s.a=n
  ·
   subst e1;simp;rw[hf,Fld.eta f,hfa.1,ho,ht]
  ·
   simp[e1]
theorem lO:∀l:List Lns,(∀s∈l,s8 s.subs)→s8 l
 |[],_=>fun r u hg h=>by
  simp only[bQ,Except.ok.injEq] at h
  subst h
  exact⟨hg,rfl⟩
 |s::l,hs=>fun r u hg h=>by
  obtain⟨r1,h1,h2,h3⟩:=fF.1 h
  have hd:=rx s hg.kind h1
  have hg1:gd r1:=⟨h2,hd.kind hg.kind⟩
  obtain⟨i1,i2⟩:=lO l (fun s hs'=>hs s (by simp[hs'])) r1 u hg1 h3
  have hb:=xw hg hg1 hd (hs s (by simp))
  exact⟨i1,by rw[bU];exact lL i2 (fF.2 ⟨r,CC hg1.kind hb,hg.right,rfl⟩)⟩
theorem Cz (l:List Lns):s8 l:=by
 have key:∀s:Lns,s8 s.subs:=by
  intro s
  induction s using Lns.ind with
  |h s ih=>exact lO s.subs ih
 exact lO l fun s _=>key s
end Go.V
end
section
namespace Go.V
def gQ (g:Str→Doc→Nat):Flds→Nat
 |[]=>0
 |p::f=>g p.1 p.2+gQ g f
section
variable (g:Str→Doc→Nat)
theorem dV {a:Str}{x:Doc}:∀{f:Flds},bD a f=none→gQ g (aq a x f)=gQ g f+g a x
 |[],_=>by simp[aq,gQ]
 |(k,d)::f,h=>by
  rw[cH] at h
  by_cases e:k=a
  ·
   simp[e] at h
  ·
   simp only[e,if_false] at h
   simp only[aq,e,if_false,gQ,dV h]
   omega
theorem dW {a:Str}{x y:Doc}:∀{f:Flds},bD a f=some y→gQ g (aq a x f)+g a y=gQ g f+g a x
 |[],h=>by simp[bD] at h
 |(k,d)::f,h=>by
  rw[cH] at h
  by_cases e:k=a
  ·
   simp only[e,if_true,Option.some.injEq] at h
   subst h;subst e
   simp only[aq,if_true,gQ]
   omega
  ·
   simp only[e,if_false] at h
   have:=dW (x:=x) h
   simp only[aq,e,if_false,gQ]
   omega
theorem fz {a:Str}{y:Doc}:∀{f:Flds},bD a f=some y→gQ g (dY a f)+g a y=gQ g f
 |[],h=>by simp[bD] at h
 |(k,d)::f,h=>by
  rw[cH] at h
  by_cases e:k=a
  ·
   simp only[e,if_true,Option.some.injEq] at h
   subst h;subst e
   simp only[dY,if_true,gQ]
   omega
  ·
   simp only[e,if_false] at h
   have:=fz h
   simp only[dY,e,if_false,gQ]
   omega
theorem rN (p:Str×Doc):∀f:Flds,gQ g (kz p f)=g p.1 p.2+gQ g f
 |[]=>rfl
 |q::f=>by
  rw[kz]
  split
  ·
   rfl
  ·
   simp only[gQ,rN p f];omega
theorem lZ:∀f:Flds,gQ g (bz f)=gQ g f
 |[]=>rfl
 |p::f=>by rw[bz,rN,lZ f];rfl
end
def wE (n:Str)(x:Doc):Nat:=n.length+1+wD x
theorem fW:∀f:Flds,wF f=gQ wE f
 |[]=>rfl
 |(n,x)::f=>by simp only[wF,gQ,wE,fW f]
theorem wKD:∀f:Flds,dD (f.map (·.1))+wDs (f.map (·.2))=gQ wE f
 |[]=>rfl
 |(n,x)::f=>by have:=wKD f;simp only[List.map_cons,dD,wDs,gQ,wE] at *;omega
theorem gA (f:Flds):wD (ar f)=wF f+1:=by
 unfold ar
 rw[wD,List.length_nil,Nat.zero_add,wKD,lZ,fW]
mutual
def cR:Doc→Nat
 |.mk k _ _ _ ds=>(if k=1 then 1 else 0)+cRs ds
def cRs:List Doc→Nat
 |[]=>0
 |d::r=>cR d+cRs r
end
def cE (_:Str)(x:Doc):Nat:=cR x
def cF (f:Flds):Nat:=gQ cE f
theorem vo:∀f:Flds,cRs (f.map (·.2))=cF f
 |[]=>rfl
 |(n,x)::f=>by have:=vo f;simp only[List.map_cons,cRs,cF,gQ,cE] at *;omega
theorem li (f:Flds):cR (ar f)=1+cF f:=by
 unfold ar
 rw[cR,vo,if_pos rfl]
 unfold cF
 rw[lZ]
theorem pU:∀l:List Doc,jb l=true↔∀x∈l,rightD x=true
 |[]=>by simp[jb]
 |d::l=>by rw[jb,Bool.and_eq_true,pU l];simp
theorem dO (d:Doc):rightD d=true↔ee d=true∧eq (decide (d.kind=1)) none d.keys=true∧∀x∈d.kids,rightD x=true:=by
 obtain⟨k,n,s,ks,ds⟩:=d
 rw[rightD,Bool.and_eq_true,Bool.and_eq_true,pU,and_assoc]
 exact Iff.rfl
theorem eZ (d:Doc):dH d=true↔iR d≤12∧cr d≤512∧rightD d=true:=by
 unfold dH
 simp[and_assoc]
theorem jI {n:Str}:∀{ks:List Str}{ds:List Doc}{x:Doc},dl n ks ds=some x→x∈ds
 |[],_,_,h=>by simp[dl] at h
 |_::_,[],_,h=>by simp[dl] at h
 |k::ks,d::ds,x,h=>by
  rw[dl] at h
  split at h
  ·
   cases h;simp
  ·
   exact List.mem_cons_of_mem _ (jI h)
theorem qx {n:Str}:∀{ks:List Str}{ds:List Doc}{x:Doc},dl n ks ds=some x→n∈ks
 |[],_,_,h=>by simp[dl] at h
 |_::_,[],_,h=>by simp[dl] at h
 |k::ks,d::ds,x,h=>by
  rw[dl] at h
  split at h
  ·
   rename_i e;simp[e]
  ·
   exact List.mem_cons_of_mem _ (qx h)
theorem kC (n:Str):∀fs:List Fld,pC n fs=(ah n fs).isSome
 |[]=>rfl
 |.mk m o t::r=>by
  rw[pC,cv,kC n r]
  by_cases e:m=n<;>simp[e,Fld.name]
def okA:Option Fld→Option Doc→Prop
 |some g,some x=>okT g.ty x=true
 |some g,none=>g.opt=true
 |none,some _=>False
 |none,none=>True
theorem pJ (d:Doc):∀fs:List Fld,sJ fs d=true↔∀g∈fs,okA (some g) (dl g.name d.keys d.kids)
 |[]=>by simp[sJ]
 |.mk n o t::r=>by
  rw[sJ,Bool.and_eq_true,pJ d r]
  simp only[List.forall_mem_cons,Fld.name]
  cases dl n d.keys d.kids<;>simp[okA,Fld.opt,Fld.ty]
structure Tf (fs:List Fld)(f:Flds):Prop where
 nod:bl f
 ok:∀n,okA (ah n fs) (bD n f)
 rd:∀n x,bD n f=some x→rightD x=true
theorem Tf.has {fs:List Fld}{f:Flds}(h:Tf fs f){n:Str}{g:Fld}(hg:ah n fs=some g)(ho:g.opt=false):∃x,bD n f=some x∧okT g.ty x=true∧rightD x=true:=by
 have:=h.ok n
 rw[hg] at this
 cases hx:bD n f with
 |none=>rw[hx] at this;simp only[okA] at this;rw[ho] at this;cases this
 |some x=>rw[hx] at this;exact⟨x,rfl,this,h.rd n x hx⟩
theorem Tf.miss {fs:List Fld}{f:Flds}(h:Tf fs f){n:Str}(hg:ah n fs=none):bD n f=none:=by
 have:=h.ok n
 rw[hg] at this
 cases hx:bD n f with
 |none=>rfl
 |some x=>rw[hx] at this;exact this.elim
theorem Tf.eqM {fs:List Fld}{f g:Flds}(h:Tf fs f)(hn:bl g)(he:eqM g f):Tf fs g:=
 ⟨hn,fun n=>by rw[he n];exact h.ok n,fun n x hx=>h.rd n x (by rw[←he n];exact hx)⟩
theorem j7 (t:Ty)(d:Doc):okT t d=(decide (cy t d=0)&&(if t.kind=1 then sJ t.fields d&&d.keys.all (fun s=>pC s t.fields) else if t.kind=2∨t.kind=3 then qQ t.of d else true)):=by cases t;rfl
theorem iI {t:Ty}{d:Doc}(h:cy t d=0):if t.kind=7 then d.kind=6 else t.kind=d.kind:=by
 by_cases hc:if t.kind=7 then d.kind=6 else t.kind=d.kind
 ·
  exact hc
 ·
  unfold cy at h
  rw[if_neg hc] at h
  cases h
theorem nF {t:Ty}{x:Doc}(hr:rightD x=true)(hk:t.kind=1)(h:okT t x=true):Tf t.fields (ofD x)∧ar (ofD x)=x∧okK x=true:=by
 rw[j7,Bool.and_eq_true,if_pos hk,Bool.and_eq_true,decide_eq_true_eq,pJ,List.all_eq_true] at h
 obtain⟨h1,h2,h3⟩:=h
 have hxk:x.kind=1:=by have:=iI h1;rw[if_neg (by omega)] at this;omega
 obtain⟨p1,p2,p3⟩:=(dO x).1 hr
 rw[hxk] at p2
 simp only[decide_true] at p2
 obtain⟨_,q2,q3,q4⟩:=(iV true none x.keys).1 p2
 unfold ee at p1
 rw[if_pos (.inl hxk)] at p1
 simp only[Bool.and_eq_true,decide_eq_true_eq] at p1
 have hnd:x.keys.Nodup:=q2.imp fun h=>kG h
 refine⟨⟨cj x,fun n=>?_,fun n y hy=>?_⟩,xy hxk p1.1.1 p1.1.2 p1.2 q2,by unfold okK;simp[p1.2]⟩
 ·
  rw[mL hnd]
  cases hf:ah n t.fields with
  |some g=>
   obtain⟨e,hm⟩:=cD hf
   have:=h2 g hm
   rw[e] at this
   exact this
  |none=>
   cases hy:dl n x.keys x.kids with
   |none=>trivial
   |some y=>
    have:=h3 n (qx hy)
    rw[kC,hf] at this
    cases this
 ·
  rw[mL hnd] at hy
  exact p3 y (jI hy)
theorem xN (ks:List Str)(ds:List Doc)(h:ks.length=ds.length):ee (.mk 1 0 [] ks ds)=true:=by
 simp[ee,Doc.kind,Doc.num,Doc.str,Doc.keys,Doc.kids,h]
theorem sO {fs:List Fld}{f:Flds}(hs:fC fs)(hn:∀g∈fs,d8 g.name=true)(h:Tf fs f):okT (dA fs) (ar f)=true∧rightD (ar f)=true:=by
 have hmem:∀p∈bz f,bD p.1 f=some p.2:=fun p hp=>gc h.nod (gK.1 hp)
 have hkid:∀n,dl n (ar f).keys (ar f).kids=bD n f:=fun n=>(kh n (bz f)).trans (iT h.nod n)
 have hname:∀p∈bz f,d8 p.1=true∧pC p.1 fs=true:=fun p hp=>by
  have h1:=hmem p hp
  have h2:=h.ok p.1
  rw[h1] at h2
  cases hf:ah p.1 fs with
  |none=>rw[hf] at h2;exact h2.elim
  |some g=>
   obtain⟨e,hm⟩:=cD hf
   rw[kC,hf]
   exact⟨e ▸ hn g hm,rfl⟩
 constructor
 ·
  rw[j7,Bool.and_eq_true,if_pos (xO fs),Bool.and_eq_true,decide_eq_true_eq,pJ,List.all_eq_true]
  refine⟨rfl,fun g hg=>?_,fun s hs=>?_⟩
  ·
   rw[hkid]
   have:=h.ok g.name
   rw[fK hs hg] at this
   exact this
  ·
   obtain⟨p,hp,rfl⟩:=List.mem_map.1 (show s∈(bz f).map (·.1) from hs)
   exact(hname p hp).2
 ·
  rw[dO]
  refine⟨xN _ _ (by simp),?_,fun x hx=>?_⟩
  ·
   rw[show decide ((ar f).kind=1)=true from rfl,iV]
   have hso:=fN h.nod
   have hnm:∀s∈(ar f).keys,d8 s=true:=fun s hs=>by
    obtain⟨p,hp,rfl⟩:=List.mem_map.1 (show s∈(bz f).map (·.1) from hs)
    exact(hname p hp).1
   refine⟨fun q hq=>(by cases hq),?_,fun _=>hnm,fun s hs=>?_⟩
   ·
    show((bz f).map (·.1)).Pairwise _
    rw[List.pairwise_map]
    exact hso
   ·
    have:=hnm s hs
    unfold d8 at this
    simp only[Bool.and_eq_true,decide_eq_true_eq] at this
    omega
  ·
   obtain⟨p,hp,rfl⟩:=List.mem_map.1 (show x∈(bz f).map (·.2) from hx)
   exact h.rd _ _ (hmem p hp)
theorem vA {t:Ty}{f:Flds}(hg:gd t)(h:Tf t.fields f):okT t (ar f)=true∧rightD (ar f)=true:=by
 obtain⟨h1,h2,h3⟩:=hg.parts
 have:=sO h2 (fun g hg=>(h3 g hg).1) h
 rw[←h1] at this
 exact this
theorem mU {k n:Int}{s:Str}{ks:List Str}{ds:List Doc}(hk:k=4∨k=5∨k=6)(h:ee (.mk k n s ks ds)=true):ks=[]∧ds=[]∧s.length≤256∧(k=4→s=[]):=by
 have n1:¬(k=1∨k=2):=by omega
 have n2:¬k=3:=by omega
 have h':(if ks.length+ds.length>0 then false else if k=4 then decide (s=[]) else if k=5 then decide (s=[])&&(decide (n=0)||decide (n=1)) else if k=6 then decide (n=0)&&decide (s.length≤256) else false)=true:=by
  have e:ee (.mk k n s ks ds)=if k=1∨k=2 then decide (n=0)&&decide (s=[])&&decide (ks.length=ds.length)
   else if k=3 then decide (n=0)&&decide (s=[])&&decide (ks.length=0)
   else if ks.length+ds.length>0 then false else if k=4 then decide (s=[]) else if k=5 then decide (s=[])&&(decide (n=0)||decide (n=1)) else if k=6 then decide (n=0)&&decide (s.length≤256) else false:=rfl
  rw[e,if_neg n1,if_neg n2] at h
  exact h
 by_cases h0:ks.length+ds.length>0
 ·
  rw[if_pos h0] at h';cases h'
 rw[if_neg h0] at h'
 refine⟨List.eq_nil_of_length_eq_zero (by omega),List.eq_nil_of_length_eq_zero (by omega),?_⟩
 rcases hk with rfl|rfl|rfl
 ·
  simp at h';subst h';simp
 ·
  simp at h';obtain⟨rfl,_⟩:=h';simp
 ·
  simp at h';exact⟨h'.2,by omega⟩
theorem fy {t:Ty}{x:Doc}(hs:de t=true)(h:okT t x=true)(hr:rightD x=true):wD x≤257∧cR x=0∧dH x=true:=by
 rw[j7,Bool.and_eq_true,decide_eq_true_eq] at h
 have h1:=iI h.1
 unfold de at hs
 simp only[Bool.and_eq_true,decide_eq_true_eq] at hs
 have hk:x.kind=4∨x.kind=5∨x.kind=6:=by
  split at h1
  ·
   exact .inr (.inr h1)
  ·
   omega
 have h2:=((dO x).1 hr).1
 have hr':=hr
 obtain⟨k,n,s,ks,ds⟩:=x
 simp only[Doc.kind] at hk
 obtain⟨rfl,rfl,hl,_⟩:=mU hk h2
 refine⟨by simp[wD,dD,wDs];omega,?_,(eZ _).2 ⟨by simp[iR,fT],by simp[cr,cS],hr'⟩⟩
 rw[cR,if_neg (by omega)]
 simp[cRs]
end Go.V
end
section
namespace Go.V
abbrev Flt:=List Str×Int
def cM (g:Doc→List Str→List Flt):List Str→List Doc→List Str→List Flt
 |k::ks,d::ds,p=>g d (p++[k])++cM g ks ds p
 |_,_,_=>[]
def cU (it:Nat→Str)(g:Doc→List Str→List Flt):List Doc→Nat→List Str→List Flt
 |d::ds,i,p=>g d (p++[it i])++cU it g ds (i+1) p
 |[],_,_=>[]
def dL (fs:List Fld)(p:List Str):List Str→List Flt
 |[]=>[]
 |s::r=>(if pC s fs then [] else [(p++[s],10)])++dL fs p r
mutual
def aV (it:Nat→Str):Ty→Doc→List Str→List Flt
 |.mk k lo hi ns fs ts,d,p=>
  (if cy (.mk k lo hi ns fs ts) d=0 then [] else [(p,cy (.mk k lo hi ns fs ts) d)]) ++
  (if cy (.mk k lo hi ns fs ts) d=7 then []
   else if k=1 then bX it fs d p++dL fs p d.keys
   else if k=2 then hU it ts d p
   else if k=3 then hY it ts d p
   else [])
def bX (it:Nat→Str):List Fld→Doc→List Str→List Flt
 |[],_,_=>[]
 |.mk n o t::r,d,p=>(match dl n d.keys d.kids with
  |some x=>aV it t x (p++[n])
  |none=>if o then [] else [(p++[n],9)])++bX it r d p
def hU (it:Nat→Str):List Ty→Doc→List Str→List Flt
 |[],_,_=>[]
 |t::_,d,p=>cM (fun x q=>aV it t x q) d.keys d.kids p
def hY (it:Nat→Str):List Ty→Doc→List Str→List Flt
 |[],_,_=>[]
 |t::_,d,p=>cU it (fun x q=>aV it t x q) d.kids 0 p
end
theorem jR (it:Nat→Str)(t:Ty)(d:Doc)(p:List Str):aV it t d p=(if cy t d=0 then [] else [(p,cy t d)])++(if cy t d=7 then [] else if t.kind=1 then bX it t.fields d p++dL t.fields p d.keys else if t.kind=2 then hU it t.of d p else if t.kind=3 then hY it t.of d p else []):=by
 obtain⟨k,lo,hi,ns,fs,ts⟩:=t
 rw[aV]
 rfl
theorem qj {g:Doc→List Str→List Flt}{q:Doc→Prop}:∀{ks:List Str}{ds:List Doc}{p:List Str},ks.length=ds.length→(∀d∈ds,∀p,g d p=[]↔q d)→(cM g ks ds p=[]↔∀d∈ds,q d)
 |[],[],p,_,_=>by simp[cM]
 |[],_::_,_,h,_=>by simp at h
 |_::_,[],_,h,_=>by simp at h
 |k::ks,d::ds,p,h,hg=>by
  rw[cM,List.append_eq_nil_iff,hg d (by simp),qj (ks:=ks) (ds:=ds) (by simpa using h) (fun x hx=>hg x (by simp[hx]))]
  simp
theorem ql {it:Nat→Str}{g:Doc→List Str→List Flt}{q:Doc→Prop}:∀{ds:List Doc}{i:Nat}{p:List Str},(∀d∈ds,∀p,g d p=[]↔q d)→(cU it g ds i p=[]↔∀d∈ds,q d)
 |[],i,p,_=>by simp[cU]
 |d::ds,i,p,hg=>by
  rw[cU,List.append_eq_nil_iff,hg d (by simp),ql (ds:=ds) (fun x hx=>hg x (by simp[hx]))]
  simp
theorem rD {fs:List Fld}{p:List Str}:∀{ks:List Str},dL fs p ks=[]↔∀s∈ks,pC s fs=true
 |[]=>by simp[dL]
 |s::r=>by
  rw[dL,List.append_eq_nil_iff,rD (ks:=r)]
  cases h:pC s fs<;>simp[h]
theorem nZ {it:Nat→Str}{d:Doc}:∀{fs:List Fld}{p:List Str},(∀f∈fs,∀x∈d.kids,∀p,aV it f.ty x p=[]↔okT f.ty x=true)→(bX it fs d p=[]↔sJ fs d=true)
 |[],p,_=>by simp[bX,sJ]
 |.mk n o t::r,p,h=>by
  rw[bX,sJ,List.append_eq_nil_iff,Bool.and_eq_true,nZ (fs:=r) fun f hf=>h f (by simp[hf])]
  cases hk:dl n d.keys d.kids with
  |some x=>
   have:=h (.mk n o t) (by simp) x (jI hk) (p++[n])
   simp only[Fld.ty] at this
   simp only[this]
  |none=>cases o<;>simp
theorem mD {d:Doc}(h:rightD d=true)(hk:d.kind=1∨d.kind=2):d.keys.length=d.kids.length:=by
 have h1:=((dO d).1 h).1
 unfold ee at h1
 rw[if_pos hk] at h1
 simp only[Bool.and_eq_true,decide_eq_true_eq] at h1
 exact h1.2
theorem ov {t:Ty}{d:Doc}(h:cy t d≠7):if t.kind=7 then d.kind=6 else t.kind=d.kind:=by
 by_cases hc:if t.kind=7 then d.kind=6 else t.kind=d.kind
 ·
  exact hc
 ·
  unfold cy at h
  rw[if_neg hc] at h
  exact(h rfl).elim
theorem ux (it:Nat→Str)(t:Ty):∀(d:Doc)(p:List Str),rightD d=true→(aV it t d p=[]↔okT t d=true):=by
 induction t using Ty.ind with
 |h t ih1 ih2=>
 intro d p hd
 rw[jR,j7,List.append_eq_nil_iff,Bool.and_eq_true,decide_eq_true_eq]
 by_cases h0:cy t d=0
 case neg=>simp[h0]
 have hkids:=((dO d).1 hd).2.2
 have hk:=iI h0
 rw[if_pos h0,if_neg (by omega)]
 simp only[h0,true_and]
 by_cases k1:t.kind=1
 ·
  rw[if_pos k1,if_pos k1,List.append_eq_nil_iff,rD,nZ fun f hf x hx p=>ih1 f hf x p (hkids x hx),Bool.and_eq_true,List.all_eq_true]
 rw[if_neg k1,if_neg k1]
 by_cases k2:t.kind=2
 ·
  rw[if_pos k2,if_pos (.inl k2)]
  have hl:=mD hd (by rw[if_neg (by omega)] at hk;omega)
  cases ho:t.of with
  |nil=>simp[hU,qQ]
  |cons u r=>
   rw[hU,qQ,List.all_eq_true,qj hl fun x hx p=>ih2 u (by rw[ho];simp) x p (hkids x hx)]
 rw[if_neg k2]
 by_cases k3:t.kind=3
 ·
  rw[if_pos k3,if_pos (.inr k3)]
  cases ho:t.of with
  |nil=>simp[hY,qQ]
  |cons u r=>
   rw[hY,qQ,List.all_eq_true,ql fun x hx p=>ih2 u (by rw[ho];simp) x p (hkids x hx)]
 ·
  rw[if_neg k3,if_neg (by omega)]
  simp
def bad (l:List Flt):Prop:=∀x∈l,x.2≠0
theorem bad.app {l m:List Flt}(h:bad l)(k:bad m):bad (l++m):=fun x hx=>by
 rcases List.mem_append.1 hx with hx|hx
 ·
  exact h x hx
 ·
  exact k x hx
theorem bad.nil:bad []:=fun x hx=>by cases hx
theorem bad.one {p:List Str}{e:Int}(h:e≠0):bad [(p,e)]:=fun x hx=>by simp at hx;subst hx;exact h
theorem qV {g:Doc→List Str→List Flt}(h:∀d p,bad (g d p)):∀(ks:List Str)(ds:List Doc)(p:List Str),bad (cM g ks ds p)
 |[],_,_=>by rw[cM];exact bad.nil;simp
 |_::_,[],_=>by rw[cM];exact bad.nil;simp
 |k::ks,d::ds,p=>by rw[cM];exact(h _ _).app (qV h ks ds p)
theorem qW {it:Nat→Str}{g:Doc→List Str→List Flt}(h:∀d p,bad (g d p)):∀(ds:List Doc)(i:Nat)(p:List Str),bad (cU it g ds i p)
 |[],_,_=>by rw[cU];exact bad.nil
 |d::ds,i,p=>by rw[cU];exact(h _ _).app (qW h ds (i+1) p)
theorem qX {fs:List Fld}{p:List Str}:∀ks:List Str,bad (dL fs p ks)
 |[]=>bad.nil
 |s::r=>by
  rw[dL]
  refine bad.app ?_ (qX r)
  split
  ·
   exact bad.nil
  ·
   exact bad.one (by decide)
theorem nR {it:Nat→Str}{d:Doc}:∀{fs:List Fld}{p:List Str},(∀f∈fs,∀x p,bad (aV it f.ty x p))→bad (bX it fs d p)
 |[],p,_=>by rw[bX];exact bad.nil
 |.mk n o t::r,p,h=>by
  rw[bX]
  refine bad.app ?_ (nR fun f hf=>h f (by simp[hf]))
  split
  ·
   exact h (.mk n o t) (by simp) _ _
  ·
   split
   ·
    exact bad.nil
   ·
    exact bad.one (by decide)
theorem uk (it:Nat→Str)(t:Ty):∀(d:Doc)(p:List Str),bad (aV it t d p):=by
 induction t using Ty.ind with
 |h t ih1 ih2=>
 intro d p
 rw[jR]
 refine bad.app ?_ ?_
 ·
  split
  ·
   exact bad.nil
  ·
   rename_i h;exact bad.one h
 ·
  split
  ·
   exact bad.nil
  ·
   split
   ·
    exact(nR fun f hf x p=>ih1 f hf x p).app (qX _)
   ·
    split
    ·
     cases ho:t.of with
     |nil=>rw[hU];exact bad.nil
     |cons u r=>rw[hU];exact qV (fun x q=>ih2 u (by rw[ho];simp) x q) _ _ _
    ·
     split
     ·
      cases ho:t.of with
      |nil=>rw[hY];exact bad.nil
      |cons u r=>rw[hY];exact qW (fun x q=>ih2 u (by rw[ho];simp) x q) _ _ _
     ·
      exact bad.nil
end Go.V
end
section
set_option maxHeartbeats 4000000
namespace Go.V
open Go Go.Proofs
attribute [local irreducible] W bO WD aO yl aS bW
section
variable (Γ:Glo Tryz.prog)
attribute [local simp] veq bP ei V.del
def dM (x:Flt):List Val:=[sls aW x.1,.int .i64 x.2]
theorem xi (x:Flt):(dM x).length=2:=rfl
theorem dS:∀l:List Flt,(row dM l).length=l.length*2
 |[]=>rfl
 |x::l=>by rw[bt,List.length_append,dS l,xi,List.length_cons];omega
theorem bh:∀l:List Flt,aE (row dM l)=true
 |[]=>rfl
 |x::l=>by rw[bt];simp[dM,aE,bh l,Val.closed]
theorem ef:∀l:List Flt,ai (row dM l)=true
 |[]=>rfl
 |x::l=>by rw[bt];simp[dM,ef l]
@[simp] theorem Hg (c:List Val)(n:Nat)(k:Option Nat)(e:Int):dB Tryz.prog 77 [(0,.sl c n k),(1,.int .i64 e)]=some [.sl c n k,.int .i64 e]:=by kernel_rfl
@[simp] theorem GN (c:List Val)(n:Nat)(k:Option Nat)(e:Int)(h:Heap)(i:Nat):bG Tryz.prog 141 1 [(0,.ag [.sl c n k,.int .i64 e])] h i=some (.so i 0 1 (some 1),V.put h i (.cells [.sl c n k,.int .i64 e] 77 false)):=by kernel_rfl
theorem f142 (fs:List Flt)(p:List Str)(e:Int)(hb:fs.length<1000000000):CallOk Tryz.prog Γ 142 [sls aW p,.int .i64 e,.pr 0 0] (gH dM 1 77 fs++[(0,.cells [gV 1 fs] 141 false)]) 2 true (.tp []) (gH dM 2 77 (fs++[(p,e)])++[(0,.cells [gV 2 (fs++[(p,e)])] 141 false)]) 3:=by
 rw[oK,jT]
 rcases eO dM 2 dS bh ef 1 77 fs with ⟨rfl,e1,e2,e3⟩|⟨n,cs,hn,hcs,e1,e2,e3,c1,c2,c3⟩<;>rw[e1,e2]<;>simp only[List.nil_append,List.cons_append]
 ·
  refine ba Tryz.func142 rfl (by simp[Tryz.f142]) (by omega) (by simp[aR,aa]) (by simp[bc,cz,aR,aa,dM]) ?_
  intro a hl ha
  replace hl:a.length=11:=hl
  have g0:=ha 0 _ rfl
  have g1:=ha 1 _ rfl
  have g2:=ha 2 _ rfl
  clear ha
  repeat' first|refine G1 ?_|(refine G2 ?_ ?_<;>intro hc hd<;>try exact hd.elim)|fail
  exact⟨by simp,[(7,2)],.tp [],[(7,.cells [sls aW p,.int .i64 e] 77 true),(0,.cells [.so 7 0 1 none] 141 false)],_,_,by simp,by simp,by simp[Tryz.f142],by simp,by simp[dM],by (repeat (first|exact aU|refine aP (by simp[V.get, *]) ?_)),Clo.refl _ _⟩
 ·
  have hn2:(n+1)*32≤140737488355328:=by unfold Hid at hn;omega
  have hnl:¬(n+1)*2≤n*2:=by omega
  have hta:List.take (n*2) cs=cs:=List.take_of_length_le (by omega)
  unfold Hid at hn hcs
  rw[←hn,←hcs]
  have hlo:=fun N=>aD (N:=N) _ c2
  clear e1 e2 e3 hn hcs
  refine ba Tryz.func142 rfl (by simp[Tryz.f142]) (by omega) (by simp[aR,aa]) (by simp[bc,cz,aR,aa,dM,hlo]) ?_
  intro a hl ha
  replace hl:a.length=11:=hl
  have g0:=ha 0 _ rfl
  have g1:=ha 1 _ rfl
  have g2:=ha 2 _ rfl
  clear ha
  repeat' first|refine G1 ?_|(refine G2 ?_ ?_<;>intro hc hd<;>try exact hd.elim)|fail
  exact⟨by simp,[(7,2)],.tp [],[(7,.cells (cs++[sls aW p,.int .i64 e]) 77 true),(0,.cells [.so 7 0 (n+1) none] 141 false)],_,_,by simp,by simp,by simp[Tryz.f142],by simp,by simp[dM,aJ, *],by (repeat (first|exact aU|refine aP (by simp[V.get, *]) ?_)),Clo.refl _ _⟩
end
end Go.V
end
section
set_option maxHeartbeats 4000000
namespace Go.V
open Go Go.Proofs
attribute [local irreducible] W bO WD aO yl aS bW
section
variable (Γ:Glo Tryz.prog)
mutual
theorem uM {τ:Nat→Nat}{M:Nat}(hτ:∀i,i<M→τ i=i):∀v:Val,aR M v=true→au τ v=v
 |.bool _,_|.int _ _,_|.str _,_|.nilp,_|.nils,_|.nilm,_|.nilf,_|.nili,_|.sle,_|.jk _,_=>by simp[au]
 |.pp cs,h=>by simp only[aR,au] at *;rw[gi hτ cs h]
 |.pr i o,h=>by simp only[aR,au,decide_eq_true_eq] at *;rw[hτ i h]
 |.sl cs n k,h=>by simp only[aR,au] at *;rw[gi hτ cs h]
 |.so i o n k,h=>by simp only[aR,au,decide_eq_true_eq] at *;rw[hτ i h]
 |.mp i,h=>by simp only[aR,au,decide_eq_true_eq] at *;rw[hτ i h]
 |.fn f us cs,h=>by simp only[aR,au,Bool.and_eq_true] at *;rw[gi hτ us h.1,gi hτ cs h.2]
 |.ifc t v,h=>by simp only[aR,au] at *;rw[uM hτ v h]
 |.ag cs,h=>by simp only[aR,au] at *;rw[gi hτ cs h]
 |.tp cs,h=>by simp only[aR,au] at *;rw[gi hτ cs h]
theorem gi {τ:Nat→Nat}{M:Nat}(hτ:∀i,i<M→τ i=i):∀l:List Val,aa M l=true→bu τ l=l
 |[],_=>rfl
 |v::l,h=>by simp only[aa,bu,Bool.and_eq_true] at *;rw[uM hτ v h.1,gi hτ l h.2]
end
mutual
theorem rA {M N:Nat}(hMN:M≤N):∀v:Val,aR M v=true→aR N v=true
 |.bool _,_|.int _ _,_|.str _,_|.nilp,_|.nils,_|.nilm,_|.nilf,_|.nili,_|.sle,_|.jk _,_=>by simp[aR]
 |.pp cs,h=>by simp only[aR] at *;exact fg hMN cs h
 |.pr i o,h=>by simp only[aR,decide_eq_true_eq] at *;omega
 |.sl cs n k,h=>by simp only[aR] at *;exact fg hMN cs h
 |.so i o n k,h=>by simp only[aR,decide_eq_true_eq] at *;omega
 |.mp i,h=>by simp only[aR,decide_eq_true_eq] at *;omega
 |.fn f us cs,h=>by simp only[aR,Bool.and_eq_true] at *;exact⟨fg hMN us h.1,fg hMN cs h.2⟩
 |.ifc t v,h=>by simp only[aR] at *;exact rA hMN v h
 |.ag cs,h=>by simp only[aR] at *;exact fg hMN cs h
 |.tp cs,h=>by simp only[aR] at *;exact fg hMN cs h
theorem fg {M N:Nat}(hMN:M≤N):∀l:List Val,aa M l=true→aa N l=true
 |[],_=>rfl
 |v::l,h=>by simp only[aa,Bool.and_eq_true] at *;exact⟨rA hMN v h.1,fg hMN l h.2⟩
end
def Bx (o:Nat)(fs:List Flt):Heap:=[(0,.cells [.fn 210 [] [.pr 3 0,.pr 2 0,.pr 0 0,.pr 1 0]] 255 false),(1,.cells [.fn 207 [] []] 256 false),(2,.cells [.fn 208 [] [.pr 0 0,.pr 1 0,.pr 3 0]] 255 false),(3,.cells [.fn 142 [] [.pr 4 0]] 213 false),(4,.cells [gV o fs] 141 false)]
def Hc (o:Nat)(fs:List Flt):Heap:=gH dM o 77 fs++Bx o fs
theorem ay {τ:Nat→Nat}(hτ:∀i,i<5→τ i=i)(o:Nat)(fs:List Flt):bF τ (Hc o fs)=Hc (τ o) fs:=by
 unfold Hc Bx
 rw[ae,oP dM τ bh]
 simp[bF,b9,bu,au,oQ,hτ]
theorem d7 {o:Nat}(h:5≤o)(fs:List Flt):dZ (Hc o fs)=true:=ge dM (by simp[Bx];omega) (by simp[Bx])
theorem gZ {N o:Nat}(h:5≤N)(ho:o<N)(fs:List Flt):bc N (Hc o fs)=true:=by
 refine Ab dM bh ho ?_
 have:=sI (l:=fs) ho
 simp[Bx,bc,cz,aa,aR,this]
 omega
theorem vz {N o:Nat}(h:5≤N)(ho:o<N)(fs:List Flt):cm N (Hc o fs)=true:=by
 refine wA dM bh ho ?_
 have:=sI (l:=fs) ho
 simp[Bx,cm,fU,aa,aR,this]
 omega
theorem CallOk.hc {f:FuncId}{vs:List Val}{r:Val}{fs gs:List Flt}(hk:CallOk Tryz.prog Γ f vs (Hc 5 fs) 6 true r (Hc 6 gs) 7)(hv:aa 5 vs=true)(hr:r.closed=true)(o N:Nat)(ho:5≤o)(hN:o<N):CallOk Tryz.prog Γ f vs (Hc o fs) N true r (Hc N gs) (N+1):=by
 have hv6:aa 6 vs=true:=by
  have key:∀l:List Val,aa 5 l=true→aa 6 l=true:=fun l h=>fg (by omega) l h
  exact key vs hv
 have:=hk.ren [0,1,2,3,4,o] N rfl (by rw[hv6,vz (by omega) (by omega)];rfl) (by simp;omega) (d7 (by omega) gs)
 have hτ:∀i,i<5→tau [0,1,2,3,4,o] N i=i:=by
  intro i hi
  unfold tau
  rw[if_pos (by simp;omega)]
  match i,hi with
  |0,_|1,_|2,_|3,_|4,_=>rfl
 rw[gi hτ vs hv,ay hτ,ay hτ,cg _ r hr] at this
 have e1:tau [0,1,2,3,4,o] N 5=o:=rfl
 have e2:tau [0,1,2,3,4,o] N 6=N:=by simp[tau]
 rw[e1,e2] at this
 have e3:7-6+N=N+1:=by omega
 rwa[e3] at this
theorem A6 {h1 r:Heap}{N N' o:Nat}{t:TypeId}{α:Type}{c:α→List Val}{l:List α}(ho:N≤o∧o<N')(hr:∀i,(get r i).isSome→(get h1 i).isSome∨(N≤i∧i<N')):∀i,(get (gH c o t l++r) i).isSome→(get h1 i).isSome∨(N≤i∧i<N'):=by
 intro i hi
 by_cases e:o=i
 ·
  subst e;exact .inr ho
 ·
  rw[em c e] at hi;exact hr i hi
theorem C4 {h r:Heap}{o:Nat}{t:TypeId}{α:Type}{c:α→List Val}{l:List α}(hr:∀i b,get r i=some b→get h i=some b):∀i b,get (gH c o t l++r) i=some b→get (gH c o t l++h) i=some b:=by
 intro i b hb
 rw[eC] at hb ⊢
 cases hg:get (gH c o t l) i with
 |some b'=>rw[hg] at hb;exact hb
 |none=>rw[hg] at hb;simp only[Option.none_or] at hb ⊢;exact hr i b hb
theorem f142h (fs:List Flt)(p:List Str)(e:Int)(hb:fs.length<1000000000):CallOk Tryz.prog Γ 142 [sls aW p,.int .i64 e,.pr 4 0] (Hc 5 fs) 6 true (.tp []) (Hc 6 (fs++[(p,e)])) 7:=by
 have h1:=(f142 Γ fs p e hb).ren [4,5] 6 rfl (by rw[wA dM bh (by omega) (by have:=sI (N:=2) (o:=1) (l:=fs) (by omega);simp[cm,fU,aa,this])];simp[aa,aR]) (by simp) (ge dM (by simp) (by simp))
 simp only[ae,oP dM _ bh] at h1
 simp[bF,b9,bu,au,oQ,tau,aJ] at h1
 refine h1.frame (hm:=Hc 6 (fs++[(p,e)])) ?_ ?_ ?_
 ·
  exact C4 (by (repeat (first|exact aU|refine aP (by simp[V.get,Bx]) ?_)))
 ·
  exact A6 (by omega) (by (repeat (first|exact kF|refine jH (by left;rw[em dM (by omega)];simp[V.get]) ?_)))
 ·
  intro i b hb
  unfold Hc at hb
  rw[eC] at hb
  rw[eC]
  cases hg:get (gH dM 6 77 (fs++[(p,e)])) i with
  |some b'=>rw[hg] at hb;left;exact hb
  |none=>
   rw[hg] at hb
   simp only[Option.none_or] at hb ⊢
   have h6:i≠6:=by
    intro e6
    subst e6
    rw[jT] at hg
    simp[V.get] at hg
   simp only[Bx,V.get] at hb ⊢
   by_cases h4:i=4
   ·
    subst h4
    simp at hb ⊢
    exact .inl hb
   ·
    right
    have h5:i<5:=by
     rcases Nat.lt_or_ge i 5 with h|h
     ·
      exact h
     ·
      rw[if_neg (by omega),if_neg (by omega),if_neg (by omega),if_neg (by omega),if_neg (by omega)] at hb;cases hb
    refine⟨?_,?_⟩
    ·
     unfold Hc
     rw[em dM (by omega)]
     simp only[Bx,V.get]
     rcases(by omega:i=0∨i=1∨i=2∨i=3) with rfl|rfl|rfl|rfl<;>simpa using hb
    ·
     rw[em dM (by omega)]
     simp[V.get]
     omega
end
end Go.V
end
