/-
  A part of a proof: L17 L18 A11 A12.
-/
import Derived.Test.YtkfjenbfbendhaaGreatDoorPk15
import Derived.Test.YtkfjenbfbendhaaGreatDoorPk21
import Derived.Test.YtkfjenbfbendhaaGreatDoorPk22
import Derived.Test.YtkfjenbfbendhaaGreatDoorPk24
import Derived.Test.YtkfjenbfbendhaaGreatDoorPk25
set_option linter.unusedSimpArgs false
set_option linter.unusedVariables false
section
set_option maxHeartbeats 4000000
namespace Go.V
open Go Go.Proofs
attribute [local irreducible] W bM WD aO yl aU bU
section
variable (Γ:Glo Tryz.prog)
attribute [local simp] veq ee
theorem f70a (r:Ty)(s:Lns)(R:Ty)(e:Int)(hk:s.kind=2)(h:PureOk Tryz.prog Γ 125 [.ag (cTy r),.ag (aL s)] (bt R e)):PureOk Tryz.prog Γ 70 [.ag (cTy r),.ag (aL s)] (bt R e):=by
 unfold bt at *
 have hta:List.take 16 (aL s)=aL s:=List.take_of_length_le (by rw[fB];omega);refine Y2 51 Tryz.func70 rfl rfl fun a hl g0 g1=>?_
 refine GG ?_;all_goals (try (refine aC h ?_))
 refine GG ?_;exact⟨by simp,.tp [.ag (cTy R),.int .i64 e],1,by simp[Tryz.f70,V.get,V.put,aY, *],aG (by simp[Val.closed,aE])⟩
theorem f70b (r:Ty)(s:Lns)(hb:wT r<big)(hg:gd r)(hk:¬s.kind=2)(h:iQ s.kind=none):PureOk Tryz.prog Γ 70 [.ag (cTy r),.ag (aL s)] (bt r 1):=by
 have h1:=f126n Γ r s.kind h;have h2:=f127 Γ r s.a hb;unfold nE at h2;rw[hg.fieldR] at h2;generalize (aj s.a r.fields).isSome=B at *
 generalize (aj s.a r.fields).getD lL=G at *
 unfold bt;clear h hb hg;refine Y2 51 Tryz.func70 rfl rfl fun a hl g0 g1=>?_
 refine GG ?_;all_goals (try (refine aC h1 ?_))
 refine GG ?_;all_goals (try (refine aC h2 ?_))
 refine GG ?_;exact⟨by simp,.tp [.ag (cTy r),.int .i64 1],1,by simp[Tryz.f70,V.get,V.put,aY, *],aG (by simp[Val.closed,aE])⟩
theorem f70c (r:Ty)(s:Lns)(K:Nat)(hb:wT r<big)(hg:gd r)(hk:¬s.kind=2)(h:iQ s.kind=some K)(hf:aj s.a r.fields=none):PureOk Tryz.prog Γ 70 [.ag (cTy r),.ag (aL s)] (bt r 9):=by
 have h1:=f126s Γ r s.kind K h;have h2:=f127 Γ r s.a hb;unfold nE at h2;rw[hg.fieldR,hf] at h2;simp only[Option.isSome_none,Option.getD_none] at h2;unfold bt;clear h hb hg hf;refine Y2 51 Tryz.func70 rfl rfl fun a hl g0 g1=>?_
 refine GG ?_;all_goals (try (refine aC h1 ?_))
 refine GG ?_;all_goals (try (refine aC h2 ?_))
 refine GG ?_;exact⟨by simp,.tp [.ag (cTy r),.int .i64 9],1,by simp[Tryz.f70,V.get,V.put,aY, *],aG (by simp[Val.closed,aE])⟩
theorem f70d (r:Ty)(s:Lns)(K:Nat)(f:Fld)(hb:wT r<big)(hg:gd r)(hk:¬s.kind=2)(hk1:¬s.kind=1)(h:iQ s.kind=some K)(hf:aj s.a r.fields=some f)(ho:f.opt=true):PureOk Tryz.prog Γ 70 [.ag (cTy r),.ag (aL s)] (bt r 7):=by
 have h1:=f126s Γ r s.kind K h;have h2:=f127 Γ r s.a hb;unfold nE at h2;rw[hg.fieldR,hf] at h2;simp only[Option.isSome_some,Option.getD_some] at h2;unfold bt;clear h hb hg hf;refine Y2 51 Tryz.func70 rfl rfl fun a hl g0 g1=>?_
 refine GG ?_;all_goals (try (refine aC h1 ?_))
 refine GG ?_;all_goals (try (refine aC h2 ?_))
 refine GG ?_;exact⟨by simp,.tp [.ag (cTy r),.int .i64 7],1,by simp[Tryz.f70,V.get,V.put,aY, *],aG (by simp[Val.closed,aE])⟩
theorem f70e (r:Ty)(s:Lns)(K:Nat)(f:Fld)(R:Ty)(e:Int)(hb:wT r<big)(hg:gd r)(hk:¬s.kind=2)(h:iQ s.kind=some K)(hf:aj s.a r.fields=some f)(ho:f.opt=false∨s.kind=1)(hp:bS Tryz.prog K=true)(h3:PureOk Tryz.prog Γ K [.ag (cTy r),.ag (ad f),.ag (aL s)] (bt R e)) :
  PureOk Tryz.prog Γ 70 [.ag (cTy r),.ag (aL s)] (bt R e):=by
 have h1:=f126s Γ r s.kind K h;have h2:=f127 Γ r s.a hb;unfold nE at h2;rw[hg.fieldR,hf] at h2;simp only[Option.isSome_some,Option.getD_some] at h2;unfold bt at *
 have hta:List.take 16 (aL s)=aL s:=List.take_of_length_le (by rw[fB];omega);have htf:List.take 8 (ad f)=ad f:=List.take_of_length_le (by rw[jb];omega);clear h hb hg hf;cases hq:f.opt with
 |false=>
  clear ho;refine Y2 51 Tryz.func70 rfl rfl fun a hl g0 g1=>?_
  refine GG ?_;all_goals (try (refine aC h1 ?_))
  refine GG ?_;all_goals (try (refine aC h2 ?_))
  refine GG ?_;refine aC (hp:=hp) h3 ?_;refine GG ?_;exact⟨by simp,.tp [.ag (cTy R),.int .i64 e],1,by simp[Tryz.f70,V.get,V.put,aY, *],aG (by simp[Val.closed,aE])⟩
 |true=>
  have hk1:s.kind=1:=by
   rcases ho with h|h
   ·rw[hq] at h;cases h
   ·exact h
  rw[hk1] at h1;clear ho;refine Y2 51 Tryz.func70 rfl rfl fun a hl g0 g1=>?_
  refine GG ?_;all_goals (try (refine aC h1 ?_))
  refine GG ?_;all_goals (try (refine aC h2 ?_))
  refine GG ?_;refine aC (hp:=hp) h3 ?_;refine GG ?_;exact⟨by simp,.tp [.ag (cTy R),.int .i64 e],1,by simp[Tryz.f70,V.get,V.put,aY, *],aG (by simp[Val.closed,aE])⟩
def FP:Except Int Ty→Ty→Int→Prop
 |.ok t,R,e=>e=0∧R=t
 |.error e',_,e=>e=e'∧e≠0
def GA (l:List Lns):Except (Nat×Int) Ty→Ty×Int×Int
 |.ok u=>(u,l.length,0)
 |.error e=>(zeroTy,e.1,e.2)
def wC (l:List Lns)(t:Ty):Prop:=PureOk Tryz.prog Γ 30 [.ag (cTy t),sls aL l] (kL (GA l (bO l t 0)).1 (GA l (bO l t 0)).2.1 (GA l (bO l t 0)).2.2)
theorem f70 (H:fQ Γ)(s:Lns)(H30:∀t,gd t→wC Γ s.subs t)(r:Ty)(hg:gd r)(hb:wN s<30000000000):∃R e,PureOk Tryz.prog Γ 70 [.ag (cTy r),.ag (aL s)] (bt R e)∧FP (fl s r) R e:=by
 have hr:=qC hg.right;have hbr:wT r<big:=by unfold big;omega
 have hR:∀n,fieldR r n=aj n r.fields:=hg.fieldR;by_cases k2:s.kind=2
 ·have h1:=f125 Γ H r s (by unfold big;omega) hg;have hst:fl s r=if dA s.a=false then .error 1 else if (fieldR r s.a).isSome then .error 5 else if eQ s.ty s.doc=0 then .ok (dv r (.mk s.a false s.ty)) else .error (eQ s.ty s.doc):=by
   obtain⟨k,a,b,ty,d,sw,subs⟩:=s;simp only[Lns.kind,Lns.a,Lns.ty,Lns.doc] at *
   rw[fl,if_pos k2];rfl
  rw[hst,hR];by_cases hn:dA s.a=false
  ·rw[if_pos hn] at h1 ⊢;exact⟨r,1,f70a Γ r s r 1 k2 h1,rfl,by decide⟩
  rw[if_neg hn] at h1 ⊢;by_cases hf:(aj s.a r.fields).isSome=true
  ·rw[if_pos hf] at h1 ⊢;exact⟨r,5,f70a Γ r s r 5 k2 h1,rfl,by decide⟩
  rw[if_neg hf] at h1 ⊢;refine⟨_,_,f70a Γ r s _ _ k2 h1,?_⟩;split
  ·rename_i h;exact⟨h,rfl⟩
  ·rename_i h;exact⟨rfl,h⟩
 cases hK:iQ s.kind with
 |none=>
  have hst:fl s r=.error 1:=by
   obtain⟨k,a,b,ty,d,sw,subs⟩:=s;simp only[Lns.kind,Lns.a,Lns.ty,Lns.doc] at *
   rw[fl,if_neg k2,if_neg];unfold iQ at hK;split at hK
   ·cases hK
   ·split at hK
    ·cases hK
    ·omega
  rw[hst];exact⟨r,1,f70b Γ r s hbr hg k2 hK,rfl,by decide⟩
 |some K=>
  have hkk:s.kind=1∨(3≤s.kind∧s.kind≤10):=by
   unfold iQ at hK;split at hK
   ·left;assumption
   ·split at hK
    ·right;assumption
    ·cases hK
  cases hf:aj s.a r.fields with
  |none=>
   have hst:fl s r=.error 9:=by
    obtain⟨k,a,b,ty,d,sw,subs⟩:=s;simp only[Lns.kind,Lns.a,Lns.ty,Lns.doc] at *
    rw[fl,if_neg k2,if_pos hkk,hR,hf]
   rw[hst];exact⟨r,9,f70c Γ r s K hbr hg k2 hK hf,rfl,by decide⟩
  |some f=>
   have hfw:=fy (cY hf).2;have hty:=(hg.fld hf).2.2;by_cases ho:f.opt=true∧s.kind≠1
   ·have hst:fl s r=.error 7:=by
     obtain⟨k,a,b,ty,d,sw,subs⟩:=s;simp only[Lns.kind,Lns.a,Lns.ty,Lns.doc] at *
     rw[fl,if_neg k2,if_pos hkk,hR,hf];simp only;rw[if_pos ho]
    rw[hst];exact⟨r,7,f70d Γ r s K f hbr hg k2 ho.2 hK hf ho.1,rfl,by decide⟩
   have ho':f.opt=false∨s.kind=1:=by
    by_cases h1:s.kind=1
    ·exact .inr h1
    ·left;cases hq:f.opt with
     |false=>rfl
     |true=>exact(ho ⟨hq,h1⟩).elim
   have hgo:∀R e,bS Tryz.prog K=true→PureOk Tryz.prog Γ K [.ag (cTy r),.ag (ad f),.ag (aL s)] (bt R e)→PureOk Tryz.prog Γ 70 [.ag (cTy r),.ag (aL s)] (bt R e):=fun R e hp h=>f70e Γ r s K f R e hbr hg k2 hK hf ho' hp h
   have hst:fl s r=(if s.kind=1 then
     if dA s.b=false then .error 1 else if (aj s.b r.fields).isSome then .error 5 else .ok (dv (bE r s.a) (.mk s.b f.opt f.ty))
    else if s.kind=3 then
     if eqT f.ty s.ty=false then .error 7 else if eQ s.ty s.doc=0 then .ok (bE r s.a) else .error (eQ s.ty s.doc)
    else if s.kind=4 then
     if f.ty.kind≠1 then .error 7 else
     match aj s.b f.ty.fields with
     |none=>.error 9
     |some g=>if g.opt then .error 7 else if (aj s.b r.fields).isSome then .error 5 else .ok (dv (eq r s.a (bE f.ty s.b)) g)
    else if s.kind=5 then
     match aj s.b r.fields with
     |none=>.error 9
     |some g=>if g.opt=true∨f.ty.kind≠1∨s.a=s.b then .error 7 else
      if (aj s.b f.ty.fields).isSome then .error 5 else .ok (bE (eq r s.a (dv f.ty g)) s.b)
    else if s.kind=6 then
     if eG f.ty then .ok (eq r s.a (.mk 3 1 1 [] [] [f.ty])) else .error 7
    else if s.kind=7 then
     match f.ty with
     |.mk 3 1 1 _ _ (t::_)=>if eG t then .ok (eq r s.a t) else .error 7
     |_=>.error 7
    else if s.kind=8 then
     if f.ty.kind≠4 then .error 7 else if jq s.swaps f.ty=0 then .ok r else .error (jq s.swaps f.ty)
    else if s.kind=9 then
     if f.ty.kind≠1 then .error 7 else
     match bO s.subs f.ty 0 with
     |.ok t=>.ok (eq r s.a t)
     |.error e=>.error e.2
    else
     match f.ty with
     |.mk 2 lo hi ns fs (t::_)=>if t.kind≠1 then .error 7 else
      match bO s.subs t 0 with
      |.ok u=>.ok (eq r s.a (.mk 2 lo hi ns fs [u]))
      |.error e=>.error e.2
     |_=>.error 7):=by
    obtain⟨k,a,b,ty,d,sw,subs⟩:=s;simp only[Lns.kind,Lns.a,Lns.b,Lns.ty,Lns.doc,Lns.swaps,Lns.subs] at *
    rw[fl,if_neg k2,if_pos hkk,hR,hf];simp only;rw[if_neg ho];simp only[hR];rfl
   rw[hst];clear hst;have hbb:3*wT r+wN s+2*wT f.ty+99<big:=(by unfold big;omega);have hbs:wT r+wN s+wT f.ty+9<big:=(by unfold big;omega);have hKn:∀n:Nat,s.kind=(n:Int)→3≤n→K=n+178:=fun n hn h3=>by unfold iQ at hK;rw[hn,if_neg (by omega),if_pos ⟨by omega,by omega⟩] at hK;simp at hK;omega
   by_cases k1:s.kind=1
   ·have hK1:K=180:=(by unfold iQ at hK;rw[if_pos k1] at hK;simp at hK;exact hK.symm);subst hK1;have h:=f180 Γ r f s hbs hg;rw[hR] at h;rw[if_pos k1];by_cases c1:dA s.b=false
    ·rw[if_pos c1] at h ⊢;exact⟨r,1,hgo _ _ (by kernel_rfl) h,rfl,by decide⟩
    rw[if_neg c1] at h ⊢;by_cases c2:(aj s.b r.fields).isSome=true
    ·rw[if_pos c2] at h ⊢;exact⟨r,5,hgo _ _ (by kernel_rfl) h,rfl,by decide⟩
    rw[if_neg c2] at h ⊢;exact⟨_,0,hgo _ _ (by kernel_rfl) h,rfl,rfl⟩
   rw[if_neg k1];by_cases k3:s.kind=3
   ·have hK1:=hKn 3 k3 (by omega);subst hK1;have h:=f181 Γ H r f s hbs;rw[if_pos k3];by_cases c1:eqT f.ty s.ty=false
    ·rw[if_pos c1] at h ⊢;exact⟨r,7,hgo _ _ (by kernel_rfl) h,rfl,by decide⟩
    rw[if_neg c1] at h ⊢;refine⟨_,_,hgo _ _ (by kernel_rfl) h,?_⟩;split
    ·rename_i h;exact⟨h,rfl⟩
    ·rename_i h;exact⟨rfl,h⟩
   rw[if_neg k3];by_cases k4:s.kind=4
   ·have hK1:=hKn 4 k4 (by omega);subst hK1;have h:=f182 Γ r f s hbs hg hf;rw[if_pos k4];by_cases c1:f.ty.kind=1;case neg=>rw[if_neg c1] at h;rw[if_pos c1];exact⟨r,7,hgo _ _ (by kernel_rfl) h,rfl,by decide⟩
    rw[if_pos c1] at h;rw[if_neg (fun h=>h c1)];cases hg0:aj s.b f.ty.fields with
    |none=>rw[hg0] at h;exact⟨r,9,hgo _ _ (by kernel_rfl) h,rfl,by decide⟩
    |some g=>
     rw[hg0] at h;simp only at h ⊢;by_cases c2:g.opt=true
     ·rw[if_pos c2] at h ⊢;exact⟨r,7,hgo _ _ (by kernel_rfl) h,rfl,by decide⟩
     rw[if_neg c2] at h ⊢;by_cases c3:(aj s.b r.fields).isSome=true
     ·rw[if_pos c3] at h ⊢;exact⟨r,5,hgo _ _ (by kernel_rfl) h,rfl,by decide⟩
     rw[if_neg c3] at h ⊢;exact⟨_,0,hgo _ _ (by kernel_rfl) h,rfl,rfl⟩
   rw[if_neg k4];by_cases k5:s.kind=5
   ·have hK1:=hKn 5 k5 (by omega);subst hK1;have h:=f183 Γ r f s hbb hg hf;rw[if_pos k5];cases hg0:aj s.b r.fields with
    |none=>rw[hg0] at h;exact⟨r,9,hgo _ _ (by kernel_rfl) h,rfl,by decide⟩
    |some g=>
     rw[hg0] at h;simp only at h ⊢;by_cases c2:g.opt=true∨f.ty.kind≠1∨s.a=s.b
     ·rw[if_pos c2] at h ⊢;exact⟨r,7,hgo _ _ (by kernel_rfl) h,rfl,by decide⟩
     rw[if_neg c2] at h ⊢;by_cases c3:(aj s.b f.ty.fields).isSome=true
     ·rw[if_pos c3] at h ⊢;exact⟨r,5,hgo _ _ (by kernel_rfl) h,rfl,by decide⟩
     rw[if_neg c3] at h ⊢;exact⟨_,0,hgo _ _ (by kernel_rfl) h,rfl,rfl⟩
   rw[if_neg k5];by_cases k6:s.kind=6
   ·have hK1:=hKn 6 k6 (by omega);subst hK1;have h:=f184 Γ r f s hbb hg hf;rw[if_pos k6];by_cases c1:eG f.ty=true
    ·rw[if_pos c1] at h ⊢;exact⟨_,0,hgo _ _ (by kernel_rfl) h,rfl,rfl⟩
    rw[if_neg c1] at h ⊢;exact⟨r,7,hgo _ _ (by kernel_rfl) h,rfl,by decide⟩
   rw[if_neg k6];by_cases k7:s.kind=7
   ·have hK1:=hKn 7 k7 (by omega);subst hK1;have h:=f185 Γ r f s hbb hg hf;rw[if_pos k7];by_cases c1:f.ty.kind=3∧f.ty.lo=1∧f.ty.hi=1;case neg=>
     rw[if_neg c1] at h;refine⟨r,7,hgo _ _ (by kernel_rfl) h,?_⟩;split
     ·rename_i heq;rw[heq] at c1;exact(c1 ⟨rfl,rfl,rfl⟩).elim
     ·exact⟨rfl,by decide⟩
    rw[if_pos c1] at h;obtain⟨u,hu,_⟩:=yo hty (.inr c1.1);have hfe:f.ty=.mk 3 1 1 f.ty.names f.ty.fields [u]:=(by have:=Ty.eta f.ty;rw[c1.1,c1.2.1,c1.2.2,hu] at this;exact this);rw[hu] at h;rw[hfe];simp only at h ⊢;by_cases c2:eG u=true
    ·rw[if_pos c2] at h ⊢;exact⟨_,0,hgo _ _ (by kernel_rfl) h,rfl,rfl⟩
    rw[if_neg c2] at h ⊢;exact⟨r,7,hgo _ _ (by kernel_rfl) h,rfl,by decide⟩
   rw[if_neg k7];by_cases k8:s.kind=8
   ·have hK1:=hKn 8 k8 (by omega);subst hK1;have h:=f186 Γ r f s hbb;rw[if_pos k8];by_cases c1:f.ty.kind=4;case neg=>rw[if_neg c1] at h;rw[if_pos c1];exact⟨r,7,hgo _ _ (by kernel_rfl) h,rfl,by decide⟩
    rw[if_pos c1] at h;rw[if_neg (fun h=>h c1)];refine⟨_,_,hgo _ _ (by kernel_rfl) h,?_⟩;split
    ·rename_i h;exact⟨h,rfl⟩
    ·rename_i h;exact⟨rfl,h⟩
   rw[if_neg k8];by_cases k9:s.kind=9
   ·have hK1:=hKn 9 k9 (by omega);subst hK1;have h:=f187 Γ r f s _ _ _ (by unfold big;omega) hg (fun hk=>H30 f.ty ⟨hty,hk⟩);rw[if_pos k9];by_cases c1:f.ty.kind=1;case neg=>rw[if_neg c1] at h;rw[if_pos c1];exact⟨r,7,hgo _ _ (by kernel_rfl) h,rfl,by decide⟩
    rw[if_pos c1] at h;rw[if_neg (fun h=>h c1)];refine⟨_,_,hgo _ _ (by kernel_rfl) h,?_⟩;cases hs:bO s.subs f.ty 0 with
    |ok t=>exact⟨rfl,rfl⟩
    |error e=>exact⟨rfl,vn _ _ _ _ hs⟩
   rw[if_neg k9];have k10:s.kind=10:=(by omega);have hK1:=hKn 10 k10 (by omega);subst hK1;by_cases c1:f.ty.kind=2;case neg=>
    have h:=f188 Γ r f s f.ty f.ty 0 0 (by unfold big;omega) hg (fun h=>(c1 h).elim) (fun h=>(c1 h).elim);rw[if_neg c1] at h;refine⟨r,7,hgo _ _ (by kernel_rfl) h,?_⟩;split
    ·rename_i heq;rw[heq] at c1;exact(c1 rfl).elim
    ·exact⟨rfl,by decide⟩
   obtain⟨u,hu,hu2⟩:=yo hty (.inl c1);have h:=f188 Γ r f s u _ _ _ (by unfold big;omega) hg (fun _=>hu) (fun _ hk=>H30 u ⟨hu2,hk⟩);rw[if_pos c1] at h;have hfe:f.ty=.mk 2 f.ty.lo f.ty.hi f.ty.names f.ty.fields [u]:=(by have:=Ty.eta f.ty;rw[c1,hu] at this;exact this);rw[hfe];simp only;by_cases c2:u.kind=1;case neg=>rw[if_neg c2] at h;rw[if_pos c2];exact⟨r,7,hgo _ _ (by kernel_rfl) h,rfl,by decide⟩
   rw[if_pos c2] at h;rw[if_neg (fun h=>h c2)];refine⟨_,_,hgo _ _ (by kernel_rfl) h,?_⟩;cases hs:bO s.subs u 0 with
   |ok t=>exact⟨rfl,rfl⟩
   |error e=>exact⟨rfl,vn _ _ _ _ hs⟩
@[simp] theorem Lo:cU Tryz.prog 26 []=some [.int .i64 0,.int .i64 0,.int .i64 0,.nils,.nils,.nils]:=by kernel_rfl
theorem ul:Wk (.ag [.int .i64 0,.int .i64 0,.int .i64 0,.nils,.nils,.nils]) (.ag (cTy zeroTy)):=Wk.ag ⟨Wk.refl _,Wk.refl _,Wk.refl _,Wk.nils,Wk.nils,Wk.nils,trivial⟩
def nJ (l:List Lns):Prop:=∀s∈l,∀r,gd r→∃R e,PureOk Tryz.prog Γ 70 [.ag (cTy r),.ag (aL s)] (bt R e)∧FP (fl s r) R e
theorem f30ok (l:List Lns)(t u:Ty)(hg:gd t)(hb:wNs l<30000000000)(hk:nJ Γ l)(hs:bO l t 0=.ok u):PureOk Tryz.prog Γ 30 [.ag (cTy t),sls aL l] (kL u l.length 0):=by
 have hbl:l.length<100000000000:=by have:=jX l;omega
 unfold kL;refine Y2 46 Tryz.func30 rfl rfl fun a hl g0 g1=>?_
 refine GG ?_;refine lK (h':=[(1,.cells [.int .i64 0,.int .i64 0,.int .i64 0,.nils,.nils,.nils] 26 false),(6,.cells (cTy t) 125 false)]) (by (repeat (first|exact aP|refine aK (by simp[V.get, *]) ?_))) ?_;refine aq [(5,6),(8,11),(17,41)] [16] (fun k a h=>∃pre rest r0,l=pre++rest∧k=rest.length∧lk a 16=some (.int .i64 pre.length)∧gd r0∧bO rest r0 0=.ok u∧h=[(1,.cells [.int .i64 0,.int .i64 0,.int .i64 0,.nils,.nils,.nils] 26 false),(6,.cells (cTy r0) 125 false)]) ⟨[],l,t,rfl,rfl,by simp[*],hg,hs,rfl⟩ ?_;intro a1 hk hk0 k a h hF hI;replace g1:=hF.a hk 1;replace g4:=hF.a hk 4;replace g7:=hF.a hk 7;replace g14:=hF.a hk 14;replace g15:=hF.a hk 15;replace hl:a.length=46:=hF.len.trans (hk0.trans (by simp[*]));clear hk hk0;clear hs hg;obtain⟨pre,rest,r0,hl0,rfl,h16,hg,hs,rfl⟩:=hI;cases rest with
 |nil=>simp only[bO,Except.ok.injEq] at hs;subst hs;simp only[List.append_nil] at hl0;subst hl0;clear hk;refine GG ?_;exact⟨by simp,.tp [.ag (cTy r0),.int .i64 l.length,.int .i64 0],1,by simp[Tryz.f30,V.get,V.put,aY, *],aG (by simp[Val.closed,aE])⟩
 |cons x r=>
  obtain⟨r1,hs1,hs2,hs3⟩:=eU.1 hs;obtain⟨R,e,h70,hres⟩:=hk x (by simp[hl0]) r0 hg;rw[hs1] at hres;obtain⟨rfl,rfl⟩:=hres;have hg1:gd R:=⟨hs2,(qu x hg.kind hs1).kind hg.kind⟩;have h27:=f27 Γ R (by have:=qC hs2;unfold big;omega);rw[hs2] at h27;have hlt:(pre.length:Int)<pre.length+(r.length+1):=(by omega);have hw:=ac ((pre.length:Int)+1) (by omega) (by simp[hl0] at hbl;omega);have hbl':pre.length<100000000000:=(by simp[hl0] at hbl;omega);have htx:List.take 16 (aL x)=aL x:=List.take_of_length_le (by rw[fB];omega);unfold bt at h70;subst hl0;clear hk hs hs1 hs2;refine GG ?_;all_goals (try (refine aC h70 ?_))
  refine GG ?_;all_goals (try (refine aC h27 ?_))
  refine GG ?_;exact NX [(1,.cells [.int .i64 0,.int .i64 0,.int .i64 0,.nils,.nils,.nils] 26 false),(6,.cells (cTy R) 125 false)] fun a2 hF2=>⟨pre++[x],r,R,by simp,rfl,(hF2.q 16),hg1,hs3,rfl⟩
theorem f30er (l:List Lns)(t:Ty)(e0:Nat×Int)(hg:gd t)(hb:wNs l<30000000000)(hk:nJ Γ l)(hs:bO l t 0=.error e0):PureOk Tryz.prog Γ 30 [.ag (cTy t),sls aL l] (kL zeroTy e0.1 e0.2):=by
 have hbl:l.length<100000000000:=by have:=jX l;omega
 unfold kL;refine PureOk.wk (r:=.tp [.ag [.int .i64 0,.int .i64 0,.int .i64 0,.nils,.nils,.nils],.int .i64 e0.1,.int .i64 e0.2]) ?_ (Wk.tp ⟨ul,Wk.refl _,Wk.refl _,trivial⟩);refine Y2 46 Tryz.func30 rfl rfl fun a hl g0 g1=>?_
 refine GG ?_;refine lK (h':=[(1,.cells [.int .i64 0,.int .i64 0,.int .i64 0,.nils,.nils,.nils] 26 false),(6,.cells (cTy t) 125 false)]) (by (repeat (first|exact aP|refine aK (by simp[V.get, *]) ?_))) ?_;refine aq [(5,6),(8,11),(17,41)] [16] (fun k a h=>∃pre rest r0,l=pre++rest∧k=rest.length∧lk a 16=some (.int .i64 pre.length)∧gd r0∧bO rest r0 pre.length=.error e0∧h=[(1,.cells [.int .i64 0,.int .i64 0,.int .i64 0,.nils,.nils,.nils] 26 false),(6,.cells (cTy r0) 125 false)]) ⟨[],l,t,rfl,rfl,by simp[*],hg,hs,rfl⟩ ?_;intro a1 hk hk0 k a h hF hI;replace g1:=hF.a hk 1;replace g4:=hF.a hk 4;replace g7:=hF.a hk 7;replace g14:=hF.a hk 14;replace g15:=hF.a hk 15;replace hl:a.length=46:=hF.len.trans (hk0.trans (by simp[*]));clear hk hk0;clear hs hg;obtain⟨pre,rest,r0,hl0,rfl,h16,hg,hs,rfl⟩:=hI;cases rest with
 |nil=>simp[bO] at hs
 |cons x r=>
  obtain⟨R,e,h70,hres⟩:=hk x (by simp[hl0]) r0 hg;have hlt:(pre.length:Int)<pre.length+(r.length+1):=(by omega);have hw:=ac ((pre.length:Int)+1) (by omega) (by simp[hl0] at hbl;omega);have hbl':pre.length<100000000000:=(by simp[hl0] at hbl;omega);have htx:List.take 16 (aL x)=aL x:=List.take_of_length_le (by rw[fB];omega);have hbx:wN x≤wNs l:=dg (by simp[hl0]);rw[bO] at hs;unfold bt at h70;cases hst:fl x r0 with
  |error e'=>
   rw[hst] at hs hres;simp only[Except.error.injEq] at hs;obtain⟨rfl,hne⟩:=hres;subst hs;simp only at *
   subst hl0;clear hk hst hg;refine GG ?_;all_goals (try (refine aC h70 ?_))
   refine GG ?_;exact⟨by simp,.tp [.ag [.int .i64 0,.int .i64 0,.int .i64 0,.nils,.nils,.nils],.int .i64 pre.length,.int .i64 e],1,by simp[Tryz.f30,V.get,V.put,aY, *],aG rfl⟩
  |ok r1=>
   rw[hst] at hs hres;obtain⟨rfl,rfl⟩:=hres;have hd:=qu x hg.kind hst;have h27:=f27 Γ R (by have:=Hn hg hd;unfold big;omega);simp only at hs;by_cases hR:bq R=true
   ·rw[if_pos hR] at hs;have hg1:gd R:=⟨hR,hd.kind hg.kind⟩;rw[hR] at h27;subst hl0;clear hk hst hg hd;refine GG ?_;all_goals (try (refine aC h70 ?_))
    refine GG ?_;all_goals (try (refine aC h27 ?_))
    refine GG ?_;exact NX [(1,.cells [.int .i64 0,.int .i64 0,.int .i64 0,.nils,.nils,.nils] 26 false),(6,.cells (cTy R) 125 false)] fun a2 hF2=>⟨pre++[x],r,R,by simp,rfl,(hF2.q 16),hg1,by simpa using hs,rfl⟩
   ·rw[if_neg hR] at hs;simp only[Except.error.injEq] at hs;subst hs;have hR':bq R=false:=(by simpa using hR);rw[hR'] at h27;subst hl0;clear hk hst hg hd;refine GG ?_;all_goals (try (refine aC h70 ?_))
    refine GG ?_;all_goals (try (refine aC h27 ?_))
    refine GG ?_;exact⟨by simp,.tp [.ag [.int .i64 0,.int .i64 0,.int .i64 0,.nils,.nils,.nils],.int .i64 pre.length,.int .i64 2],1,by simp[Tryz.f30,V.get,V.put,aY, *],aG rfl⟩
theorem f30 (H:fQ Γ)(l:List Lns):wNs l<30000000000→∀t,gd t→wC Γ l t:=by
 have main:∀l:List Lns,wNs l<30000000000→nJ Γ l→∀t,gd t→wC Γ l t:=by
  intro l hb hk t hg;unfold wC;cases hs:bO l t 0 with
  |ok u=>exact f30ok Γ l t u hg hb hk hs
  |error e=>exact f30er Γ l t e hg hb hk hs
 have key:∀s:Lns,wN s<30000000000→∀r,gd r→∃R e,PureOk Tryz.prog Γ 70 [.ag (cTy r),.ag (aL s)] (bt R e)∧FP (fl s r) R e:=by
  intro s;induction s using Lns.ind with
  |h s ih=>intro hb r hg;have hw:=eu s;refine f70 Γ H s (fun t ht=>main s.subs (by omega) (fun x hx r hr=>ih x hx ?_ r hr) t ht) r hg hb;have:=dg hx;omega
 intro hb t hg;refine main l hb (fun s hs r hr=>key s ?_ r hr) t hg;have:=dg hs;omega
theorem f9 (H:fQ Γ)(t:Ty)(l:List Lns)(ht:wT t<big)(hl:wNs l<30000000000):PureOk Tryz.prog Γ 9 [.ag (cTy t),sls aL l] (kL (bH t l).1 (bH t l).2.1 (bH t l).2.2):=by
 have h27:=f27 Γ t ht;have h28:=f28' Γ l (by unfold big;omega);have h29:=f29' Γ l (by unfold big;omega);unfold bH kL;have zero:∀(k e:Int),PureOk Tryz.prog Γ 9 [.ag (cTy t),sls aL l] (.tp [.ag [.int .i64 0,.int .i64 0,.int .i64 0,.nils,.nils,.nils],.int .i64 k,.int .i64 e])→PureOk Tryz.prog Γ 9 [.ag (cTy t),sls aL l] (.tp [.ag (cTy zeroTy),.int .i64 k,.int .i64 e]):=fun k e h=>PureOk.wk h (Wk.tp ⟨ul,Wk.refl _,Wk.refl _,trivial⟩)
 by_cases hr:bq t=true;case neg=>
  rw[if_pos (.inl (by simpa using hr))];have hr':bq t=false:=(by simpa using hr);rw[hr'] at h27;refine zero 0 1 ?_;clear zero h28 h29;refine Y2 41 Tryz.func9 rfl rfl fun a hl g0 g1=>?_
  refine GG ?_;all_goals (try (refine aC h27 ?_))
  refine GG ?_;exact⟨by simp,.tp [.ag [.int .i64 0,.int .i64 0,.int .i64 0,.nils,.nils,.nils],.int .i64 0,.int .i64 1],1,by simp[Tryz.f9,V.get,V.put,aY, *],aG rfl⟩
 rw[hr] at h27;by_cases hk:t.kind=1;case neg=>
  rw[if_pos (.inr hk)];refine zero 0 1 ?_;clear zero h28 h29;refine Y2 41 Tryz.func9 rfl rfl fun a hl g0 g1=>?_
  refine GG ?_;all_goals (try (refine aC h27 ?_))
  refine GG ?_;exact⟨by simp,.tp [.ag [.int .i64 0,.int .i64 0,.int .i64 0,.nils,.nils,.nils],.int .i64 0,.int .i64 1],1,by simp[Tryz.f9,V.get,V.put,aY, *],aG rfl⟩
 rw[if_neg (by simp[hr,hk])];by_cases hsz:64<bQ l
 ·rw[if_pos hsz];refine zero 0 2 ?_;have hsz':(64:Int)<(bQ l:Int):=(by omega);clear zero h29;refine Y2 41 Tryz.func9 rfl rfl fun a hl g0 g1=>?_
  refine GG ?_;all_goals (try (refine aC h27 ?_))
  refine GG ?_;all_goals (try (refine aC h28 ?_))
  refine GG ?_;exact⟨by simp,.tp [.ag [.int .i64 0,.int .i64 0,.int .i64 0,.nils,.nils,.nils],.int .i64 0,.int .i64 2],1,by simp[Tryz.f9,V.get,V.put,aY, *],aG rfl⟩
 rw[if_neg hsz];have hsz':¬(64:Int)<(bQ l:Int):=by omega
 by_cases hd:8<ak l
 ·rw[if_pos hd];refine zero 0 6 ?_;have hd':(8:Int)<(ak l:Int):=(by omega);clear zero;refine Y2 41 Tryz.func9 rfl rfl fun a hl g0 g1=>?_
  refine GG ?_;all_goals (try (refine aC h27 ?_))
  refine GG ?_;all_goals (try (refine aC h28 ?_))
  refine GG ?_;all_goals (try (refine aC h29 ?_))
  refine GG ?_;exact⟨by simp,.tp [.ag [.int .i64 0,.int .i64 0,.int .i64 0,.nils,.nils,.nils],.int .i64 0,.int .i64 6],1,by simp[Tryz.f9,V.get,V.put,aY, *],aG rfl⟩
 rw[if_neg hd];have hd':¬(8:Int)<(ak l:Int):=by omega
 have h30:=f30 Γ H l hl t ⟨hr,hk⟩;unfold wC kL at h30;have fin:∀(T:Ty) (k e:Int),wT T<big→PureOk Tryz.prog Γ 30 [.ag (cTy t),sls aL l] (.tp [.ag (cTy T),.int .i64 k,.int .i64 e])→PureOk Tryz.prog Γ 9 [.ag (cTy t),sls aL l] (.tp [.ag (cTy T),.int .i64 k,.int .i64 e]):=by
  intro T k e hT h30;have h31:=f31 Γ T hT;clear zero hT;refine Y2 41 Tryz.func9 rfl rfl fun a hl g0 g1=>?_
  refine GG ?_;all_goals (try (refine aC h27 ?_))
  refine GG ?_;all_goals (try (refine aC h28 ?_))
  refine GG ?_;all_goals (try (refine aC h29 ?_))
  refine GG ?_;all_goals (try (refine aC h30 ?_))
  refine GG ?_;all_goals (try (refine aC h31 ?_))
  refine GG ?_;exact⟨by simp,.tp [.ag (cTy T),.int .i64 k,.int .i64 e],1,by simp[Tryz.f9,V.get,V.put,aY, *],aG (by simp[Val.closed,aE])⟩
 cases hs:bO l t 0 with
 |ok u=>rw[hs] at h30;exact fin u l.length 0 (by have:=qC (oZ hr hs);unfold big;omega) h30
 |error e=>rw[hs] at h30;exact fin zeroTy e.1 e.2 (by decide) h30
end
section
variable (Γ:Glo Tryz.prog)
attribute [local simp] veq bD eD V.del
theorem qH (X:XOk Γ)(H:fQ Γ)(l:List Lns)(hw:wNs l<30000000000):pT Γ l:=by
 have key:∀n (l:List Lns),wNs l≤n→n<30000000000→pT Γ l:=by
  intro n;induction n with
  |zero=>
   intro l h1 h2;refine f76 Γ X H l (by omega) fun s hs=>?_
   have:=dg hs;have:=Cy s;omega
  |succ n ih=>
   intro l h1 h2;refine f76 Γ X H l (by omega) fun s hs=>ih s.subs ?_ (by omega)
   have:=dg hs;have:=eu s;omega
 exact key _ l (Nat.le_refl _) hw
mutual
theorem E7:∀s:Lns,wN (turnN s)=wN s
 |.mk k a b t d sw l=>by rw[turnN];simp only[wN];have h:=iG l;have e1:(if k=1 then b else a).length+(if k=1 then a else b).length=a.length+b.length:=(by split<;>omega);have e2:wNs (if k=9∨k=10 then ba l else l)=wNs l:=(by split<;>first|exact h|rfl);rw[e2];omega
theorem iG:∀l:List Lns,wNs (ba l)=wNs l
 |[]=>rfl
 |s::r=>by rw[ba,s7,iG r];simp only[wNs];rw[E7 s];omega
end
theorem FI (d:Doc)(c:List Val)(n:Nat)(k:Option Nat):cU Tryz.prog 40 [(0,.ag (aJ d)),(1,.sl c n k)]=some (aJ d++[.sl c n k]):=by cases d;kernel_rfl
theorem xr:cU Tryz.prog 40 []=some [.int .i64 0,.int .i64 0,.str [],.nils,.nils,.nils]:=by kernel_rfl
theorem Cm:cU Tryz.prog 138 []=some [.nils,.nils]:=by kernel_rfl
theorem FH (e:Int)(b:Bool)(c:List Val)(n:Nat)(k:Option Nat):cU Tryz.prog 135 [(0,.int .i64 e),(1,.bool b),(2,.sl c n k)]=some [.int .i64 e,.bool b,.sl c n k,.nils,.int .i64 0]:=by kernel_rfl
attribute [local simp] FI xr Cm FH
theorem BL:Wk (.ag [.int .i64 0,.int .i64 0,.str [],.nils,.nils,.nils]) (.ag (cSt bu)):=Wk.ag ⟨Wk.refl _,Wk.refl _,Wk.refl _,Wk.nils,Wk.nils,Wk.nils,trivial⟩
def goV (s:St)(needs:List Res)(err:Int):Val:=.tp [.ag (cSt s),sls ah needs,.int .i64 err]
def goE (err:Int):Val:=.tp [.ag [.int .i64 0,.int .i64 0,.str [],.nils,.nils,.nils],.nils,.int .i64 err]
theorem pB (err:Int):Wk (goE err) (goV bu [] err):=Wk.tp ⟨BL,Wk.nils,Wk.refl _,trivial⟩
theorem f32e (H:fQ Γ)(t:Ty)(l:List Lns)(e:Int)(bk:Bool)(s:St)(ht:wT t<big)(hl:wNs l<30000000000)(he:(bH t (if bk then ba l else l)).2.2≠0) :
  PureOk Tryz.prog Γ 32 [.ag (cTy t),sls aL l,.int .i64 e,.bool bk,.ag (cSt s)] (goV bu [] (bH t (if bk then ba l else l)).2.2):=by
 refine PureOk.wk (r:=goE _) ?_ (pB _);have h74:=f74' Γ l (by unfold big;omega);have h9:=f9 Γ H t (if bk then ba l else l) ht (by cases bk<;>simp[iG]<;>omega);unfold kL at h9;unfold goE;have ht6:List.take 6 (cTy t)=cTy t:=List.take_of_length_le (by rw[bG];omega);generalize (bH t (if bk then ba l else l)).2.2=err at *
 generalize (bH t (if bk then ba l else l)).1=u at *
 generalize (bH t (if bk then ba l else l)).2.1=kk at *
 cases bk;all_goals
  simp only[Bool.false_eq_true,if_false,if_true] at h9;refine Y5 96 Tryz.func32 rfl rfl fun a hl g0 g1 g2 g3 g4=>?_
  refine GG ?_;all_goals (try (refine aC h74 ?_))
  refine GG ?_;all_goals (try (refine aC h9 ?_))
  refine GG ?_;exact⟨by simp,.tp [.ag [.int .i64 0,.int .i64 0,.str [],.nils,.nils,.nils],.nils,.int .i64 err],5,by simp[Tryz.f32,V.get, *],by simp[vw,Val.closed,aE]⟩
theorem f32r (H:fQ Γ)(t:Ty)(l:List Lns)(e:Int)(bk:Bool)(s:St)(ht:wT t<big)(hl:wNs l<30000000000)(hs:wRs s.res+wD s.doc<big)(he:(bH t (if bk then ba l else l)).2.2=0)(hr:bC s.res=false) :
  PureOk Tryz.prog Γ 32 [.ag (cTy t),sls aL l,.int .i64 e,.bool bk,.ag (cSt s)] (goV bu [] 1):=by
 refine PureOk.wk (r:=goE _) ?_ (pB _);have h75:=f75 Γ s.res (by omega);rw[hr] at h75;unfold goE;have h74:=f74' Γ l (by unfold big;omega);have h9:=f9 Γ H t (if bk then ba l else l) ht (by cases bk<;>simp[iG]<;>omega);unfold kL at h9;have ht6:List.take 6 (cTy t)=cTy t:=List.take_of_length_le (by rw[bG];omega);rw[he] at h9;generalize (bH t (if bk then ba l else l)).1=u at *
 generalize (bH t (if bk then ba l else l)).2.1=kk at *
 clear he hr hs;rw[fm];cases bk;all_goals
  simp only[Bool.false_eq_true,if_false,if_true] at h9;refine Y5 96 Tryz.func32 rfl rfl fun a hl g0 g1 g2 g3 g4=>?_
  refine GG ?_;all_goals (try (refine aC h74 ?_))
  refine GG ?_;all_goals (try (refine aC h9 ?_))
  refine GG ?_;all_goals (try (refine aC h75 ?_))
  refine GG ?_;exact⟨by simp,.tp [.ag [.int .i64 0,.int .i64 0,.str [],.nils,.nils,.nils],.nils,.int .i64 1],5,by simp[Tryz.f32,V.get, *],by simp[vw,Val.closed,aE]⟩
theorem f32v (H:fQ Γ)(t:Ty)(l:List Lns)(e:Int)(bk:Bool)(s:St)(ht:wT t<big)(hl:wNs l<30000000000)(hs:wRs s.res+wD s.doc<big)(he:(bH t (if bk then ba l else l)).2.2=0)(hr:bC s.res=true)(hv:cD t s.doc=false) :
  PureOk Tryz.prog Γ 32 [.ag (cTy t),sls aL l,.int .i64 e,.bool bk,.ag (cSt s)] (goV bu [] 7):=by
 refine PureOk.wk (r:=goE _) ?_ (pB _);have h75:=f75 Γ s.res (by omega);rw[hr] at h75;have h11:=H t s.doc ht (by omega);rw[hv] at h11;have hd5:List.take 5 (aJ s.doc++[sls ah s.res])=aJ s.doc:=List.take_left' (b8 s.doc);unfold goE;have h74:=f74' Γ l (by unfold big;omega);have h9:=f9 Γ H t (if bk then ba l else l) ht (by cases bk<;>simp[iG]<;>omega);unfold kL at h9;have ht6:List.take 6 (cTy t)=cTy t:=List.take_of_length_le (by rw[bG];omega);rw[he] at h9;generalize (bH t (if bk then ba l else l)).1=u at *
 generalize (bH t (if bk then ba l else l)).2.1=kk at *
 clear he hr hs hv;rw[fm];cases bk;all_goals
  simp only[Bool.false_eq_true,if_false,if_true] at h9;refine Y5 96 Tryz.func32 rfl rfl fun a hl g0 g1 g2 g3 g4=>?_
  refine GG ?_;all_goals (try (refine aC h74 ?_))
  refine GG ?_;all_goals (try (refine aC h9 ?_))
  refine GG ?_;all_goals (try (refine aC h75 ?_))
  refine GG ?_;all_goals (try (refine aC h11 ?_))
  refine GG ?_;exact⟨by simp,.tp [.ag [.int .i64 0,.int .i64 0,.str [],.nils,.nils,.nils],.nils,.int .i64 7],5,by simp[Tryz.f32,V.get, *],by simp[vw,Val.closed,aE]⟩
end
section
variable (Γ:Glo Tryz.prog)
attribute [local simp] veq bD eD V.del FI xr Cm FH
theorem kA {t:Ty}{m:List Lns}(h:(bH t m).2.2=0):ak m≤8:=by
 rcases Nat.lt_or_ge 8 (ak m) with h8|h8
 ·exfalso;unfold bH at h;by_cases h1:bq t=false∨t.kind≠1
  ·rw[if_pos h1] at h;cases h
  ·rw[if_neg h1] at h;by_cases h2:64<bQ m
   ·rw[if_pos h2] at h;cases h
   ·rw[if_neg h2,if_pos h8] at h;cases h
 ·exact h8
theorem f32x (X:XOk Γ)(H:fQ Γ)(t:Ty)(l:List Lns)(e:Int)(bk:Bool)(s:St)(w:Wlk)(f:Flds)(ht:wT t<big)(hl:wNs l<30000000000)(hs:wRs s.res+wD s.doc<20000000000)(he:(bH t (if bk then ba l else l)).2.2=0)(hr:bC s.res=true)(hv:cD t s.doc=true)(ho:okK s.doc=true)(hrun:eb e bk l 0 [] [] ⟨s.res,[],0⟩ (ofD s.doc)=some (w,f))(herr:w.err≠0) :
  PureOk Tryz.prog Γ 32 [.ag (cTy t),sls aL l,.int .i64 e,.bool bk,.ag (cSt s)] (goV bu [] w.err):=by
 refine PureOk.wk (r:=goE _) ?_ (pB _);unfold goE;have h75:=f75 Γ s.res (by unfold big;omega);rw[hr] at h75;have h11:=H t s.doc ht (by unfold big;omega);rw[hv] at h11;have h33:=f33 Γ s (by unfold big;omega);rw[fm] at h33;have hdep:ak l≤8:=by
  have h0:=kA he;cases bk
  ·simpa using h0
  ·simpa[fR] using h0
 have k76:=(qH Γ X H l hl e bk [] [] ⟨s.res,[],0⟩ s.doc w f ho (by unfold big;omega) (by simp;omega) (by simp;omega) hrun).2;unfold plV at k76;replace k76:=CallOk.arg Γ k76 (vs:=[.pr 0 0,sls aL l,.ag (aJ s.doc),.ag [.nils,.nils]]) ⟨Wk.refl _,Wk.refl _,Wk.refl _,Wk.ag ⟨Wk.nils,Wk.nils,trivial⟩,trivial⟩;have hsm:dV w f=true:=by cases bk;exact(ip hrun).2.1;exact(io hrun).2.1
 have hsm':wRs w.res+wRs w.needs+wF f<10000000000:=by unfold dV lim at hsm;exact of_decide_eq_true hsm
 have j75:=f75 Γ w.res (by unfold big;omega);have j77:=f77 Γ (ay f) (by rw[iF];unfold big;omega);have hd5:List.take 5 (aJ s.doc++[sls ah s.res])=aJ s.doc:=List.take_left' (b8 s.doc);have hd6:List.take 6 (aJ s.doc++[sls ah s.res])=aJ s.doc++[sls ah s.res]:=List.take_of_length_le (by simp);have hdr6:List.drop 6 (aJ s.doc++[sls ah s.res])=[]:=List.drop_eq_nil_of_le (by simp);have hf5:List.take 5 (aJ (ay f))=aJ (ay f):=List.take_of_length_le (by simp);have h74:=f74' Γ l (by unfold big;omega);have h9:=f9 Γ H t (if bk then ba l else l) ht (by cases bk<;>simp[iG]<;>omega);unfold kL at h9;have ht6:List.take 6 (cTy t)=cTy t:=List.take_of_length_le (by rw[bG];omega);rw[he] at h9;generalize (bH t (if bk then ba l else l)).1=u at *
 generalize (bH t (if bk then ba l else l)).2.1=kk at *
 have hnc:(gR ah w.needs).closed=true:=by cases w.needs<;>simp[gR,Val.closed,sls]
 unfold cW at k76;rw[show gR ah (⟨s.res,[],0⟩:Wlk).needs=Val.nils from rfl] at k76;simp only at k76;generalize gR ah w.needs=nd at *
 rw[fm];clear he hr hv ho hrun hdep hsm hsm' hs;cases bk
 ·have k:=k76.ren [37] 44 rfl (by simp[co,fg,aV,aS,aD]) (by simp) (by simp);simp[bJ,b9,cK,ax,tau,aH,dB _ _ hnc] at k;clear k76;simp only[Bool.false_eq_true,if_false,if_true] at h9;refine Y5 96 Tryz.func32 rfl rfl fun a hl g0 g1 g2 g3 g4=>?_
  refine GG ?_;all_goals (try (refine aC h74 ?_))
  refine GG ?_;all_goals (try (refine aC h9 ?_))
  refine GG ?_;all_goals (try (refine aC h75 ?_))
  refine GG ?_;all_goals (try (refine aC h11 ?_))
  refine GG ?_;all_goals (try (refine aC h33 ?_))
  refine GG ?_;refine aw k ?_;refine GG ?_;exact⟨by simp,.tp [.ag [.int .i64 0,.int .i64 0,.str [],.nils,.nils,.nils],.nils,.int .i64 w.err],5,by simp[Tryz.f32,V.get, *],by simp[vw,Val.closed,aE]⟩
 ·have k:=k76.ren [39] 46 rfl (by simp[co,fg,aV,aS,aD]) (by simp) (by simp);simp[bJ,b9,cK,ax,tau,aH,dB _ _ hnc] at k;clear k76;simp only[Bool.false_eq_true,if_false,if_true] at h9;refine Y5 96 Tryz.func32 rfl rfl fun a hl g0 g1 g2 g3 g4=>?_
  refine GG ?_;all_goals (try (refine aC h74 ?_))
  refine GG ?_;all_goals (try (refine aC h9 ?_))
  refine GG ?_;all_goals (try (refine aC h75 ?_))
  refine GG ?_;all_goals (try (refine aC h11 ?_))
  refine GG ?_;all_goals (try (refine aC h33 ?_))
  refine GG ?_;refine aw k ?_;refine GG ?_;exact⟨by simp,.tp [.ag [.int .i64 0,.int .i64 0,.str [],.nils,.nils,.nils],.nils,.int .i64 w.err],5,by simp[Tryz.f32,V.get, *],by simp[vw,Val.closed,aE]⟩
theorem f32y (X:XOk Γ)(H:fQ Γ)(t:Ty)(l:List Lns)(e:Int)(bk:Bool)(s:St)(w:Wlk)(f:Flds)(ht:wT t<big)(hl:wNs l<30000000000)(hs:wRs s.res+wD s.doc<20000000000)(he:(bH t (if bk then ba l else l)).2.2=0)(hr:bC s.res=true)(hv:cD t s.doc=true)(ho:okK s.doc=true)(hrun:eb e bk l 0 [] [] ⟨s.res,[],0⟩ (ofD s.doc)=some (w,f))(herr:w.err=0)(hq:bC w.res=false) :
  PureOk Tryz.prog Γ 32 [.ag (cTy t),sls aL l,.int .i64 e,.bool bk,.ag (cSt s)] (goV bu [] 1):=by
 refine PureOk.wk (r:=goE _) ?_ (pB _);unfold goE;have h75:=f75 Γ s.res (by unfold big;omega);rw[hr] at h75;have h11:=H t s.doc ht (by unfold big;omega);rw[hv] at h11;have h33:=f33 Γ s (by unfold big;omega);rw[fm] at h33;have hdep:ak l≤8:=by
  have h0:=kA he;cases bk
  ·simpa using h0
  ·simpa[fR] using h0
 have k76:=(qH Γ X H l hl e bk [] [] ⟨s.res,[],0⟩ s.doc w f ho (by unfold big;omega) (by simp;omega) (by simp;omega) hrun).2;unfold plV at k76;replace k76:=CallOk.arg Γ k76 (vs:=[.pr 0 0,sls aL l,.ag (aJ s.doc),.ag [.nils,.nils]]) ⟨Wk.refl _,Wk.refl _,Wk.refl _,Wk.ag ⟨Wk.nils,Wk.nils,trivial⟩,trivial⟩;have hsm:dV w f=true:=by cases bk;exact(ip hrun).2.1;exact(io hrun).2.1
 have hsm':wRs w.res+wRs w.needs+wF f<10000000000:=by unfold dV lim at hsm;exact of_decide_eq_true hsm
 have j75:=f75 Γ w.res (by unfold big;omega);have j77:=f77 Γ (ay f) (by rw[iF];unfold big;omega);have hd5:List.take 5 (aJ s.doc++[sls ah s.res])=aJ s.doc:=List.take_left' (b8 s.doc);have hd6:List.take 6 (aJ s.doc++[sls ah s.res])=aJ s.doc++[sls ah s.res]:=List.take_of_length_le (by simp);have hdr6:List.drop 6 (aJ s.doc++[sls ah s.res])=[]:=List.drop_eq_nil_of_le (by simp);have hf5:List.take 5 (aJ (ay f))=aJ (ay f):=List.take_of_length_le (by simp);have h74:=f74' Γ l (by unfold big;omega);have h9:=f9 Γ H t (if bk then ba l else l) ht (by cases bk<;>simp[iG]<;>omega);unfold kL at h9;have ht6:List.take 6 (cTy t)=cTy t:=List.take_of_length_le (by rw[bG];omega);rw[he] at h9;generalize (bH t (if bk then ba l else l)).1=u at *
 generalize (bH t (if bk then ba l else l)).2.1=kk at *
 have hnc:(gR ah w.needs).closed=true:=by cases w.needs<;>simp[gR,Val.closed,sls]
 unfold cW at k76;rw[show gR ah (⟨s.res,[],0⟩:Wlk).needs=Val.nils from rfl] at k76;simp only at k76;generalize gR ah w.needs=nd at *
 rw[fm];rw[hq] at j75;clear he hr hv ho hrun hdep hsm hsm' hs;cases bk
 ·have k:=k76.ren [37] 44 rfl (by simp[co,fg,aV,aS,aD]) (by simp) (by simp);simp[bJ,b9,cK,ax,tau,aH,dB _ _ hnc] at k;clear k76;simp only[Bool.false_eq_true,if_false,if_true] at h9;refine Y5 96 Tryz.func32 rfl rfl fun a hl g0 g1 g2 g3 g4=>?_
  refine GG ?_;all_goals (try (refine aC h74 ?_))
  refine GG ?_;all_goals (try (refine aC h9 ?_))
  refine GG ?_;all_goals (try (refine aC h75 ?_))
  refine GG ?_;all_goals (try (refine aC h11 ?_))
  refine GG ?_;all_goals (try (refine aC h33 ?_))
  refine GG ?_;refine aw k ?_;refine GG ?_;all_goals (try (refine aC j75 ?_))
  refine GG ?_;exact⟨by simp,.tp [.ag [.int .i64 0,.int .i64 0,.str [],.nils,.nils,.nils],.nils,.int .i64 1],5,by simp[Tryz.f32,V.get, *],by simp[vw,Val.closed,aE]⟩
 ·have k:=k76.ren [39] 46 rfl (by simp[co,fg,aV,aS,aD]) (by simp) (by simp);simp[bJ,b9,cK,ax,tau,aH,dB _ _ hnc] at k;clear k76;simp only[Bool.false_eq_true,if_false,if_true] at h9;refine Y5 96 Tryz.func32 rfl rfl fun a hl g0 g1 g2 g3 g4=>?_
  refine GG ?_;all_goals (try (refine aC h74 ?_))
  refine GG ?_;all_goals (try (refine aC h9 ?_))
  refine GG ?_;all_goals (try (refine aC h75 ?_))
  refine GG ?_;all_goals (try (refine aC h11 ?_))
  refine GG ?_;all_goals (try (refine aC h33 ?_))
  refine GG ?_;refine aw k ?_;refine GG ?_;all_goals (try (refine aC j75 ?_))
  refine GG ?_;exact⟨by simp,.tp [.ag [.int .i64 0,.int .i64 0,.str [],.nils,.nils,.nils],.nils,.int .i64 1],5,by simp[Tryz.f32,V.get, *],by simp[vw,Val.closed,aE]⟩
theorem f32z (X:XOk Γ)(H:fQ Γ)(t:Ty)(l:List Lns)(e:Int)(bk:Bool)(s:St)(w:Wlk)(f:Flds)(ht:wT t<big)(hl:wNs l<30000000000)(hs:wRs s.res+wD s.doc<20000000000)(he:(bH t (if bk then ba l else l)).2.2=0)(hr:bC s.res=true)(hv:cD t s.doc=true)(ho:okK s.doc=true)(hrun:eb e bk l 0 [] [] ⟨s.res,[],0⟩ (ofD s.doc)=some (w,f))(herr:w.err=0)(hq:bC w.res=true)(hd:dS (ay f)=false) :
  PureOk Tryz.prog Γ 32 [.ag (cTy t),sls aL l,.int .i64 e,.bool bk,.ag (cSt s)] (goV bu [] 2):=by
 refine PureOk.wk (r:=goE _) ?_ (pB _);unfold goE;have h75:=f75 Γ s.res (by unfold big;omega);rw[hr] at h75;have h11:=H t s.doc ht (by unfold big;omega);rw[hv] at h11;have h33:=f33 Γ s (by unfold big;omega);rw[fm] at h33;have hdep:ak l≤8:=by
  have h0:=kA he;cases bk
  ·simpa using h0
  ·simpa[fR] using h0
 have k76:=(qH Γ X H l hl e bk [] [] ⟨s.res,[],0⟩ s.doc w f ho (by unfold big;omega) (by simp;omega) (by simp;omega) hrun).2;unfold plV at k76;replace k76:=CallOk.arg Γ k76 (vs:=[.pr 0 0,sls aL l,.ag (aJ s.doc),.ag [.nils,.nils]]) ⟨Wk.refl _,Wk.refl _,Wk.refl _,Wk.ag ⟨Wk.nils,Wk.nils,trivial⟩,trivial⟩;have hsm:dV w f=true:=by cases bk;exact(ip hrun).2.1;exact(io hrun).2.1
 have hsm':wRs w.res+wRs w.needs+wF f<10000000000:=by unfold dV lim at hsm;exact of_decide_eq_true hsm
 have j75:=f75 Γ w.res (by unfold big;omega);have j77:=f77 Γ (ay f) (by rw[iF];unfold big;omega);have hd5:List.take 5 (aJ s.doc++[sls ah s.res])=aJ s.doc:=List.take_left' (b8 s.doc);have hd6:List.take 6 (aJ s.doc++[sls ah s.res])=aJ s.doc++[sls ah s.res]:=List.take_of_length_le (by simp);have hdr6:List.drop 6 (aJ s.doc++[sls ah s.res])=[]:=List.drop_eq_nil_of_le (by simp);have hf5:List.take 5 (aJ (ay f))=aJ (ay f):=List.take_of_length_le (by simp);have h74:=f74' Γ l (by unfold big;omega);have h9:=f9 Γ H t (if bk then ba l else l) ht (by cases bk<;>simp[iG]<;>omega);unfold kL at h9;have ht6:List.take 6 (cTy t)=cTy t:=List.take_of_length_le (by rw[bG];omega);rw[he] at h9;generalize (bH t (if bk then ba l else l)).1=u at *
 generalize (bH t (if bk then ba l else l)).2.1=kk at *
 have hnc:(gR ah w.needs).closed=true:=by cases w.needs<;>simp[gR,Val.closed,sls]
 unfold cW at k76;rw[show gR ah (⟨s.res,[],0⟩:Wlk).needs=Val.nils from rfl] at k76;simp only at k76;generalize gR ah w.needs=nd at *
 rw[fm];rw[hq] at j75;rw[hd] at j77;clear he hr hv ho hrun hdep hsm hsm' hs;cases bk
 ·have k:=k76.ren [37] 44 rfl (by simp[co,fg,aV,aS,aD]) (by simp) (by simp);simp[bJ,b9,cK,ax,tau,aH,dB _ _ hnc] at k;clear k76;simp only[Bool.false_eq_true,if_false,if_true] at h9;refine Y5 96 Tryz.func32 rfl rfl fun a hl g0 g1 g2 g3 g4=>?_
  refine GG ?_;all_goals (try (refine aC h74 ?_))
  refine GG ?_;all_goals (try (refine aC h9 ?_))
  refine GG ?_;all_goals (try (refine aC h75 ?_))
  refine GG ?_;all_goals (try (refine aC h11 ?_))
  refine GG ?_;all_goals (try (refine aC h33 ?_))
  refine GG ?_;refine aw k ?_;refine GG ?_;all_goals (try (refine aC j75 ?_))
  refine GG ?_;all_goals (try (refine aC j77 ?_))
  refine GG ?_;exact⟨by simp,.tp [.ag [.int .i64 0,.int .i64 0,.str [],.nils,.nils,.nils],.nils,.int .i64 2],5,by simp[Tryz.f32,V.get, *],by simp[vw,Val.closed,aE]⟩
 ·have k:=k76.ren [39] 46 rfl (by simp[co,fg,aV,aS,aD]) (by simp) (by simp);simp[bJ,b9,cK,ax,tau,aH,dB _ _ hnc] at k;clear k76;simp only[Bool.false_eq_true,if_false,if_true] at h9;refine Y5 96 Tryz.func32 rfl rfl fun a hl g0 g1 g2 g3 g4=>?_
  refine GG ?_;all_goals (try (refine aC h74 ?_))
  refine GG ?_;all_goals (try (refine aC h9 ?_))
  refine GG ?_;all_goals (try (refine aC h75 ?_))
  refine GG ?_;all_goals (try (refine aC h11 ?_))
  refine GG ?_;all_goals (try (refine aC h33 ?_))
  refine GG ?_;refine aw k ?_;refine GG ?_;all_goals (try (refine aC j75 ?_))
  refine GG ?_;all_goals (try (refine aC j77 ?_))
  refine GG ?_;exact⟨by simp,.tp [.ag [.int .i64 0,.int .i64 0,.str [],.nils,.nils,.nils],.nils,.int .i64 2],5,by simp[Tryz.f32,V.get, *],by simp[vw,Val.closed,aE]⟩
theorem f32w (X:XOk Γ)(H:fQ Γ)(t:Ty)(l:List Lns)(e:Int)(bk:Bool)(s:St)(w:Wlk)(f:Flds)(ht:wT t<big)(hl:wNs l<30000000000)(hs:wRs s.res+wD s.doc<20000000000)(he:(bH t (if bk then ba l else l)).2.2=0)(hr:bC s.res=true)(hv:cD t s.doc=true)(ho:okK s.doc=true)(hrun:eb e bk l 0 [] [] ⟨s.res,[],0⟩ (ofD s.doc)=some (w,f))(herr:w.err=0)(hq:bC w.res=true)(hd:dS (ay f)=true) :
  PureOk Tryz.prog Γ 32 [.ag (cTy t),sls aL l,.int .i64 e,.bool bk,.ag (cSt s)] (goV ⟨ay f,w.res⟩ w.needs 0):=by
 refine PureOk.wk (r:=.tp [.ag (aJ (ay f)++[sls ah w.res]),gR ah w.needs,.int .i64 0]) ?_ (Wk.tp ⟨Wk.refl _,oA ah _,Wk.refl _,trivial⟩);have h75:=f75 Γ s.res (by unfold big;omega);rw[hr] at h75;have h11:=H t s.doc ht (by unfold big;omega);rw[hv] at h11;have h33:=f33 Γ s (by unfold big;omega);rw[fm] at h33;have hdep:ak l≤8:=by
  have h0:=kA he;cases bk
  ·simpa using h0
  ·simpa[fR] using h0
 have k76:=(qH Γ X H l hl e bk [] [] ⟨s.res,[],0⟩ s.doc w f ho (by unfold big;omega) (by simp;omega) (by simp;omega) hrun).2;unfold plV at k76;replace k76:=CallOk.arg Γ k76 (vs:=[.pr 0 0,sls aL l,.ag (aJ s.doc),.ag [.nils,.nils]]) ⟨Wk.refl _,Wk.refl _,Wk.refl _,Wk.ag ⟨Wk.nils,Wk.nils,trivial⟩,trivial⟩;have hsm:dV w f=true:=by cases bk;exact(ip hrun).2.1;exact(io hrun).2.1
 have hsm':wRs w.res+wRs w.needs+wF f<10000000000:=by unfold dV lim at hsm;exact of_decide_eq_true hsm
 have j75:=f75 Γ w.res (by unfold big;omega);have j77:=f77 Γ (ay f) (by rw[iF];unfold big;omega);have hd5:List.take 5 (aJ s.doc++[sls ah s.res])=aJ s.doc:=List.take_left' (b8 s.doc);have hd6:List.take 6 (aJ s.doc++[sls ah s.res])=aJ s.doc++[sls ah s.res]:=List.take_of_length_le (by simp);have hdr6:List.drop 6 (aJ s.doc++[sls ah s.res])=[]:=List.drop_eq_nil_of_le (by simp);have hf5:List.take 5 (aJ (ay f))=aJ (ay f):=List.take_of_length_le (by simp);have h74:=f74' Γ l (by unfold big;omega);have h9:=f9 Γ H t (if bk then ba l else l) ht (by cases bk<;>simp[iG]<;>omega);unfold kL at h9;have ht6:List.take 6 (cTy t)=cTy t:=List.take_of_length_le (by rw[bG];omega);rw[he] at h9;generalize (bH t (if bk then ba l else l)).1=u at *
 generalize (bH t (if bk then ba l else l)).2.1=kk at *
 have hnc:(gR ah w.needs).closed=true:=by cases w.needs<;>simp[gR,Val.closed,sls]
 unfold cW at k76;rw[show gR ah (⟨s.res,[],0⟩:Wlk).needs=Val.nils from rfl] at k76;simp only at k76;generalize gR ah w.needs=nd at *
 rw[fm];rw[hq] at j75;rw[hd] at j77;clear he hr hv ho hrun hdep hsm hsm' hs;cases bk
 ·have k:=k76.ren [37] 44 rfl (by simp[co,fg,aV,aS,aD]) (by simp) (by simp);simp[bJ,b9,cK,ax,tau,aH,dB _ _ hnc] at k;clear k76;simp only[Bool.false_eq_true,if_false,if_true] at h9;refine Y5 96 Tryz.func32 rfl rfl fun a hl g0 g1 g2 g3 g4=>?_
  refine GG ?_;all_goals (try (refine aC h74 ?_))
  refine GG ?_;all_goals (try (refine aC h9 ?_))
  refine GG ?_;all_goals (try (refine aC h75 ?_))
  refine GG ?_;all_goals (try (refine aC h11 ?_))
  refine GG ?_;all_goals (try (refine aC h33 ?_))
  refine GG ?_;refine aw k ?_;refine GG ?_;all_goals (try (refine aC j75 ?_))
  refine GG ?_;all_goals (try (refine aC j77 ?_))
  refine GG ?_;exact⟨by simp,.tp [.ag (aJ (ay f)++[sls ah w.res]),nd,.int .i64 0],5,by simp[Tryz.f32,V.get, *],aG (by simp[Val.closed,aE,au,hnc])⟩
 ·have k:=k76.ren [39] 46 rfl (by simp[co,fg,aV,aS,aD]) (by simp) (by simp);simp[bJ,b9,cK,ax,tau,aH,dB _ _ hnc] at k;clear k76;simp only[Bool.false_eq_true,if_false,if_true] at h9;refine Y5 96 Tryz.func32 rfl rfl fun a hl g0 g1 g2 g3 g4=>?_
  refine GG ?_;all_goals (try (refine aC h74 ?_))
  refine GG ?_;all_goals (try (refine aC h9 ?_))
  refine GG ?_;all_goals (try (refine aC h75 ?_))
  refine GG ?_;all_goals (try (refine aC h11 ?_))
  refine GG ?_;all_goals (try (refine aC h33 ?_))
  refine GG ?_;refine aw k ?_;refine GG ?_;all_goals (try (refine aC j75 ?_))
  refine GG ?_;all_goals (try (refine aC j77 ?_))
  refine GG ?_;exact⟨by simp,.tp [.ag (aJ (ay f)++[sls ah w.res]),nd,.int .i64 0],5,by simp[Tryz.f32,V.get, *],aG (by simp[Val.closed,aE,au,hnc])⟩
end
end Go.V
end
