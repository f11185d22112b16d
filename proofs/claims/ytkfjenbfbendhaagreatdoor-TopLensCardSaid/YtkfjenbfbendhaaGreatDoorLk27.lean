/-
  A part of a proof: L15 L16 L17 L18 A11.
-/
import Derived.Test.YtkfjenbfbendhaaGreatDoorLk15
import Derived.Test.YtkfjenbfbendhaaGreatDoorLk22
import Derived.Test.YtkfjenbfbendhaaGreatDoorLk23
import Derived.Test.YtkfjenbfbendhaaGreatDoorLk25
import Derived.Test.YtkfjenbfbendhaaGreatDoorLk26
set_option linter.unusedSimpArgs false
set_option linter.unusedVariables false
section
set_option maxHeartbeats 4000000
namespace Go.V
open Go Go.Proofs
attribute [local irreducible] W bO WD aO yl aS bW
section
variable (Γ:Glo Tryz.prog)
attribute [local simp] veq eE
theorem f186 (r:Ty)(f:Fld)(s:Lns)(hb:3*wT r+wN s+2*wT f.ty+99<big) :
  PureOk Tryz.prog Γ 186 [.ag (cTy r),.ag (aZ f),.ag (aK s)] (if f.ty.kind=4 then b8 r (iY s.swaps f.ty) else b8 r 7):=by
 have hw:=eM s
 have h1:=f262 Γ s.swaps f.ty (by omega)
 rw[dR f]
 have hcl:=bH f.ty
 have hcc:=eB f.ty
 unfold b8
 generalize iY s.swaps f.ty=e at *
 clear hw hb
 by_cases hk:f.ty.kind=4
 case neg=>
  rw[if_neg hk]
  clear h1
  refine Y3 19 Tryz.func186 rfl rfl fun a hl g0 g1 g2=>?_
  repeat' first|refine G1 ?_|(refine G2 ?_ ?_<;>intro hc hd<;>try exact hd.elim)|fail
  exact⟨by simp,.tp [.ag (cTy r),.int .i64 7],1,by simp[Tryz.f186,V.get,V.put,aX, *],aG (by simp[Val.closed,aE])⟩
 rw[if_pos hk]
 refine Y3 19 Tryz.func186 rfl rfl fun a hl g0 g1 g2=>?_
 repeat' first|refine G1 ?_|(refine G2 ?_ ?_<;>intro hc hd<;>try exact hd.elim)|fail
 refine aQ h1 ?_
 repeat' first|refine G1 ?_|(refine G2 ?_ ?_<;>intro hc hd<;>try exact hd.elim)|fail
 exact⟨by simp,.tp [.ag (cTy r),.int .i64 e],1,by simp[Tryz.f186,V.get,V.put,aX, *],aG (by simp[Val.closed,aE])⟩
def i8 (T:Ty)(k e:Int):Val:=.tp [.ag (cTy T),.int .i64 k,.int .i64 e]
theorem f187 (r:Ty)(f:Fld)(s:Lns)(T:Ty)(kk e:Int)(hb:wT r+9<big)(hg:gd r)(h30:f.ty.kind=1→PureOk Tryz.prog Γ 30 [.ag (cTy f.ty),sls aK s.subs] (i8 T kk e)) :
  PureOk Tryz.prog Γ 187 [.ag (cTy r),.ag (aZ f),.ag (aK s)] (if f.ty.kind=1 then b8 (eL r s.a T) e else b8 r 7):=by
 have h2:=f261 Γ r s.a T (by omega) hg.srt
 rw[dR f]
 have hcl:=bH f.ty
 have hcc:=eB f.ty
 unfold b8
 unfold i8 at h30
 generalize eL r s.a T=R2 at *
 clear hb hg
 by_cases hk:f.ty.kind=1
 case neg=>
  rw[if_neg hk]
  clear h2 h30
  refine Y3 31 Tryz.func187 rfl rfl fun a hl g0 g1 g2=>?_
  repeat' first|refine G1 ?_|(refine G2 ?_ ?_<;>intro hc hd<;>try exact hd.elim)|fail
  exact⟨by simp,.tp [.ag (cTy r),.int .i64 7],1,by simp[Tryz.f187,V.get,V.put,aX, *],aG (by simp[Val.closed,aE])⟩
 rw[if_pos hk]
 replace h30:=h30 hk
 refine Y3 31 Tryz.func187 rfl rfl fun a hl g0 g1 g2=>?_
 repeat' first|refine G1 ?_|(refine G2 ?_ ?_<;>intro hc hd<;>try exact hd.elim)|fail
 all_goals (try (refine aC h30 ?_))
 repeat' first|refine G1 ?_|(refine G2 ?_ ?_<;>intro hc hd<;>try exact hd.elim)|fail
 all_goals (try (refine aC h2 ?_))
 repeat' first|refine G1 ?_|(refine G2 ?_ ?_<;>intro hc hd<;>try exact hd.elim)|fail
 exact⟨by simp,.tp [.ag (cTy R2),.int .i64 e],1,by simp[Tryz.f187,V.get,V.put,aX, *],aG (by simp[Val.closed,aE])⟩
theorem f188 (r:Ty)(f:Fld)(s:Lns)(u U:Ty)(kk e:Int)(hb:wT r+9<big)(hg:gd r)(hu:f.ty.kind=2→f.ty.of=[u])(h30:f.ty.kind=2→u.kind=1→PureOk Tryz.prog Γ 30 [.ag (cTy u),sls aK s.subs] (i8 U kk e)) :
  PureOk Tryz.prog Γ 188 [.ag (cTy r),.ag (aZ f),.ag (aK s)] (if f.ty.kind=2 then (if u.kind=1 then b8 (eL r s.a (.mk 2 f.ty.lo f.ty.hi f.ty.names f.ty.fields [U])) e else b8 r 7) else b8 r 7):=by
 have h2:=f261 Γ r s.a (.mk 2 f.ty.lo f.ty.hi f.ty.names f.ty.fields [U]) (by omega) hg.srt
 rw[dR f]
 have hcl:=bH f.ty
 have hcc:=eB f.ty
 have hta:List.take 6 (cTy f.ty)=cTy f.ty:=List.take_of_length_le (by omega)
 unfold b8
 unfold i8 at h30
 by_cases hk:f.ty.kind=2
 case neg=>
  rw[if_neg hk]
  clear h2 h30 hb hg hu
  refine Y3 46 Tryz.func188 rfl rfl fun a hl g0 g1 g2=>?_
  repeat' first|refine G1 ?_|(refine G2 ?_ ?_<;>intro hc hd<;>try exact hd.elim)|fail
  exact⟨by simp,.tp [.ag (cTy r),.int .i64 7],1,by simp[Tryz.f188,V.get,V.put,aX, *],aG (by simp[Val.closed,aE])⟩
 rw[if_pos hk]
 replace hu:=hu hk
 have htu:List.take 6 (row cTy [u])=cTy u:=by rw[bt,eG,List.append_nil];exact List.take_of_length_le (by rw[bH];omega)
 have hru:row cTy [u]=cTy u:=by rw[bt,eG,List.append_nil]
 have hsl:sls cTy [u]=.sl (row cTy [u]) 1 none:=rfl
 by_cases hk1:u.kind=1
 case neg=>
  rw[if_neg hk1]
  clear h2 h30 hb hg
  refine Y3 46 Tryz.func188 rfl rfl fun a hl g0 g1 g2=>?_
  repeat' first|refine G1 ?_|(refine G2 ?_ ?_<;>intro hc hd<;>try exact hd.elim)|fail
  exact⟨by simp,.tp [.ag (cTy r),.int .i64 7],1,by simp[Tryz.f188,V.get,V.put,aX, *],aG (by simp[Val.closed,aE])⟩
 rw[if_pos hk1]
 replace h30:=h30 hk hk1
 have hlu:(row cTy [u]).length=6:=by rw[hru];exact bH u
 have hsp:∀v:Val,List.take 6 (List.take 5 (cTy f.ty)++v::List.drop 6 (cTy f.ty))=[.int .i64 2,.int .i64 f.ty.lo,.int .i64 f.ty.hi,sls aW f.ty.names,sls aZ f.ty.fields,v]:=by
  intro v;rw[fA];simp[hk]
 have h3:PureOk Tryz.prog Γ 261 [.ag (cTy r),.str s.a,.ag [.int .i64 2,.int .i64 f.ty.lo,.int .i64 f.ty.hi,sls aW f.ty.names,sls aZ f.ty.fields,.sl (cTy U) 1 (some 1)]] (.ag (cTy (eL r s.a (.mk 2 f.ty.lo f.ty.hi f.ty.names f.ty.fields [U])))):=by
  have e0:cTy (.mk 2 f.ty.lo f.ty.hi f.ty.names f.ty.fields [U])=[.int .i64 2,.int .i64 f.ty.lo,.int .i64 f.ty.hi,sls aW f.ty.names,sls aZ f.ty.fields,sls cTy [U]]:=fA _
  rw[e0] at h2
  refine h2.arg ⟨Wk.refl _,Wk.refl _,Wk.ag ⟨Wk.refl _,Wk.refl _,Wk.refl _,Wk.refl _,Wk.refl _,?_,trivial⟩,trivial⟩
  show Wk _ (Val.sl (row cTy [U]) 1 none)
  rw[bt,eG,List.append_nil]
  exact Wk.cap _ _ _
 generalize eL r s.a (.mk 2 f.ty.lo f.ty.hi f.ty.names f.ty.fields [U])=R2 at *
 have hv:vwL Tryz.prog [(23,.cells (cTy U) 26 false)] 60 [.ag (cTy r),.str s.a,.ag [.int .i64 2,.int .i64 f.ty.lo,.int .i64 f.ty.hi,sls aW f.ty.names,sls aZ f.ty.fields,.so 23 0 1 (some 1)]]=some [.ag (cTy r),.str s.a,.ag [.int .i64 2,.int .i64 f.ty.lo,.int .i64 f.ty.hi,sls aW f.ty.names,sls aZ f.ty.fields,.sl (cTy U) 1 (some 1)]]:=
  aI (aG (by simp[Val.closed])) (aI (aG rfl) (aI (er (by simp[aE,Val.closed]) (aI (aG rfl) (aI (aG rfl) (aI (aG rfl) (aI (aG (by simp)) (aI (aG (by simp)) (aI (dC (t:=26) rfl (by simp) (by simp) (by simp)) bR))))))) bR))
 have h4:=CallOk.freeze 30 h3 hv
 clear h2 h3 hv hb hg
 refine Y3 46 Tryz.func188 rfl rfl fun a hl g0 g1 g2=>?_
 repeat' first|refine G1 ?_|(refine G2 ?_ ?_<;>intro hc hd<;>try exact hd.elim)|fail
 refine aQ h30 ?_
 repeat' first|refine G1 ?_|(refine G2 ?_ ?_<;>intro hc hd<;>try exact hd.elim)|fail
 refine av h4 ?_
 repeat' first|refine G1 ?_|(refine G2 ?_ ?_<;>intro hc hd<;>try exact hd.elim)|fail
 exact⟨by simp,.tp [.ag (cTy R2),.int .i64 e],1,by simp[Tryz.f188,V.get,V.put,aX, *],aG (by simp[Val.closed,aE])⟩
end
end Go.V
end
section
set_option maxHeartbeats 4000000
namespace Go.V
open Go Go.Proofs
attribute [local irreducible] W bO WD aO yl aS bW
section
variable (Γ:Glo Tryz.prog)
attribute [local simp] veq eE
theorem f125 (H:iO Γ)(r:Ty)(s:Lns)(hb:wT r+wN s+99<big)(hg:gd r):PureOk Tryz.prog Γ 125 [.ag (cTy r),.ag (aK s)] (if d8 s.a=false then b8 r 1 else if (ah s.a r.fields).isSome then b8 r 5 else b8 (dQ r (.mk s.a false s.ty)) (dy s.ty s.doc)):=by
 have hw:=eM s
 have h1:=f127 Γ r s.a (by omega)
 have h2:=f107 Γ s.a (by omega)
 have h3:=f179 Γ H s.ty s.doc (by omega) (by omega)
 have h4:ah s.a r.fields=none→PureOk Tryz.prog Γ 178 [.ag (cTy r),.ag (.str s.a :: .bool false::cTy s.ty)] (.ag (cTy (dQ r (.mk s.a false s.ty)))):=fun he=>f178 Γ r (.mk s.a false s.ty) (by have:=dP r;omega) hg.srt he
 unfold lH at h1
 rw[hg.fieldR] at h1
 unfold b8
 generalize dQ r (.mk s.a false s.ty)=R2 at *
 generalize dy s.ty s.doc=e at *
 cases hn:d8 s.a with
 |false=>
  rw[hn] at h2
  simp only[if_true]
  generalize (ah s.a r.fields).isSome=B at *
  generalize (ah s.a r.fields).getD ji=G at *
  clear h3 h4 hb hg hw
  refine Y2 36 Tryz.func125 rfl rfl fun a hl g0 g1=>?_
  repeat' first|refine G1 ?_|(refine G2 ?_ ?_<;>intro hc hd<;>try exact hd.elim)|fail
  all_goals (try (refine aC h1 ?_))
  repeat' first|refine G1 ?_|(refine G2 ?_ ?_<;>intro hc hd<;>try exact hd.elim)|fail
  all_goals (try (refine aC h2 ?_))
  repeat' first|refine G1 ?_|(refine G2 ?_ ?_<;>intro hc hd<;>try exact hd.elim)|fail
  exact⟨by simp,.tp [.ag (cTy r),.int .i64 1],1,by simp[Tryz.f125,V.get,V.put,aX, *],aG (by simp[Val.closed,aE])⟩
 |true=>
  rw[hn] at h2
  simp only[Bool.true_eq_false,if_false]
  cases hf:ah s.a r.fields with
  |some g=>
   rw[hf] at h1
   simp only[Option.isSome_some,if_true,Option.getD_some] at h1 ⊢
   clear h3 h4 hb hg hw
   refine Y2 36 Tryz.func125 rfl rfl fun a hl g0 g1=>?_
   repeat' first|refine G1 ?_|(refine G2 ?_ ?_<;>intro hc hd<;>try exact hd.elim)|fail
   all_goals (try (refine aC h1 ?_))
   repeat' first|refine G1 ?_|(refine G2 ?_ ?_<;>intro hc hd<;>try exact hd.elim)|fail
   all_goals (try (refine aC h2 ?_))
   repeat' first|refine G1 ?_|(refine G2 ?_ ?_<;>intro hc hd<;>try exact hd.elim)|fail
   exact⟨by simp,.tp [.ag (cTy r),.int .i64 5],1,by simp[Tryz.f125,V.get,V.put,aX, *],aG (by simp[Val.closed,aE])⟩
  |none=>
   rw[hf] at h1
   replace h4:=h4 hf
   simp only[Option.isSome_none,Bool.false_eq_true,if_false,Option.getD_none] at h1 ⊢
   clear hb hg hw
   refine Y2 36 Tryz.func125 rfl rfl fun a hl g0 g1=>?_
   repeat' first|refine G1 ?_|(refine G2 ?_ ?_<;>intro hc hd<;>try exact hd.elim)|fail
   all_goals (try (refine aC h1 ?_))
   repeat' first|refine G1 ?_|(refine G2 ?_ ?_<;>intro hc hd<;>try exact hd.elim)|fail
   all_goals (try (refine aC h2 ?_))
   repeat' first|refine G1 ?_|(refine G2 ?_ ?_<;>intro hc hd<;>try exact hd.elim)|fail
   refine aQ h4 ?_
   repeat' first|refine G1 ?_|(refine G2 ?_ ?_<;>intro hc hd<;>try exact hd.elim)|fail
   refine aQ h3 ?_
   repeat' first|refine G1 ?_|(refine G2 ?_ ?_<;>intro hc hd<;>try exact hd.elim)|fail
   exact⟨by simp,.tp [.ag (cTy R2),.int .i64 e],1,by simp[Tryz.f125,V.get,V.put,aX, *],aG (by simp[Val.closed,aE])⟩
def gJ (k:Int):Option Nat:=if k=1 then some 180 else if 3≤k∧k≤10 then some (k.toNat+178) else none
theorem f126n (r:Ty)(k:Int)(h:gJ k=none):PureOk Tryz.prog Γ 126 [.ag (cTy r),.int .i64 k] .nilf:=by
 have hk:¬k=1∧¬k=3∧¬k=4∧¬k=5∧¬k=6∧¬k=7∧¬k=8∧¬k=9∧¬k=10:=by
  unfold gJ at h
  split at h
  ·
   cases h
  ·
   split at h
   ·
    cases h
   ·
    omega
 obtain⟨k1,k2,k3,k4,k5,k6,k7,k8,k9⟩:=hk
 clear h
 refine Y2 42 Tryz.func126 rfl rfl fun a hl g0 g1=>?_
 repeat' first|refine G1 ?_|(refine G2 ?_ ?_<;>intro hc hd<;>try exact hd.elim)|fail
 exact⟨by simp,.nilf,1,by simp[Tryz.f126,V.get,V.put,aX, *],rfl⟩
theorem f126s (r:Ty)(k:Int)(K:Nat)(h:gJ k=some K):PureOk Tryz.prog Γ 126 [.ag (cTy r),.int .i64 k] (.fn K [.ag (cTy r)] []):=by
 have hk:(k=1∧K=180)∨(k=3∧K=181)∨(k=4∧K=182)∨(k=5∧K=183)∨(k=6∧K=184)∨(k=7∧K=185)∨(k=8∧K=186)∨(k=9∧K=187)∨(k=10∧K=188):=by
  unfold gJ at h
  split at h
  ·
   cases h;omega
  ·
   split at h
   ·
    cases h;omega
   ·
    cases h
 clear h
 rcases hk with ⟨rfl,rfl⟩|⟨rfl,rfl⟩|⟨rfl,rfl⟩|⟨rfl,rfl⟩|⟨rfl,rfl⟩|⟨rfl,rfl⟩|⟨rfl,rfl⟩|⟨rfl,rfl⟩|⟨rfl,rfl⟩
 all_goals
  refine Y2 42 Tryz.func126 rfl rfl fun a hl g0 g1=>?_
  repeat' first|refine G1 ?_|(refine G2 ?_ ?_<;>intro hc hd<;>try exact hd.elim)|fail
  exact⟨by simp,_,1,by simp[Tryz.f126,V.get,V.put,aX, *],aG (by simp[Val.closed,aE])⟩
end
end Go.V
end
section
set_option maxHeartbeats 4000000
namespace Go.V
open Go Go.Proofs
attribute [local irreducible] W bO WD aO yl aS bW
section
variable (Γ:Glo Tryz.prog)
attribute [local simp] veq eE
theorem f70a (r:Ty)(s:Lns)(R:Ty)(e:Int)(hk:s.kind=2)(h:PureOk Tryz.prog Γ 125 [.ag (cTy r),.ag (aK s)] (b8 R e)):PureOk Tryz.prog Γ 70 [.ag (cTy r),.ag (aK s)] (b8 R e):=by
 unfold b8 at *
 have hta:List.take 16 (aK s)=aK s:=List.take_of_length_le (by rw[eR];omega)
 refine Y2 51 Tryz.func70 rfl rfl fun a hl g0 g1=>?_
 repeat' first|refine G1 ?_|(refine G2 ?_ ?_<;>intro hc hd<;>try exact hd.elim)|fail
 all_goals (try (refine aC h ?_))
 repeat' first|refine G1 ?_|(refine G2 ?_ ?_<;>intro hc hd<;>try exact hd.elim)|fail
 exact⟨by simp,.tp [.ag (cTy R),.int .i64 e],1,by simp[Tryz.f70,V.get,V.put,aX, *],aG (by simp[Val.closed,aE])⟩
theorem f70b (r:Ty)(s:Lns)(hb:wT r<big)(hg:gd r)(hk:¬s.kind=2)(h:gJ s.kind=none):PureOk Tryz.prog Γ 70 [.ag (cTy r),.ag (aK s)] (b8 r 1):=by
 have h1:=f126n Γ r s.kind h
 have h2:=f127 Γ r s.a hb
 unfold lH at h2
 rw[hg.fieldR] at h2
 generalize (ah s.a r.fields).isSome=B at *
 generalize (ah s.a r.fields).getD ji=G at *
 unfold b8
 clear h hb hg
 refine Y2 51 Tryz.func70 rfl rfl fun a hl g0 g1=>?_
 repeat' first|refine G1 ?_|(refine G2 ?_ ?_<;>intro hc hd<;>try exact hd.elim)|fail
 all_goals (try (refine aC h1 ?_))
 repeat' first|refine G1 ?_|(refine G2 ?_ ?_<;>intro hc hd<;>try exact hd.elim)|fail
 all_goals (try (refine aC h2 ?_))
 repeat' first|refine G1 ?_|(refine G2 ?_ ?_<;>intro hc hd<;>try exact hd.elim)|fail
 exact⟨by simp,.tp [.ag (cTy r),.int .i64 1],1,by simp[Tryz.f70,V.get,V.put,aX, *],aG (by simp[Val.closed,aE])⟩
theorem f70c (r:Ty)(s:Lns)(K:Nat)(hb:wT r<big)(hg:gd r)(hk:¬s.kind=2)(h:gJ s.kind=some K)(hf:ah s.a r.fields=none):PureOk Tryz.prog Γ 70 [.ag (cTy r),.ag (aK s)] (b8 r 9):=by
 have h1:=f126s Γ r s.kind K h
 have h2:=f127 Γ r s.a hb
 unfold lH at h2
 rw[hg.fieldR,hf] at h2
 simp only[Option.isSome_none,Option.getD_none] at h2
 unfold b8
 clear h hb hg hf
 refine Y2 51 Tryz.func70 rfl rfl fun a hl g0 g1=>?_
 repeat' first|refine G1 ?_|(refine G2 ?_ ?_<;>intro hc hd<;>try exact hd.elim)|fail
 all_goals (try (refine aC h1 ?_))
 repeat' first|refine G1 ?_|(refine G2 ?_ ?_<;>intro hc hd<;>try exact hd.elim)|fail
 all_goals (try (refine aC h2 ?_))
 repeat' first|refine G1 ?_|(refine G2 ?_ ?_<;>intro hc hd<;>try exact hd.elim)|fail
 exact⟨by simp,.tp [.ag (cTy r),.int .i64 9],1,by simp[Tryz.f70,V.get,V.put,aX, *],aG (by simp[Val.closed,aE])⟩
theorem f70d (r:Ty)(s:Lns)(K:Nat)(f:Fld)(hb:wT r<big)(hg:gd r)(hk:¬s.kind=2)(hk1:¬s.kind=1)(h:gJ s.kind=some K)(hf:ah s.a r.fields=some f)(ho:f.opt=true):PureOk Tryz.prog Γ 70 [.ag (cTy r),.ag (aK s)] (b8 r 7):=by
 have h1:=f126s Γ r s.kind K h
 have h2:=f127 Γ r s.a hb
 unfold lH at h2
 rw[hg.fieldR,hf] at h2
 simp only[Option.isSome_some,Option.getD_some] at h2
 unfold b8
 clear h hb hg hf
 refine Y2 51 Tryz.func70 rfl rfl fun a hl g0 g1=>?_
 repeat' first|refine G1 ?_|(refine G2 ?_ ?_<;>intro hc hd<;>try exact hd.elim)|fail
 all_goals (try (refine aC h1 ?_))
 repeat' first|refine G1 ?_|(refine G2 ?_ ?_<;>intro hc hd<;>try exact hd.elim)|fail
 all_goals (try (refine aC h2 ?_))
 repeat' first|refine G1 ?_|(refine G2 ?_ ?_<;>intro hc hd<;>try exact hd.elim)|fail
 exact⟨by simp,.tp [.ag (cTy r),.int .i64 7],1,by simp[Tryz.f70,V.get,V.put,aX, *],aG (by simp[Val.closed,aE])⟩
theorem f70e (r:Ty)(s:Lns)(K:Nat)(f:Fld)(R:Ty)(e:Int)(hb:wT r<big)(hg:gd r)(hk:¬s.kind=2)(h:gJ s.kind=some K)(hf:ah s.a r.fields=some f)(ho:f.opt=false∨s.kind=1)(hp:bL Tryz.prog K=true)(h3:PureOk Tryz.prog Γ K [.ag (cTy r),.ag (aZ f),.ag (aK s)] (b8 R e)) :
  PureOk Tryz.prog Γ 70 [.ag (cTy r),.ag (aK s)] (b8 R e):=by
 have h1:=f126s Γ r s.kind K h
 have h2:=f127 Γ r s.a hb
 unfold lH at h2
 rw[hg.fieldR,hf] at h2
 simp only[Option.isSome_some,Option.getD_some] at h2
 unfold b8 at *
 have hta:List.take 16 (aK s)=aK s:=List.take_of_length_le (by rw[eR];omega)
 have htf:List.take 8 (aZ f)=aZ f:=List.take_of_length_le (by rw[iP];omega)
 clear h hb hg hf
 cases hq:f.opt with
 |false=>
  clear ho
  refine Y2 51 Tryz.func70 rfl rfl fun a hl g0 g1=>?_
  repeat' first|refine G1 ?_|(refine G2 ?_ ?_<;>intro hc hd<;>try exact hd.elim)|fail
  all_goals (try (refine aC h1 ?_))
  repeat' first|refine G1 ?_|(refine G2 ?_ ?_<;>intro hc hd<;>try exact hd.elim)|fail
  all_goals (try (refine aC h2 ?_))
  repeat' first|refine G1 ?_|(refine G2 ?_ ?_<;>intro hc hd<;>try exact hd.elim)|fail
  refine aC (hp:=hp) h3 ?_
  repeat' first|refine G1 ?_|(refine G2 ?_ ?_<;>intro hc hd<;>try exact hd.elim)|fail
  exact⟨by simp,.tp [.ag (cTy R),.int .i64 e],1,by simp[Tryz.f70,V.get,V.put,aX, *],aG (by simp[Val.closed,aE])⟩
 |true=>
  have hk1:s.kind=1:=by
   rcases ho with h|h
   ·
    rw[hq] at h;cases h
   ·
    exact h
  rw[hk1] at h1
  clear ho
  refine Y2 51 Tryz.func70 rfl rfl fun a hl g0 g1=>?_
  repeat' first|refine G1 ?_|(refine G2 ?_ ?_<;>intro hc hd<;>try exact hd.elim)|fail
  all_goals (try (refine aC h1 ?_))
  repeat' first|refine G1 ?_|(refine G2 ?_ ?_<;>intro hc hd<;>try exact hd.elim)|fail
  all_goals (try (refine aC h2 ?_))
  repeat' first|refine G1 ?_|(refine G2 ?_ ?_<;>intro hc hd<;>try exact hd.elim)|fail
  refine aC (hp:=hp) h3 ?_
  repeat' first|refine G1 ?_|(refine G2 ?_ ?_<;>intro hc hd<;>try exact hd.elim)|fail
  exact⟨by simp,.tp [.ag (cTy R),.int .i64 e],1,by simp[Tryz.f70,V.get,V.put,aX, *],aG (by simp[Val.closed,aE])⟩
def Bq:Except Int Ty→Ty→Int→Prop
 |.ok t,R,e=>e=0∧R=t
 |.error e',_,e=>e=e'∧e≠0
def CY (l:List Lns):Except (Nat×Int) Ty→Ty×Int×Int
 |.ok u=>(u,l.length,0)
 |.error e=>(zeroTy,e.1,e.2)
def sc (l:List Lns)(t:Ty):Prop:=PureOk Tryz.prog Γ 30 [.ag (cTy t),sls aK l] (i8 (CY l (bQ l t 0)).1 (CY l (bQ l t 0)).2.1 (CY l (bQ l t 0)).2.2)
theorem f70 (H:iO Γ)(s:Lns)(H30:∀t,gd t→sc Γ s.subs t)(r:Ty)(hg:gd r)(hb:wN s<30000000000):∃R e,PureOk Tryz.prog Γ 70 [.ag (cTy r),.ag (aK s)] (b8 R e)∧Bq (eu s r) R e:=by
 have hr:=ny hg.right
 have hbr:wT r<big:=by unfold big;omega
 have hR:∀n,fieldR r n=ah n r.fields:=hg.fieldR
 by_cases k2:s.kind=2
 ·
  have h1:=f125 Γ H r s (by unfold big;omega) hg
  have hst:eu s r=if d8 s.a=false then .error 1 else if (fieldR r s.a).isSome then .error 5 else if dy s.ty s.doc=0 then .ok (dQ r (.mk s.a false s.ty)) else .error (dy s.ty s.doc):=by
   obtain⟨k,a,b,ty,d,sw,subs⟩:=s
   simp only[Lns.kind,Lns.a,Lns.ty,Lns.doc] at *
   rw[eu,if_pos k2]
   rfl
  rw[hst,hR]
  by_cases hn:d8 s.a=false
  ·
   rw[if_pos hn] at h1 ⊢
   exact⟨r,1,f70a Γ r s r 1 k2 h1,rfl,by decide⟩
  rw[if_neg hn] at h1 ⊢
  by_cases hf:(ah s.a r.fields).isSome=true
  ·
   rw[if_pos hf] at h1 ⊢
   exact⟨r,5,f70a Γ r s r 5 k2 h1,rfl,by decide⟩
  rw[if_neg hf] at h1 ⊢
  refine⟨_,_,f70a Γ r s _ _ k2 h1,?_⟩
  split
  ·
   rename_i h;exact⟨h,rfl⟩
  ·
   rename_i h;exact⟨rfl,h⟩
 cases hK:gJ s.kind with
 |none=>
  have hst:eu s r=.error 1:=by
   obtain⟨k,a,b,ty,d,sw,subs⟩:=s
   simp only[Lns.kind,Lns.a,Lns.ty,Lns.doc] at *
   rw[eu,if_neg k2,if_neg]
   unfold gJ at hK
   split at hK
   ·
    cases hK
   ·
    split at hK
    ·
     cases hK
    ·
     omega
  rw[hst]
  exact⟨r,1,f70b Γ r s hbr hg k2 hK,rfl,by decide⟩
 |some K=>
  have hkk:s.kind=1∨(3≤s.kind∧s.kind≤10):=by
   unfold gJ at hK
   split at hK
   ·
    left;assumption
   ·
    split at hK
    ·
     right;assumption
    ·
     cases hK
  cases hf:ah s.a r.fields with
  |none=>
   have hst:eu s r=.error 9:=by
    obtain⟨k,a,b,ty,d,sw,subs⟩:=s
    simp only[Lns.kind,Lns.a,Lns.ty,Lns.doc] at *
    rw[eu,if_neg k2,if_pos hkk,hR,hf]
   rw[hst]
   exact⟨r,9,f70c Γ r s K hbr hg k2 hK hf,rfl,by decide⟩
  |some f=>
   have hfw:=fG (cD hf).2
   have hty:=(hg.fld hf).2.2
   by_cases ho:f.opt=true∧s.kind≠1
   ·
    have hst:eu s r=.error 7:=by
     obtain⟨k,a,b,ty,d,sw,subs⟩:=s
     simp only[Lns.kind,Lns.a,Lns.ty,Lns.doc] at *
     rw[eu,if_neg k2,if_pos hkk,hR,hf]
     simp only
     rw[if_pos ho]
    rw[hst]
    exact⟨r,7,f70d Γ r s K f hbr hg k2 ho.2 hK hf ho.1,rfl,by decide⟩
   have ho':f.opt=false∨s.kind=1:=by
    by_cases h1:s.kind=1
    ·
     exact .inr h1
    ·
     left
     cases hq:f.opt with
     |false=>rfl
     |true=>exact(ho ⟨hq,h1⟩).elim
   have hgo:∀R e,bL Tryz.prog K=true→PureOk Tryz.prog Γ K [.ag (cTy r),.ag (aZ f),.ag (aK s)] (b8 R e)→PureOk Tryz.prog Γ 70 [.ag (cTy r),.ag (aK s)] (b8 R e):=fun R e hp h=>f70e Γ r s K f R e hbr hg k2 hK hf ho' hp h
   have hst:eu s r=(if s.kind=1 then
     if d8 s.b=false then .error 1 else if (ah s.b r.fields).isSome then .error 5 else .ok (dQ (ax r s.a) (.mk s.b f.opt f.ty))
    else if s.kind=3 then
     if eqT f.ty s.ty=false then .error 7 else if dy s.ty s.doc=0 then .ok (ax r s.a) else .error (dy s.ty s.doc)
    else if s.kind=4 then
     if f.ty.kind≠1 then .error 7 else
     match ah s.b f.ty.fields with
     |none=>.error 9
     |some g=>if g.opt then .error 7 else if (ah s.b r.fields).isSome then .error 5 else .ok (dQ (eL r s.a (ax f.ty s.b)) g)
    else if s.kind=5 then
     match ah s.b r.fields with
     |none=>.error 9
     |some g=>if g.opt=true∨f.ty.kind≠1∨s.a=s.b then .error 7 else
      if (ah s.b f.ty.fields).isSome then .error 5 else .ok (ax (eL r s.a (dQ f.ty g)) s.b)
    else if s.kind=6 then
     if de f.ty then .ok (eL r s.a (.mk 3 1 1 [] [] [f.ty])) else .error 7
    else if s.kind=7 then
     match f.ty with
     |.mk 3 1 1 _ _ (t::_)=>if de t then .ok (eL r s.a t) else .error 7
     |_=>.error 7
    else if s.kind=8 then
     if f.ty.kind≠4 then .error 7 else if iY s.swaps f.ty=0 then .ok r else .error (iY s.swaps f.ty)
    else if s.kind=9 then
     if f.ty.kind≠1 then .error 7 else
     match bQ s.subs f.ty 0 with
     |.ok t=>.ok (eL r s.a t)
     |.error e=>.error e.2
    else
     match f.ty with
     |.mk 2 lo hi ns fs (t::_)=>if t.kind≠1 then .error 7 else
      match bQ s.subs t 0 with
      |.ok u=>.ok (eL r s.a (.mk 2 lo hi ns fs [u]))
      |.error e=>.error e.2
     |_=>.error 7):=by
    obtain⟨k,a,b,ty,d,sw,subs⟩:=s
    simp only[Lns.kind,Lns.a,Lns.b,Lns.ty,Lns.doc,Lns.swaps,Lns.subs] at *
    rw[eu,if_neg k2,if_pos hkk,hR,hf]
    simp only
    rw[if_neg ho]
    simp only[hR]
    rfl
   rw[hst]
   clear hst
   have hbb:3*wT r+wN s+2*wT f.ty+99<big:=by unfold big;omega
   have hbs:wT r+wN s+wT f.ty+9<big:=by unfold big;omega
   have hKn:∀n:Nat,s.kind=(n:Int)→3≤n→K=n+178:=fun n hn h3=>by
    unfold gJ at hK
    rw[hn,if_neg (by omega),if_pos ⟨by omega,by omega⟩] at hK
    simp at hK
    omega
   by_cases k1:s.kind=1
   ·
    have hK1:K=180:=by
     unfold gJ at hK
     rw[if_pos k1] at hK
     simp at hK
     exact hK.symm
    subst hK1
    have h:=f180 Γ r f s hbs hg
    rw[hR] at h
    rw[if_pos k1]
    by_cases c1:d8 s.b=false
    ·
     rw[if_pos c1] at h ⊢;exact⟨r,1,hgo _ _ (by kernel_rfl) h,rfl,by decide⟩
    rw[if_neg c1] at h ⊢
    by_cases c2:(ah s.b r.fields).isSome=true
    ·
     rw[if_pos c2] at h ⊢;exact⟨r,5,hgo _ _ (by kernel_rfl) h,rfl,by decide⟩
    rw[if_neg c2] at h ⊢
    exact⟨_,0,hgo _ _ (by kernel_rfl) h,rfl,rfl⟩
   rw[if_neg k1]
   by_cases k3:s.kind=3
   ·
    have hK1:=hKn 3 k3 (by omega)
    subst hK1
    have h:=f181 Γ H r f s hbs
    rw[if_pos k3]
    by_cases c1:eqT f.ty s.ty=false
    ·
     rw[if_pos c1] at h ⊢;exact⟨r,7,hgo _ _ (by kernel_rfl) h,rfl,by decide⟩
    rw[if_neg c1] at h ⊢
    refine⟨_,_,hgo _ _ (by kernel_rfl) h,?_⟩
    split
    ·
     rename_i h;exact⟨h,rfl⟩
    ·
     rename_i h;exact⟨rfl,h⟩
   rw[if_neg k3]
   by_cases k4:s.kind=4
   ·
    have hK1:=hKn 4 k4 (by omega)
    subst hK1
    have h:=f182 Γ r f s hbs hg hf
    rw[if_pos k4]
    by_cases c1:f.ty.kind=1
    case neg=>
     rw[if_neg c1] at h
     rw[if_pos c1]
     exact⟨r,7,hgo _ _ (by kernel_rfl) h,rfl,by decide⟩
    rw[if_pos c1] at h
    rw[if_neg (fun h=>h c1)]
    cases hg0:ah s.b f.ty.fields with
    |none=>rw[hg0] at h;exact⟨r,9,hgo _ _ (by kernel_rfl) h,rfl,by decide⟩
    |some g=>
     rw[hg0] at h
     simp only at h ⊢
     by_cases c2:g.opt=true
     ·
      rw[if_pos c2] at h ⊢;exact⟨r,7,hgo _ _ (by kernel_rfl) h,rfl,by decide⟩
     rw[if_neg c2] at h ⊢
     by_cases c3:(ah s.b r.fields).isSome=true
     ·
      rw[if_pos c3] at h ⊢;exact⟨r,5,hgo _ _ (by kernel_rfl) h,rfl,by decide⟩
     rw[if_neg c3] at h ⊢
     exact⟨_,0,hgo _ _ (by kernel_rfl) h,rfl,rfl⟩
   rw[if_neg k4]
   by_cases k5:s.kind=5
   ·
    have hK1:=hKn 5 k5 (by omega)
    subst hK1
    have h:=f183 Γ r f s hbb hg hf
    rw[if_pos k5]
    cases hg0:ah s.b r.fields with
    |none=>rw[hg0] at h;exact⟨r,9,hgo _ _ (by kernel_rfl) h,rfl,by decide⟩
    |some g=>
     rw[hg0] at h
     simp only at h ⊢
     by_cases c2:g.opt=true∨f.ty.kind≠1∨s.a=s.b
     ·
      rw[if_pos c2] at h ⊢;exact⟨r,7,hgo _ _ (by kernel_rfl) h,rfl,by decide⟩
     rw[if_neg c2] at h ⊢
     by_cases c3:(ah s.b f.ty.fields).isSome=true
     ·
      rw[if_pos c3] at h ⊢;exact⟨r,5,hgo _ _ (by kernel_rfl) h,rfl,by decide⟩
     rw[if_neg c3] at h ⊢
     exact⟨_,0,hgo _ _ (by kernel_rfl) h,rfl,rfl⟩
   rw[if_neg k5]
   by_cases k6:s.kind=6
   ·
    have hK1:=hKn 6 k6 (by omega)
    subst hK1
    have h:=f184 Γ r f s hbb hg hf
    rw[if_pos k6]
    by_cases c1:de f.ty=true
    ·
     rw[if_pos c1] at h ⊢;exact⟨_,0,hgo _ _ (by kernel_rfl) h,rfl,rfl⟩
    rw[if_neg c1] at h ⊢
    exact⟨r,7,hgo _ _ (by kernel_rfl) h,rfl,by decide⟩
   rw[if_neg k6]
   by_cases k7:s.kind=7
   ·
    have hK1:=hKn 7 k7 (by omega)
    subst hK1
    have h:=f185 Γ r f s hbb hg hf
    rw[if_pos k7]
    by_cases c1:f.ty.kind=3∧f.ty.lo=1∧f.ty.hi=1
    case neg=>
     rw[if_neg c1] at h
     refine⟨r,7,hgo _ _ (by kernel_rfl) h,?_⟩
     split
     ·
      rename_i heq
      rw[heq] at c1
      exact(c1 ⟨rfl,rfl,rfl⟩).elim
     ·
      exact⟨rfl,by decide⟩
    rw[if_pos c1] at h
    obtain⟨u,hu,_⟩:=vF hty (.inr c1.1)
    have hfe:f.ty=.mk 3 1 1 f.ty.names f.ty.fields [u]:=by
     have:=Ty.eta f.ty
     rw[c1.1,c1.2.1,c1.2.2,hu] at this
     exact this
    rw[hu] at h
    rw[hfe]
    simp only at h ⊢
    by_cases c2:de u=true
    ·
     rw[if_pos c2] at h ⊢;exact⟨_,0,hgo _ _ (by kernel_rfl) h,rfl,rfl⟩
    rw[if_neg c2] at h ⊢
    exact⟨r,7,hgo _ _ (by kernel_rfl) h,rfl,by decide⟩
   rw[if_neg k7]
   by_cases k8:s.kind=8
   ·
    have hK1:=hKn 8 k8 (by omega)
    subst hK1
    have h:=f186 Γ r f s hbb
    rw[if_pos k8]
    by_cases c1:f.ty.kind=4
    case neg=>
     rw[if_neg c1] at h
     rw[if_pos c1]
     exact⟨r,7,hgo _ _ (by kernel_rfl) h,rfl,by decide⟩
    rw[if_pos c1] at h
    rw[if_neg (fun h=>h c1)]
    refine⟨_,_,hgo _ _ (by kernel_rfl) h,?_⟩
    split
    ·
     rename_i h;exact⟨h,rfl⟩
    ·
     rename_i h;exact⟨rfl,h⟩
   rw[if_neg k8]
   by_cases k9:s.kind=9
   ·
    have hK1:=hKn 9 k9 (by omega)
    subst hK1
    have h:=f187 Γ r f s _ _ _ (by unfold big;omega) hg (fun hk=>H30 f.ty ⟨hty,hk⟩)
    rw[if_pos k9]
    by_cases c1:f.ty.kind=1
    case neg=>
     rw[if_neg c1] at h
     rw[if_pos c1]
     exact⟨r,7,hgo _ _ (by kernel_rfl) h,rfl,by decide⟩
    rw[if_pos c1] at h
    rw[if_neg (fun h=>h c1)]
    refine⟨_,_,hgo _ _ (by kernel_rfl) h,?_⟩
    cases hs:bQ s.subs f.ty 0 with
    |ok t=>exact⟨rfl,rfl⟩
    |error e=>exact⟨rfl,sU _ _ _ _ hs⟩
   rw[if_neg k9]
   have k10:s.kind=10:=by omega
   have hK1:=hKn 10 k10 (by omega)
   subst hK1
   by_cases c1:f.ty.kind=2
   case neg=>
    have h:=f188 Γ r f s f.ty f.ty 0 0 (by unfold big;omega) hg (fun h=>(c1 h).elim) (fun h=>(c1 h).elim)
    rw[if_neg c1] at h
    refine⟨r,7,hgo _ _ (by kernel_rfl) h,?_⟩
    split
    ·
     rename_i heq
     rw[heq] at c1
     exact(c1 rfl).elim
    ·
     exact⟨rfl,by decide⟩
   obtain⟨u,hu,hu2⟩:=vF hty (.inl c1)
   have h:=f188 Γ r f s u _ _ _ (by unfold big;omega) hg (fun _=>hu) (fun _ hk=>H30 u ⟨hu2,hk⟩)
   rw[if_pos c1] at h
   have hfe:f.ty=.mk 2 f.ty.lo f.ty.hi f.ty.names f.ty.fields [u]:=by
    have:=Ty.eta f.ty
    rw[c1,hu] at this
    exact this
   rw[hfe]
   simp only
   by_cases c2:u.kind=1
   case neg=>
    rw[if_neg c2] at h
    rw[if_pos c2]
    exact⟨r,7,hgo _ _ (by kernel_rfl) h,rfl,by decide⟩
   rw[if_pos c2] at h
   rw[if_neg (fun h=>h c2)]
   refine⟨_,_,hgo _ _ (by kernel_rfl) h,?_⟩
   cases hs:bQ s.subs u 0 with
   |ok t=>exact⟨rfl,rfl⟩
   |error e=>exact⟨rfl,sU _ _ _ _ hs⟩
end
end Go.V
end
section
set_option maxHeartbeats 4000000
namespace Go.V
open Go Go.Proofs
attribute [local irreducible] W bO WD aO yl aS bW
section
variable (Γ:Glo Tryz.prog)
attribute [local simp] veq eE
@[simp] theorem Gk:dB Tryz.prog 26 []=some [.int .i64 0,.int .i64 0,.int .i64 0,.nils,.nils,.nils]:=by kernel_rfl
theorem ra:Wk (.ag [.int .i64 0,.int .i64 0,.int .i64 0,.nils,.nils,.nils]) (.ag (cTy zeroTy)):=Wk.ag ⟨Wk.refl _,Wk.refl _,Wk.refl _,Wk.nils,Wk.nils,Wk.nils,trivial⟩
def lM (l:List Lns):Prop:=∀s∈l,∀r,gd r→∃R e,PureOk Tryz.prog Γ 70 [.ag (cTy r),.ag (aK s)] (b8 R e)∧Bq (eu s r) R e
theorem f30ok (l:List Lns)(t u:Ty)(hg:gd t)(hb:wNs l<30000000000)(hk:lM Γ l)(hs:bQ l t 0=.ok u):PureOk Tryz.prog Γ 30 [.ag (cTy t),sls aK l] (i8 u l.length 0):=by
 have hbl:l.length<100000000000:=by have:=iE l;omega
 unfold i8
 refine Y2 46 Tryz.func30 rfl rfl fun a hl g0 g1=>?_
 repeat' first|refine G1 ?_|(refine G2 ?_ ?_<;>intro hc hd<;>try exact hd.elim)|fail
 refine jh (h':=[(1,.cells [.int .i64 0,.int .i64 0,.int .i64 0,.nils,.nils,.nils] 26 false),(6,.cells (cTy t) 125 false)]) (by (repeat (first|exact aU|refine aP (by simp[V.get, *]) ?_))) ?_
 refine am [(5,6),(8,11),(17,41)] [16] (fun k a h=>∃pre rest r0,l=pre++rest∧k=rest.length∧lk a 16=some (.int .i64 pre.length)∧gd r0∧bQ rest r0 0=.ok u∧h=[(1,.cells [.int .i64 0,.int .i64 0,.int .i64 0,.nils,.nils,.nils] 26 false),(6,.cells (cTy r0) 125 false)]) ⟨[],l,t,rfl,rfl,by simp[*],hg,hs,rfl⟩ ?_
 intro a1 hk hk0 k a h hF hI
 replace g1:=hF.a hk 1
 replace g4:=hF.a hk 4
 replace g7:=hF.a hk 7
 replace g14:=hF.a hk 14
 replace g15:=hF.a hk 15
 replace hl:a.length=46:=hF.len.trans (hk0.trans (by simp[*]))
 clear hk hk0
 clear hs hg
 obtain⟨pre,rest,r0,hl0,rfl,h16,hg,hs,rfl⟩:=hI
 cases rest with
 |nil=>
  simp only[bQ,Except.ok.injEq] at hs
  subst hs
  simp only[List.append_nil] at hl0
  subst hl0
  clear hk
  repeat' first|refine G1 ?_|(refine G2 ?_ ?_<;>intro hc hd<;>try exact hd.elim)|fail
  exact⟨by simp,.tp [.ag (cTy r0),.int .i64 l.length,.int .i64 0],1,by simp[Tryz.f30,V.get,V.put,aX, *],aG (by simp[Val.closed,aE])⟩
 |cons x r=>
  obtain⟨r1,hs1,hs2,hs3⟩:=fF.1 hs
  obtain⟨R,e,h70,hres⟩:=hk x (by simp[hl0]) r0 hg
  rw[hs1] at hres
  obtain⟨rfl,rfl⟩:=hres
  have hg1:gd R:=⟨hs2,(rx x hg.kind hs1).kind hg.kind⟩
  have h27:=f27 Γ R (by have:=ny hs2;unfold big;omega)
  rw[hs2] at h27
  have hlt:(pre.length:Int)<pre.length+(r.length+1):=by omega
  have hw:=ad ((pre.length:Int)+1) (by omega) (by simp[hl0] at hbl;omega)
  have hbl':pre.length<100000000000:=by simp[hl0] at hbl;omega
  have htx:List.take 16 (aK x)=aK x:=List.take_of_length_le (by rw[eR];omega)
  unfold b8 at h70
  subst hl0
  clear hk hs hs1 hs2
  repeat' first|refine G1 ?_|(refine G2 ?_ ?_<;>intro hc hd<;>try exact hd.elim)|fail
  all_goals (try (refine aC h70 ?_))
  repeat' first|refine G1 ?_|(refine G2 ?_ ?_<;>intro hc hd<;>try exact hd.elim)|fail
  all_goals (try (refine aC h27 ?_))
  repeat' first|refine G1 ?_|(refine G2 ?_ ?_<;>intro hc hd<;>try exact hd.elim)|fail
  exact NX [(1,.cells [.int .i64 0,.int .i64 0,.int .i64 0,.nils,.nils,.nils] 26 false),(6,.cells (cTy R) 125 false)] fun a2 hF2=>⟨pre++[x],r,R,by simp,rfl,(hF2.q 16),hg1,hs3,rfl⟩
theorem f30er (l:List Lns)(t:Ty)(e0:Nat×Int)(hg:gd t)(hb:wNs l<30000000000)(hk:lM Γ l)(hs:bQ l t 0=.error e0):PureOk Tryz.prog Γ 30 [.ag (cTy t),sls aK l] (i8 zeroTy e0.1 e0.2):=by
 have hbl:l.length<100000000000:=by have:=iE l;omega
 unfold i8
 refine PureOk.wk (r:=.tp [.ag [.int .i64 0,.int .i64 0,.int .i64 0,.nils,.nils,.nils],.int .i64 e0.1,.int .i64 e0.2]) ?_ (Wk.tp ⟨ra,Wk.refl _,Wk.refl _,trivial⟩)
 refine Y2 46 Tryz.func30 rfl rfl fun a hl g0 g1=>?_
 repeat' first|refine G1 ?_|(refine G2 ?_ ?_<;>intro hc hd<;>try exact hd.elim)|fail
 refine jh (h':=[(1,.cells [.int .i64 0,.int .i64 0,.int .i64 0,.nils,.nils,.nils] 26 false),(6,.cells (cTy t) 125 false)]) (by (repeat (first|exact aU|refine aP (by simp[V.get, *]) ?_))) ?_
 refine am [(5,6),(8,11),(17,41)] [16] (fun k a h=>∃pre rest r0,l=pre++rest∧k=rest.length∧lk a 16=some (.int .i64 pre.length)∧gd r0∧bQ rest r0 pre.length=.error e0∧h=[(1,.cells [.int .i64 0,.int .i64 0,.int .i64 0,.nils,.nils,.nils] 26 false),(6,.cells (cTy r0) 125 false)]) ⟨[],l,t,rfl,rfl,by simp[*],hg,hs,rfl⟩ ?_
 intro a1 hk hk0 k a h hF hI
 replace g1:=hF.a hk 1
 replace g4:=hF.a hk 4
 replace g7:=hF.a hk 7
 replace g14:=hF.a hk 14
 replace g15:=hF.a hk 15
 replace hl:a.length=46:=hF.len.trans (hk0.trans (by simp[*]))
 clear hk hk0
 clear hs hg
 obtain⟨pre,rest,r0,hl0,rfl,h16,hg,hs,rfl⟩:=hI
 cases rest with
 |nil=>simp[bQ] at hs
 |cons x r=>
  obtain⟨R,e,h70,hres⟩:=hk x (by simp[hl0]) r0 hg
  have hlt:(pre.length:Int)<pre.length+(r.length+1):=by omega
  have hw:=ad ((pre.length:Int)+1) (by omega) (by simp[hl0] at hbl;omega)
  have hbl':pre.length<100000000000:=by simp[hl0] at hbl;omega
  have htx:List.take 16 (aK x)=aK x:=List.take_of_length_le (by rw[eR];omega)
  have hbx:wN x≤wNs l:=dI (by simp[hl0])
  rw[bQ] at hs
  unfold b8 at h70
  cases hst:eu x r0 with
  |error e'=>
   rw[hst] at hs hres
   simp only[Except.error.injEq] at hs
   obtain⟨rfl,hne⟩:=hres
   subst hs
   simp only at *
   subst hl0
   clear hk hst hg
   repeat' first|refine G1 ?_|(refine G2 ?_ ?_<;>intro hc hd<;>try exact hd.elim)|fail
   all_goals (try (refine aC h70 ?_))
   repeat' first|refine G1 ?_|(refine G2 ?_ ?_<;>intro hc hd<;>try exact hd.elim)|fail
   exact⟨by simp,.tp [.ag [.int .i64 0,.int .i64 0,.int .i64 0,.nils,.nils,.nils],.int .i64 pre.length,.int .i64 e],1,by simp[Tryz.f30,V.get,V.put,aX, *],aG rfl⟩
  |ok r1=>
   rw[hst] at hs hres
   obtain⟨rfl,rfl⟩:=hres
   have hd:=rx x hg.kind hst
   have h27:=f27 Γ R (by have:=Dc hg hd;unfold big;omega)
   simp only at hs
   by_cases hR:bq R=true
   ·
    rw[if_pos hR] at hs
    have hg1:gd R:=⟨hR,hd.kind hg.kind⟩
    rw[hR] at h27
    subst hl0
    clear hk hst hg hd
    repeat' first|refine G1 ?_|(refine G2 ?_ ?_<;>intro hc hd<;>try exact hd.elim)|fail
    all_goals (try (refine aC h70 ?_))
    repeat' first|refine G1 ?_|(refine G2 ?_ ?_<;>intro hc hd<;>try exact hd.elim)|fail
    all_goals (try (refine aC h27 ?_))
    repeat' first|refine G1 ?_|(refine G2 ?_ ?_<;>intro hc hd<;>try exact hd.elim)|fail
    exact NX [(1,.cells [.int .i64 0,.int .i64 0,.int .i64 0,.nils,.nils,.nils] 26 false),(6,.cells (cTy R) 125 false)] fun a2 hF2=>⟨pre++[x],r,R,by simp,rfl,(hF2.q 16),hg1,by simpa using hs,rfl⟩
   ·
    rw[if_neg hR] at hs
    simp only[Except.error.injEq] at hs
    subst hs
    have hR':bq R=false:=by simpa using hR
    rw[hR'] at h27
    subst hl0
    clear hk hst hg hd
    repeat' first|refine G1 ?_|(refine G2 ?_ ?_<;>intro hc hd<;>try exact hd.elim)|fail
    all_goals (try (refine aC h70 ?_))
    repeat' first|refine G1 ?_|(refine G2 ?_ ?_<;>intro hc hd<;>try exact hd.elim)|fail
    all_goals (try (refine aC h27 ?_))
    repeat' first|refine G1 ?_|(refine G2 ?_ ?_<;>intro hc hd<;>try exact hd.elim)|fail
    exact⟨by simp,.tp [.ag [.int .i64 0,.int .i64 0,.int .i64 0,.nils,.nils,.nils],.int .i64 pre.length,.int .i64 2],1,by simp[Tryz.f30,V.get,V.put,aX, *],aG rfl⟩
theorem f30 (H:iO Γ)(l:List Lns):wNs l<30000000000→∀t,gd t→sc Γ l t:=by
 have main:∀l:List Lns,wNs l<30000000000→lM Γ l→∀t,gd t→sc Γ l t:=by
  intro l hb hk t hg
  unfold sc
  cases hs:bQ l t 0 with
  |ok u=>exact f30ok Γ l t u hg hb hk hs
  |error e=>exact f30er Γ l t e hg hb hk hs
 have key:∀s:Lns,wN s<30000000000→∀r,gd r→∃R e,PureOk Tryz.prog Γ 70 [.ag (cTy r),.ag (aK s)] (b8 R e)∧Bq (eu s r) R e:=by
  intro s
  induction s using Lns.ind with
  |h s ih=>
   intro hb r hg
   have hw:=eM s
   refine f70 Γ H s (fun t ht=>main s.subs (by omega) (fun x hx r hr=>ih x hx ?_ r hr) t ht) r hg hb
   have:=dI hx
   omega
 intro hb t hg
 refine main l hb (fun s hs r hr=>key s ?_ r hr) t hg
 have:=dI hs
 omega
theorem f9 (H:iO Γ)(t:Ty)(l:List Lns)(ht:wT t<big)(hl:wNs l<30000000000):PureOk Tryz.prog Γ 9 [.ag (cTy t),sls aK l] (i8 (bC t l).1 (bC t l).2.1 (bC t l).2.2):=by
 have h27:=f27 Γ t ht
 have h28:=f28' Γ l (by unfold big;omega)
 have h29:=f29' Γ l (by unfold big;omega)
 unfold bC i8
 have zero:∀(k e:Int),PureOk Tryz.prog Γ 9 [.ag (cTy t),sls aK l] (.tp [.ag [.int .i64 0,.int .i64 0,.int .i64 0,.nils,.nils,.nils],.int .i64 k,.int .i64 e])→PureOk Tryz.prog Γ 9 [.ag (cTy t),sls aK l] (.tp [.ag (cTy zeroTy),.int .i64 k,.int .i64 e]):=fun k e h=>PureOk.wk h (Wk.tp ⟨ra,Wk.refl _,Wk.refl _,trivial⟩)
 by_cases hr:bq t=true
 case neg=>
  rw[if_pos (.inl (by simpa using hr))]
  have hr':bq t=false:=by simpa using hr
  rw[hr'] at h27
  refine zero 0 1 ?_
  clear zero h28 h29
  refine Y2 41 Tryz.func9 rfl rfl fun a hl g0 g1=>?_
  repeat' first|refine G1 ?_|(refine G2 ?_ ?_<;>intro hc hd<;>try exact hd.elim)|fail
  all_goals (try (refine aC h27 ?_))
  repeat' first|refine G1 ?_|(refine G2 ?_ ?_<;>intro hc hd<;>try exact hd.elim)|fail
  exact⟨by simp,.tp [.ag [.int .i64 0,.int .i64 0,.int .i64 0,.nils,.nils,.nils],.int .i64 0,.int .i64 1],1,by simp[Tryz.f9,V.get,V.put,aX, *],aG rfl⟩
 rw[hr] at h27
 by_cases hk:t.kind=1
 case neg=>
  rw[if_pos (.inr hk)]
  refine zero 0 1 ?_
  clear zero h28 h29
  refine Y2 41 Tryz.func9 rfl rfl fun a hl g0 g1=>?_
  repeat' first|refine G1 ?_|(refine G2 ?_ ?_<;>intro hc hd<;>try exact hd.elim)|fail
  all_goals (try (refine aC h27 ?_))
  repeat' first|refine G1 ?_|(refine G2 ?_ ?_<;>intro hc hd<;>try exact hd.elim)|fail
  exact⟨by simp,.tp [.ag [.int .i64 0,.int .i64 0,.int .i64 0,.nils,.nils,.nils],.int .i64 0,.int .i64 1],1,by simp[Tryz.f9,V.get,V.put,aX, *],aG rfl⟩
 rw[if_neg (by simp[hr,hk])]
 by_cases hsz:64<bJ l
 ·
  rw[if_pos hsz]
  refine zero 0 2 ?_
  have hsz':(64:Int)<(bJ l:Int):=by omega
  clear zero h29
  refine Y2 41 Tryz.func9 rfl rfl fun a hl g0 g1=>?_
  repeat' first|refine G1 ?_|(refine G2 ?_ ?_<;>intro hc hd<;>try exact hd.elim)|fail
  all_goals (try (refine aC h27 ?_))
  repeat' first|refine G1 ?_|(refine G2 ?_ ?_<;>intro hc hd<;>try exact hd.elim)|fail
  all_goals (try (refine aC h28 ?_))
  repeat' first|refine G1 ?_|(refine G2 ?_ ?_<;>intro hc hd<;>try exact hd.elim)|fail
  exact⟨by simp,.tp [.ag [.int .i64 0,.int .i64 0,.int .i64 0,.nils,.nils,.nils],.int .i64 0,.int .i64 2],1,by simp[Tryz.f9,V.get,V.put,aX, *],aG rfl⟩
 rw[if_neg hsz]
 have hsz':¬(64:Int)<(bJ l:Int):=by omega
 by_cases hd:8<ak l
 ·
  rw[if_pos hd]
  refine zero 0 6 ?_
  have hd':(8:Int)<(ak l:Int):=by omega
  clear zero
  refine Y2 41 Tryz.func9 rfl rfl fun a hl g0 g1=>?_
  repeat' first|refine G1 ?_|(refine G2 ?_ ?_<;>intro hc hd<;>try exact hd.elim)|fail
  all_goals (try (refine aC h27 ?_))
  repeat' first|refine G1 ?_|(refine G2 ?_ ?_<;>intro hc hd<;>try exact hd.elim)|fail
  all_goals (try (refine aC h28 ?_))
  repeat' first|refine G1 ?_|(refine G2 ?_ ?_<;>intro hc hd<;>try exact hd.elim)|fail
  all_goals (try (refine aC h29 ?_))
  repeat' first|refine G1 ?_|(refine G2 ?_ ?_<;>intro hc hd<;>try exact hd.elim)|fail
  exact⟨by simp,.tp [.ag [.int .i64 0,.int .i64 0,.int .i64 0,.nils,.nils,.nils],.int .i64 0,.int .i64 6],1,by simp[Tryz.f9,V.get,V.put,aX, *],aG rfl⟩
 rw[if_neg hd]
 have hd':¬(8:Int)<(ak l:Int):=by omega
 have h30:=f30 Γ H l hl t ⟨hr,hk⟩
 unfold sc i8 at h30
 have fin:∀(T:Ty) (k e:Int),wT T<big→PureOk Tryz.prog Γ 30 [.ag (cTy t),sls aK l] (.tp [.ag (cTy T),.int .i64 k,.int .i64 e])→PureOk Tryz.prog Γ 9 [.ag (cTy t),sls aK l] (.tp [.ag (cTy T),.int .i64 k,.int .i64 e]):=by
  intro T k e hT h30
  have h31:=f31 Γ T hT
  clear zero hT
  refine Y2 41 Tryz.func9 rfl rfl fun a hl g0 g1=>?_
  repeat' first|refine G1 ?_|(refine G2 ?_ ?_<;>intro hc hd<;>try exact hd.elim)|fail
  all_goals (try (refine aC h27 ?_))
  repeat' first|refine G1 ?_|(refine G2 ?_ ?_<;>intro hc hd<;>try exact hd.elim)|fail
  all_goals (try (refine aC h28 ?_))
  repeat' first|refine G1 ?_|(refine G2 ?_ ?_<;>intro hc hd<;>try exact hd.elim)|fail
  all_goals (try (refine aC h29 ?_))
  repeat' first|refine G1 ?_|(refine G2 ?_ ?_<;>intro hc hd<;>try exact hd.elim)|fail
  all_goals (try (refine aC h30 ?_))
  repeat' first|refine G1 ?_|(refine G2 ?_ ?_<;>intro hc hd<;>try exact hd.elim)|fail
  all_goals (try (refine aC h31 ?_))
  repeat' first|refine G1 ?_|(refine G2 ?_ ?_<;>intro hc hd<;>try exact hd.elim)|fail
  exact⟨by simp,.tp [.ag (cTy T),.int .i64 k,.int .i64 e],1,by simp[Tryz.f9,V.get,V.put,aX, *],aG (by simp[Val.closed,aE])⟩
 cases hs:bQ l t 0 with
 |ok u=>
  rw[hs] at h30
  exact fin u l.length 0 (by have:=ny (mb hr hs);unfold big;omega) h30
 |error e=>
  rw[hs] at h30
  exact fin zeroTy e.1 e.2 (by decide) h30
end
end Go.V
end
section
set_option maxHeartbeats 4000000
namespace Go.V
open Go Go.Proofs
attribute [local irreducible] W bO WD aO yl aS bW
section
variable (Γ:Glo Tryz.prog)
attribute [local simp] veq bP ei V.del
theorem oE (X:XOk Γ)(H:iO Γ)(l:List Lns)(hw:wNs l<30000000000):nQ Γ l:=by
 have key:∀n (l:List Lns),wNs l≤n→n<30000000000→nQ Γ l:=by
  intro n
  induction n with
  |zero=>
   intro l h1 h2
   refine f76 Γ X H l (by omega) fun s hs=>?_
   have:=dI hs
   have:=ze s
   omega
  |succ n ih=>
   intro l h1 h2
   refine f76 Γ X H l (by omega) fun s hs=>ih s.subs ?_ (by omega)
   have:=dI hs
   have:=eM s
   omega
 exact key _ l (Nat.le_refl _) hw
mutual
theorem BI:∀s:Lns,wN (turnN s)=wN s
 |.mk k a b t d sw l=>by
  rw[turnN]
  simp only[wN]
  have h:=gB l
  have e1:(if k=1 then b else a).length+(if k=1 then a else b).length=a.length+b.length:=by split<;>omega
  have e2:wNs (if k=9∨k=10 then bU l else l)=wNs l:=by split<;>first|exact h|rfl
  rw[e2]
  omega
theorem gB:∀l:List Lns,wNs (bU l)=wNs l
 |[]=>rfl
 |s::r=>by
  rw[bU,qB,gB r]
  simp only[wNs]
  rw[BI s]
  omega
end
theorem Bi (d:Doc)(c:List Val)(n:Nat)(k:Option Nat):dB Tryz.prog 40 [(0,.ag (aH d)),(1,.sl c n k)]=some (aH d++[.sl c n k]):=by cases d;kernel_rfl
theorem Bj:dB Tryz.prog 40 []=some [.int .i64 0,.int .i64 0,.str [],.nils,.nils,.nils]:=by kernel_rfl
theorem zU:dB Tryz.prog 138 []=some [.nils,.nils]:=by kernel_rfl
theorem Bh (e:Int)(b:Bool)(c:List Val)(n:Nat)(k:Option Nat):dB Tryz.prog 135 [(0,.int .i64 e),(1,.bool b),(2,.sl c n k)]=some [.int .i64 e,.bool b,.sl c n k,.nils,.int .i64 0]:=by kernel_rfl
attribute [local simp] Bi Bj zU Bh
theorem x7:Wk (.ag [.int .i64 0,.int .i64 0,.str [],.nils,.nils,.nils]) (.ag (cSt da)):=Wk.ag ⟨Wk.refl _,Wk.refl _,Wk.refl _,Wk.nils,Wk.nils,Wk.nils,trivial⟩
def goV (s:St)(needs:List Res)(err:Int):Val:=.tp [.ag (cSt s),sls ac needs,.int .i64 err]
def goE (err:Int):Val:=.tp [.ag [.int .i64 0,.int .i64 0,.str [],.nils,.nils,.nils],.nils,.int .i64 err]
theorem nB (err:Int):Wk (goE err) (goV da [] err):=Wk.tp ⟨x7,Wk.nils,Wk.refl _,trivial⟩
theorem f32e (H:iO Γ)(t:Ty)(l:List Lns)(e:Int)(bk:Bool)(s:St)(ht:wT t<big)(hl:wNs l<30000000000)(he:(bC t (if bk then bU l else l)).2.2≠0) :
  PureOk Tryz.prog Γ 32 [.ag (cTy t),sls aK l,.int .i64 e,.bool bk,.ag (cSt s)] (goV da [] (bC t (if bk then bU l else l)).2.2):=by
 refine PureOk.wk (r:=goE _) ?_ (nB _)
 have h74:=f74' Γ l (by unfold big;omega)
 have h9:=f9 Γ H t (if bk then bU l else l) ht (by cases bk<;>simp[gB]<;>omega)
 unfold i8 at h9
 unfold goE
 have ht6:List.take 6 (cTy t)=cTy t:=List.take_of_length_le (by rw[bH];omega)
 generalize (bC t (if bk then bU l else l)).2.2=err at *
 generalize (bC t (if bk then bU l else l)).1=u at *
 generalize (bC t (if bk then bU l else l)).2.1=kk at *
 cases bk
 all_goals
  simp only[Bool.false_eq_true,if_false,if_true] at h9
  refine Y5 96 Tryz.func32 rfl rfl fun a hl g0 g1 g2 g3 g4=>?_
  repeat' first|refine G1 ?_|(refine G2 ?_ ?_<;>intro hc hd<;>try exact hd.elim)|fail
  all_goals (try (refine aC h74 ?_))
  repeat' first|refine G1 ?_|(refine G2 ?_ ?_<;>intro hc hd<;>try exact hd.elim)|fail
  all_goals (try (refine aC h9 ?_))
  repeat' first|refine G1 ?_|(refine G2 ?_ ?_<;>intro hc hd<;>try exact hd.elim)|fail
  exact⟨by simp,.tp [.ag [.int .i64 0,.int .i64 0,.str [],.nils,.nils,.nils],.nils,.int .i64 err],5,by simp[Tryz.f32,V.get, *],by simp[vw,Val.closed,aE]⟩
theorem f32r (H:iO Γ)(t:Ty)(l:List Lns)(e:Int)(bk:Bool)(s:St)(ht:wT t<big)(hl:wNs l<30000000000)(hs:wRs s.res+wD s.doc<big)(he:(bC t (if bk then bU l else l)).2.2=0)(hr:br s.res=false) :
  PureOk Tryz.prog Γ 32 [.ag (cTy t),sls aK l,.int .i64 e,.bool bk,.ag (cSt s)] (goV da [] 1):=by
 refine PureOk.wk (r:=goE _) ?_ (nB _)
 have h75:=f75 Γ s.res (by omega)
 rw[hr] at h75
 unfold goE
 have h74:=f74' Γ l (by unfold big;omega)
 have h9:=f9 Γ H t (if bk then bU l else l) ht (by cases bk<;>simp[gB]<;>omega)
 unfold i8 at h9
 have ht6:List.take 6 (cTy t)=cTy t:=List.take_of_length_le (by rw[bH];omega)
 rw[he] at h9
 generalize (bC t (if bk then bU l else l)).1=u at *
 generalize (bC t (if bk then bU l else l)).2.1=kk at *
 clear he hr hs
 rw[ez]
 cases bk
 all_goals
  simp only[Bool.false_eq_true,if_false,if_true] at h9
  refine Y5 96 Tryz.func32 rfl rfl fun a hl g0 g1 g2 g3 g4=>?_
  repeat' first|refine G1 ?_|(refine G2 ?_ ?_<;>intro hc hd<;>try exact hd.elim)|fail
  all_goals (try (refine aC h74 ?_))
  repeat' first|refine G1 ?_|(refine G2 ?_ ?_<;>intro hc hd<;>try exact hd.elim)|fail
  all_goals (try (refine aC h9 ?_))
  repeat' first|refine G1 ?_|(refine G2 ?_ ?_<;>intro hc hd<;>try exact hd.elim)|fail
  all_goals (try (refine aC h75 ?_))
  repeat' first|refine G1 ?_|(refine G2 ?_ ?_<;>intro hc hd<;>try exact hd.elim)|fail
  exact⟨by simp,.tp [.ag [.int .i64 0,.int .i64 0,.str [],.nils,.nils,.nils],.nils,.int .i64 1],5,by simp[Tryz.f32,V.get, *],by simp[vw,Val.closed,aE]⟩
theorem f32v (H:iO Γ)(t:Ty)(l:List Lns)(e:Int)(bk:Bool)(s:St)(ht:wT t<big)(hl:wNs l<30000000000)(hs:wRs s.res+wD s.doc<big)(he:(bC t (if bk then bU l else l)).2.2=0)(hr:br s.res=true)(hv:cQ t s.doc=false) :
  PureOk Tryz.prog Γ 32 [.ag (cTy t),sls aK l,.int .i64 e,.bool bk,.ag (cSt s)] (goV da [] 7):=by
 refine PureOk.wk (r:=goE _) ?_ (nB _)
 have h75:=f75 Γ s.res (by omega)
 rw[hr] at h75
 have h11:=H t s.doc ht (by omega)
 rw[hv] at h11
 have hd5:List.take 5 (aH s.doc++[sls ac s.res])=aH s.doc:=List.take_left' (bS s.doc)
 unfold goE
 have h74:=f74' Γ l (by unfold big;omega)
 have h9:=f9 Γ H t (if bk then bU l else l) ht (by cases bk<;>simp[gB]<;>omega)
 unfold i8 at h9
 have ht6:List.take 6 (cTy t)=cTy t:=List.take_of_length_le (by rw[bH];omega)
 rw[he] at h9
 generalize (bC t (if bk then bU l else l)).1=u at *
 generalize (bC t (if bk then bU l else l)).2.1=kk at *
 clear he hr hs hv
 rw[ez]
 cases bk
 all_goals
  simp only[Bool.false_eq_true,if_false,if_true] at h9
  refine Y5 96 Tryz.func32 rfl rfl fun a hl g0 g1 g2 g3 g4=>?_
  repeat' first|refine G1 ?_|(refine G2 ?_ ?_<;>intro hc hd<;>try exact hd.elim)|fail
  all_goals (try (refine aC h74 ?_))
  repeat' first|refine G1 ?_|(refine G2 ?_ ?_<;>intro hc hd<;>try exact hd.elim)|fail
  all_goals (try (refine aC h9 ?_))
  repeat' first|refine G1 ?_|(refine G2 ?_ ?_<;>intro hc hd<;>try exact hd.elim)|fail
  all_goals (try (refine aC h75 ?_))
  repeat' first|refine G1 ?_|(refine G2 ?_ ?_<;>intro hc hd<;>try exact hd.elim)|fail
  all_goals (try (refine aC h11 ?_))
  repeat' first|refine G1 ?_|(refine G2 ?_ ?_<;>intro hc hd<;>try exact hd.elim)|fail
  exact⟨by simp,.tp [.ag [.int .i64 0,.int .i64 0,.str [],.nils,.nils,.nils],.nils,.int .i64 7],5,by simp[Tryz.f32,V.get, *],by simp[vw,Val.closed,aE]⟩
end
end Go.V
end
