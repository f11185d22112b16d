/-
  A part of a proof: L11 L12 L13 R10 L14.
-/
import Derived.Test.YtkfjenbfbendhaaGreatDoorLk16
import Derived.Test.YtkfjenbfbendhaaGreatDoorLk23
import Derived.Test.YtkfjenbfbendhaaGreatDoorLk25
import Derived.Maps.RangeRun
set_option linter.unusedSimpArgs false
set_option linter.unusedVariables false
section
set_option maxHeartbeats 4000000
namespace Go.V
open Go Go.Proofs
attribute [local irreducible] W bO WD aO yl aS bW
section
variable (Γ:Glo Tryz.prog)
attribute [local simp] veq eE
theorem C3 (r:Ty)(n:Str)(u:Ty):wT (eL r n u)≤wT r+n.length+1+wT u:=by
 unfold eL
 have h1:=zk (ax r n) (.mk n false u)
 have h2:=kx r n
 simp only[Fld.name,Fld.ty] at h1
 omega
theorem f183 (r:Ty)(f:Fld)(s:Lns)(hb:3*wT r+wN s+2*wT f.ty+99<big)(hg:gd r)(hfa:ah s.a r.fields=some f) :
  PureOk Tryz.prog Γ 183 [.ag (cTy r),.ag (aZ f),.ag (aK s)] (match ah s.b r.fields with|none=>b8 r 9|some g=>if g.opt=true∨f.ty.kind≠1∨s.a=s.b then b8 r 7 else if (ah s.b f.ty.fields).isSome then b8 r 5 else b8 (ax (eL r s.a (dQ f.ty g)) s.b) 0):=by
 have hw:=eM s
 have hty:=(hg.fld hfa).2.2
 have h1:=f127 Γ r s.b (by omega)
 have h2:=f127 Γ f.ty s.b (by omega)
 rw[dR f]
 have hcl:=bH f.ty
 have hcc:=eB f.ty
 unfold lH at h1 h2
 rw[hg.fieldR] at h1
 unfold b8
 cases hrb:ah s.b r.fields with
 |none=>
  simp only
  rw[hrb] at h1
  simp only[Option.isSome_none,Option.getD_none] at h1
  clear h2 hb hw hfa hty
  refine Y3 64 Tryz.func183 rfl rfl fun a hl g0 g1 g2=>?_
  repeat' first|refine G1 ?_|(refine G2 ?_ ?_<;>intro hc hd<;>try exact hd.elim)|fail
  all_goals (try (refine aC h1 ?_))
  repeat' first|refine G1 ?_|(refine G2 ?_ ?_<;>intro hc hd<;>try exact hd.elim)|fail
  exact⟨by simp,.tp [.ag (cTy r),.int .i64 9],1,by simp[Tryz.f183,V.get,V.put,aX, *],aG (by simp[Val.closed,aE])⟩
 |some g=>
  simp only
  rw[hrb] at h1
  simp only[Option.isSome_some,Option.getD_some] at h1
  by_cases hbad:g.opt=true∨f.ty.kind≠1∨s.a=s.b
  ·
   rw[if_pos hbad]
   clear h2 hb hw hfa hty
   have fin:∀x y z:Bool,(g.opt=x)→(decide (f.ty.kind=1)=y)→(decide (s.a=s.b)=z)→True:=fun _ _ _ _ _ _=>trivial
   clear fin
   cases ho:g.opt with
   |true=>
    refine Y3 64 Tryz.func183 rfl rfl fun a hl g0 g1 g2=>?_
    repeat' first|refine G1 ?_|(refine G2 ?_ ?_<;>intro hc hd<;>try exact hd.elim)|fail
    all_goals (try (refine aC h1 ?_))
    repeat' first|refine G1 ?_|(refine G2 ?_ ?_<;>intro hc hd<;>try exact hd.elim)|fail
    exact⟨by simp,.tp [.ag (cTy r),.int .i64 7],1,by simp[Tryz.f183,V.get,V.put,aX, *],aG (by simp[Val.closed,aE])⟩
   |false=>
    by_cases hk:f.ty.kind=1
    ·
     have hab:s.a=s.b:=by
      rcases hbad with h|h|h
      ·
       rw[ho] at h;cases h
      ·
       exact(h hk).elim
      ·
       exact h
     clear hbad
     refine Y3 64 Tryz.func183 rfl rfl fun a hl g0 g1 g2=>?_
     repeat' first|refine G1 ?_|(refine G2 ?_ ?_<;>intro hc hd<;>try exact hd.elim)|fail
     all_goals (try (refine aC h1 ?_))
     repeat' first|refine G1 ?_|(refine G2 ?_ ?_<;>intro hc hd<;>try exact hd.elim)|fail
     exact⟨by simp,.tp [.ag (cTy r),.int .i64 7],1,by simp[Tryz.f183,V.get,V.put,aX, *],aG (by simp[Val.closed,aE])⟩
    ·
     clear hbad
     refine Y3 64 Tryz.func183 rfl rfl fun a hl g0 g1 g2=>?_
     repeat' first|refine G1 ?_|(refine G2 ?_ ?_<;>intro hc hd<;>try exact hd.elim)|fail
     all_goals (try (refine aC h1 ?_))
     repeat' first|refine G1 ?_|(refine G2 ?_ ?_<;>intro hc hd<;>try exact hd.elim)|fail
     exact⟨by simp,.tp [.ag (cTy r),.int .i64 7],1,by simp[Tryz.f183,V.get,V.put,aX, *],aG (by simp[Val.closed,aE])⟩
  ·
   rw[if_neg hbad]
   have ho:g.opt=false:=by
    cases h:g.opt with
    |false=>rfl
    |true=>exact(hbad (.inl h)).elim
   have hk:f.ty.kind=1:=Decidable.byContradiction fun h=>hbad (.inr (.inl h))
   have hab:¬s.a=s.b:=fun h=>hbad (.inr (.inr h))
   clear hbad
   unfold fieldR at h2
   rw[if_pos hk] at h2
   have gdf:gd f.ty:=⟨hty,hk⟩
   cases hfb:ah s.b f.ty.fields with
   |some q=>
    rw[hfb] at h2
    simp only[Option.isSome_some,if_true,Option.getD_some] at h2 ⊢
    clear hb hw hfa hty
    refine Y3 64 Tryz.func183 rfl rfl fun a hl g0 g1 g2=>?_
    repeat' first|refine G1 ?_|(refine G2 ?_ ?_<;>intro hc hd<;>try exact hd.elim)|fail
    all_goals (try (refine aC h1 ?_))
    repeat' first|refine G1 ?_|(refine G2 ?_ ?_<;>intro hc hd<;>try exact hd.elim)|fail
    all_goals (try (refine aC h2 ?_))
    repeat' first|refine G1 ?_|(refine G2 ?_ ?_<;>intro hc hd<;>try exact hd.elim)|fail
    exact⟨by simp,.tp [.ag (cTy r),.int .i64 5],1,by simp[Tryz.f183,V.get,V.put,aX, *],aG (by simp[Val.closed,aE])⟩
   |none=>
    rw[hfb] at h2
    simp only[Option.isSome_none,Bool.false_eq_true,if_false,Option.getD_none] at h2 ⊢
    have hgw:=fG (cD hrb).2
    have hww:=zk f.ty g
    have hsw:=C3 r s.a (dQ f.ty g)
    have h3:=f178 Γ f.ty g (by have:=dP f.ty;omega) gdf.srt (by rw[(cD hrb).1,hfb])
    have h4:=f261 Γ r s.a (dQ f.ty g) (by omega) hg.srt
    have h5:=f260 Γ (eL r s.a (dQ f.ty g)) s.b (by omega)
    generalize ax (eL r s.a (dQ f.ty g)) s.b=R2 at *
    generalize eL r s.a (dQ f.ty g)=R1 at *
    generalize dQ f.ty g=R0 at *
    clear hb hw hfa hty hgw hww hsw gdf
    refine Y3 64 Tryz.func183 rfl rfl fun a hl g0 g1 g2=>?_
    repeat' first|refine G1 ?_|(refine G2 ?_ ?_<;>intro hc hd<;>try exact hd.elim)|fail
    all_goals (try (refine aC h1 ?_))
    repeat' first|refine G1 ?_|(refine G2 ?_ ?_<;>intro hc hd<;>try exact hd.elim)|fail
    all_goals (try (refine aC h2 ?_))
    repeat' first|refine G1 ?_|(refine G2 ?_ ?_<;>intro hc hd<;>try exact hd.elim)|fail
    refine aQ h3 ?_
    repeat' first|refine G1 ?_|(refine G2 ?_ ?_<;>intro hc hd<;>try exact hd.elim)|fail
    refine aQ h4 ?_
    repeat' first|refine G1 ?_|(refine G2 ?_ ?_<;>intro hc hd<;>try exact hd.elim)|fail
    refine aQ h5 ?_
    repeat' first|refine G1 ?_|(refine G2 ?_ ?_<;>intro hc hd<;>try exact hd.elim)|fail
    exact⟨by simp,.tp [.ag (cTy R2),.int .i64 0],1,by simp[Tryz.f183,V.get,V.put,aX, *],aG (by simp[Val.closed,aE])⟩
end
end Go.V
end
section
set_option maxHeartbeats 4000000
namespace Go.V
open Go Go.Proofs
attribute [local irreducible] W bO WD aO yl aS bW
section
variable (Γ:Glo Tryz.prog)
attribute [local simp] veq eE
@[simp] theorem Gj (a b c:Int)(i o n:Nat)(k:Option Nat):dB Tryz.prog 26 [(0,.int .i64 a),(1,.int .i64 b),(2,.int .i64 c),(5,.so i o n k)]=some [.int .i64 a,.int .i64 b,.int .i64 c,.nils,.nils,.so i o n k]:=by kernel_rfl
theorem f184 (r:Ty)(f:Fld)(s:Lns)(hb:3*wT r+wN s+2*wT f.ty+99<big)(hg:gd r)(hfa:ah s.a r.fields=some f) :
  PureOk Tryz.prog Γ 184 [.ag (cTy r),.ag (aZ f),.ag (aK s)] (if de f.ty=true then b8 (eL r s.a (.mk 3 1 1 [] [] [f.ty])) 0 else b8 r 7):=by
 have hw:=eM s
 have h1:=f259 Γ f.ty
 have h2:=f261 Γ r s.a (.mk 3 1 1 [] [] [f.ty]) (by omega) hg.srt
 rw[dR f]
 have hcl:=bH f.ty
 have hcc:=eB f.ty
 unfold b8
 cases hs:de f.ty with
 |false=>
  rw[hs] at h1
  simp only[Bool.false_eq_true,if_false]
  clear h2 hw hb hfa hg
  refine Y3 21 Tryz.func184 rfl rfl fun a hl g0 g1 g2=>?_
  repeat' first|refine G1 ?_|(refine G2 ?_ ?_<;>intro hc hd<;>try exact hd.elim)|fail
  all_goals (try (refine aC h1 ?_))
  repeat' first|refine G1 ?_|(refine G2 ?_ ?_<;>intro hc hd<;>try exact hd.elim)|fail
  exact⟨by simp,.tp [.ag (cTy r),.int .i64 7],1,by simp[Tryz.f184,V.get,V.put,aX, *],aG (by simp[Val.closed,aE])⟩
 |true=>
  rw[hs] at h1
  simp only[if_true]
  have h3:PureOk Tryz.prog Γ 261 [.ag (cTy r),.str s.a,.ag [.int .i64 3,.int .i64 1,.int .i64 1,.nils,.nils,.sl (cTy f.ty) 1 (some 1)]] (.ag (cTy (eL r s.a (.mk 3 1 1 [] [] [f.ty])))):=by
   refine h2.arg ⟨Wk.refl _,Wk.refl _,Wk.ag ⟨Wk.refl _,Wk.refl _,Wk.refl _,Wk.nils,Wk.nils,?_,trivial⟩,trivial⟩
   show Wk _ (Val.sl (row cTy [f.ty]) 1 none)
   rw[bt,eG,List.append_nil]
   exact Wk.cap _ _ _
  generalize eL r s.a (.mk 3 1 1 [] [] [f.ty])=R2 at *
  have hv:vwL Tryz.prog [(13,.cells (cTy f.ty) 26 false)] 60 [.ag (cTy r),.str s.a,.ag [.int .i64 3,.int .i64 1,.int .i64 1,.nils,.nils,.so 13 0 1 (some 1)]]=some [.ag (cTy r),.str s.a,.ag [.int .i64 3,.int .i64 1,.int .i64 1,.nils,.nils,.sl (cTy f.ty) 1 (some 1)]]:=
   aI (aG (by simp[Val.closed])) (aI (aG rfl) (aI (er (by simp[aE,Val.closed]) (aI (aG rfl) (aI (aG rfl) (aI (aG rfl) (aI (aG rfl) (aI (aG rfl) (aI (dC (t:=26) rfl (by simp) (by simp) (by simp)) bR))))))) bR))
  have h4:=CallOk.freeze 15 h3 hv
  clear h2 h3 hv hw hb hfa hg
  refine Y3 21 Tryz.func184 rfl rfl fun a hl g0 g1 g2=>?_
  repeat' first|refine G1 ?_|(refine G2 ?_ ?_<;>intro hc hd<;>try exact hd.elim)|fail
  all_goals (try (refine aC h1 ?_))
  repeat' first|refine G1 ?_|(refine G2 ?_ ?_<;>intro hc hd<;>try exact hd.elim)|fail
  refine av h4 ?_
  repeat' first|refine G1 ?_|(refine G2 ?_ ?_<;>intro hc hd<;>try exact hd.elim)|fail
  exact⟨by simp,.tp [.ag (cTy R2),.int .i64 0],1,by simp[Tryz.f184,V.get,V.put,aX, *],aG (by simp[Val.closed,aE])⟩
end
end Go.V
end
section
set_option maxHeartbeats 4000000
namespace Go.V
open Go Go.Proofs
attribute [local irreducible] W bO WD aO yl aS bW
section
variable (Γ:Glo Tryz.prog)
attribute [local simp] veq eE
theorem vF {t:Ty}(h:bq t=true)(hk:t.kind=2∨t.kind=3):∃u,t.of=[u]∧bq u=true:=by
 obtain⟨u,hu,h2⟩:=gj h hk
 exact⟨u,by rw[hu];rfl,h2⟩
theorem f185 (r:Ty)(f:Fld)(s:Lns)(hb:3*wT r+wN s+2*wT f.ty+99<big)(hg:gd r)(hfa:ah s.a r.fields=some f) :
  PureOk Tryz.prog Γ 185 [.ag (cTy r),.ag (aZ f),.ag (aK s)] (if f.ty.kind=3∧f.ty.lo=1∧f.ty.hi=1 then (match f.ty.of with|[]=>b8 r 7|u::_=>if de u=true then b8 (eL r s.a u) 0 else b8 r 7) else b8 r 7):=by
 have hw:=eM s
 have hty:=(hg.fld hfa).2.2
 have h2:=fun u=>f261 Γ r s.a u (by omega) hg.srt
 rw[dR f]
 have hcl:=bH f.ty
 have hcc:=eB f.ty
 have hta:List.take 6 (cTy f.ty)=cTy f.ty:=List.take_of_length_le (by omega)
 unfold b8
 by_cases hk:f.ty.kind=3
 case neg=>
  rw[if_neg (by simp[hk])]
  clear h2 hw hb hfa hg
  refine Y3 41 Tryz.func185 rfl rfl fun a hl g0 g1 g2=>?_
  repeat' first|refine G1 ?_|(refine G2 ?_ ?_<;>intro hc hd<;>try exact hd.elim)|fail
  exact⟨by simp,.tp [.ag (cTy r),.int .i64 7],1,by simp[Tryz.f185,V.get,V.put,aX, *],aG (by simp[Val.closed,aE])⟩
 obtain⟨u,hu,_⟩:=vF hty (.inr hk)
 by_cases hlo:f.ty.lo=1
 case neg=>
  rw[if_neg (by simp[hlo])]
  clear h2 hw hb hfa hg
  refine Y3 41 Tryz.func185 rfl rfl fun a hl g0 g1 g2=>?_
  repeat' first|refine G1 ?_|(refine G2 ?_ ?_<;>intro hc hd<;>try exact hd.elim)|fail
  exact⟨by simp,.tp [.ag (cTy r),.int .i64 7],1,by simp[Tryz.f185,V.get,V.put,aX, *],aG (by simp[Val.closed,aE])⟩
 by_cases hhi:f.ty.hi=1
 case neg=>
  rw[if_neg (by simp[hhi])]
  clear h2 hw hb hfa hg
  refine Y3 41 Tryz.func185 rfl rfl fun a hl g0 g1 g2=>?_
  repeat' first|refine G1 ?_|(refine G2 ?_ ?_<;>intro hc hd<;>try exact hd.elim)|fail
  exact⟨by simp,.tp [.ag (cTy r),.int .i64 7],1,by simp[Tryz.f185,V.get,V.put,aX, *],aG (by simp[Val.closed,aE])⟩
 rw[if_pos ⟨hk,hlo,hhi⟩,hu]
 simp only
 have h1:=f259 Γ u
 replace h2:=h2 u
 have htu:List.take 6 (row cTy [u])=cTy u:=by rw[bt,eG,List.append_nil];exact List.take_of_length_le (by rw[bH];omega)
 have hlu:(row cTy [u]).length=6:=by rw[bt,eG,List.append_nil];exact bH u
 have hsl:sls cTy [u]=.sl (row cTy [u]) 1 none:=rfl
 cases hs:de u with
 |false=>
  rw[hs] at h1
  simp only[Bool.false_eq_true,if_false]
  clear h2 hw hb hfa hg
  refine Y3 41 Tryz.func185 rfl rfl fun a hl g0 g1 g2=>?_
  repeat' first|refine G1 ?_|(refine G2 ?_ ?_<;>intro hc hd<;>try exact hd.elim)|fail
  all_goals (try (refine aC h1 ?_))
  repeat' first|refine G1 ?_|(refine G2 ?_ ?_<;>intro hc hd<;>try exact hd.elim)|fail
  exact⟨by simp,.tp [.ag (cTy r),.int .i64 7],1,by simp[Tryz.f185,V.get,V.put,aX, *],aG (by simp[Val.closed,aE])⟩
 |true=>
  rw[hs] at h1
  simp only[if_true]
  generalize eL r s.a u=R2 at *
  clear hw hb hfa hg
  refine Y3 41 Tryz.func185 rfl rfl fun a hl g0 g1 g2=>?_
  repeat' first|refine G1 ?_|(refine G2 ?_ ?_<;>intro hc hd<;>try exact hd.elim)|fail
  all_goals (try (refine aC h1 ?_))
  repeat' first|refine G1 ?_|(refine G2 ?_ ?_<;>intro hc hd<;>try exact hd.elim)|fail
  refine aQ h2 ?_
  repeat' first|refine G1 ?_|(refine G2 ?_ ?_<;>intro hc hd<;>try exact hd.elim)|fail
  exact⟨by simp,.tp [.ag (cTy R2),.int .i64 0],1,by simp[Tryz.f185,V.get,V.put,aX, *],aG (by simp[Val.closed,aE])⟩
end
end Go.V
end
section
namespace Go.V
open Go Go.Proofs
section
variable {P:Program} {Γ:Glo P}
theorem uP (w:World)(ty:TypeId)(it bm since c0:Nat)(seen:Array Nat)(es:Array MapEntry)(clock:Nat)(hi:w.heap[it]?=some (.mapIter (some bm) since seen c0))(hb:w.heap[bm]?=some (.map es clock))
  (hold:∀x∈es.toList,x.born<since) (hsc:since≤c0) :
  ((leftOf es seen).size=0∧(Instr.next (.pointer (some ⟨it,0,none⟩)) false ty).run P w=.ok (.tuple #[.bool false]) w)∨
  ∃e∈(leftOf es seen).toList,∃n,(Instr.next (.pointer (some ⟨it,0,none⟩)) false ty).run P w=.ok (.tuple #[.bool true,e.key,e.val]) {w with drawn:=n,heap:=w.heap.setIfInBounds it (.mapIter (some bm) since (seen.push e.born) clock)}:=by
 rcases Go.run_next_at (P:=P) w ty it bm since c0 seen es clock hi hb hold hsc with h|⟨e,he,w1,h1,h2⟩
 ·exact .inl h
 ·refine .inr ⟨e,he,w1.drawn,?_⟩;rw[h2];rcases h1 with rfl|rfl<;>rfl
theorem fR {ops:Array Oper}{Q:Exit→Go.Act→World→Prop}{i:Nat}{rest:List Nat}{act:Go.Act}{w w':World}{o:Oper}{x:Value}(ho:ops[i]?=some o)(hg:o.guard=none)(h:(execOp act.eval o).run P w=.ok (.value x) w')
  (hk:wpOps P ops Q rest (act.put o.dst x) w'):wpOps P ops Q (i::rest) act w:=by
 rw[wpOps_cons]
 unfold wpOp
 simp only[ho]
 have hw:Region.wanted o (yielded ops act.tmps)=true:=by unfold Region.wanted;rw[hg]
 rw[if_pos hw]
 left
 unfold Oper.wp
 rw[h]
 exact hk
theorem zh {Mo:List (Nat×Nat)}{ao:List Val}(D:List (Nat×Nat))(L:List Nat)(I:Nat→List Val→Heap→Prop){c:Code}{Q:Post}{k:Nat}{a0:List Val}{h0:Heap}{N0:Nat}(hFo:Frm Mo ao a0)(hI0:I k a0 h0)
  (hI:∀a1:List Val,Frm Mo ao a1→(∀t v,lk a0 t=some v→lk a1 t=some v)→a1.length=a0.length→∀k a h,Frm (D++L.map fun t=>(t,t)) a1 a→I k a h→
   W P Γ c a h N0 (eD (fun a' h' _=>Frm (D++L.map fun t=>(t,t)) a1 a'∧(∀t∈L,∀v,lk a' t=some v→aR N0 v=true)∧
    ∃h2,(∀i b,get h2 i=some b→get h' i=some b)∧bc N0 h2=true∧∃j,k=j+1∧∀a2,Frm D a' a2→I j a2 h2) Q)):W P Γ (.loop c) a0 h0 N0 Q:=by
 refine am D L I hI0 fun a1 hk hk0=>hI a1 ?_ hk hk0
 have e:a1=a0:=by
  apply List.ext_getElem?
  intro t
  rcases Nat.lt_or_ge t a0.length with h|h
  ·
   have:=hk t a0[t] (by unfold lk;exact List.getElem?_eq_getElem h)
   unfold lk at this
   rw[this,List.getElem?_eq_getElem h]
  ·
   rw[List.getElem?_eq_none h,List.getElem?_eq_none (by omega)]
 rw[e]
 exact hFo
def left (n:Nat)(seen:List Nat):Nat:=((List.range n).filter fun j=>!seen.contains j).length
theorem A8 {n j:Nat}{seen:List Nat}(hj:j<n)(hs:j∉seen):left n (j::seen)<left n seen:=by
 unfold left
 refine filter_lt _ _ (fun x hx=>?_) j (by simpa using hs) (by simp) _ (by simpa using hj)
 simp at hx ⊢
 exact hx.2
theorem rB {F:Fro}{ρ:Pl}:∀{es:List (Val×Val)}{xs:List MapEntry},MapRel F ρ es xs→∀{e:MapEntry},e∈xs→∃(j:Nat)(k v:Val),es[j]?=some (k,v)∧xs[j]?=some e∧Rel F ρ k e.key∧Rel F ρ v e.val
 |[],xs,h,e,he=>by simp only[MapRel] at h;subst h;cases he
 |(k,v)::es,xs,h,e,he=>by
  simp only[MapRel] at h
  obtain⟨y,ys,rfl,h1,_,h2,h3⟩:=h
  rcases List.mem_cons.1 he with rfl|he
  ·
   exact⟨0,k,v,rfl,rfl,h1,h2⟩
  ·
   obtain⟨j,k',v',g1,g2,g3,g4⟩:=rB h3 he
   exact⟨j+1,k',v',by simpa using g1,by simpa using g2,g3,g4⟩
theorem uO {c:Code}:∀(n:Nat)(Q1 Q2:Exit→Go.Act→World→Prop)(act:Go.Act)(w:World),(∀e a w,Q1 e a w→Q2 e a w)→Code.rounds P c Q1 n act w→Code.rounds P c Q2 n act w:=by
 intro n
 induction n with
 |zero=>intro _ _ _ _ _ h;exact h.elim
 |succ n ihn=>
  intro Q1 Q2 act w hq hr
  rw[rounds_succ] at hr ⊢
  refine wp_mono hr ?_
  intro e a w he
  cases e with
  |normal=>exact ihn Q1 Q2 a w hq he
  |exit id=>exact hq _ _ _ he
  |goto l=>exact hq _ _ _ he
  |ret=>exact hq _ _ _ he
  |panic ch=>exact hq _ _ _ he
  |outgrown=>exact hq _ _ _ he
theorem BL {r1 r2 r3 B B2:Nat}{tm t1 t2 t3 t4 t5 t6 t7:Tmp}{T y1 y2 y3 y4 y5 y6 y7:TypeId}{p1 p2 p3 p4 p5 p6 p7:String}{f1 f2 f3 f4 f5 f6 f7:Array Edge}{body:Code}{a:List Val}{h hb:Heap}{N id:Nat}{Q:Post}{es:List (Val×Val)}{kt et:TypeId}
  (M:List (Nat×Nat)) (I:List Nat→List Val→Prop)
  (hm:lk a tm=some (.mp id)) (hg:get h id=some (.map es)) (hT:P.underlying T=some (.map kt et)) (hne:inM M t2=false) (hM:inM M t3=true∧inM M t4=true∧inM M t5=true∧inM M t6=true∧inM M t7=true)
  (hlen:t1<a.length∧t2<a.length∧t3<a.length∧t4<a.length∧t5<a.length∧t6<a.length∧t7<a.length) (hd1:t2≠t3∧t2≠t4)
  (hsub:∀i b,get hb i=some b→get h i=some b) (hnid:get hb id=none)
  (hI0:∀X,I [] ((a.set t1 (.mp id)).set t2 (.jk X)))
  (hround:∀X a' seen j k v N',Frm M ((a.set t1 (.mp id)).set t2 (.jk X)) a'→I seen a'→j∉seen→es[j]?=some (k,v)→
   W P Γ body (((((a'.set t3 (.tp [.bool true,k,v])).set t4 (.bool true)).set t5 (.tp [k,v])).set t6 k).set t7 k) hb N'
    (cN B2 (eD (fun a'' h'' _=>Frm M ((a.set t1 (.mp id)).set t2 (.jk X)) a''∧I (j::seen) a''∧∀i b,get hb i=some b→get h'' i=some b) (fun e a'' _ N''=>e=.ret∧Q .ret a'' [] N''))))
  (hend:∀X a' seen N',Frm M ((a.set t1 (.mp id)).set t2 (.jk X)) a'→I seen a'→(∀j,j<es.length→j∈seen)→Q .normal ((a'.set t3 (.tp [.bool false])).set t4 (.bool false)) h N') :
  W P Γ ((Code.region r1 #[⟨some t1,.move (.tmp tm),y1,p1,f1,none⟩,⟨some t2,.range T (.tmp t1),y2,p2,f2,none⟩] false).seq
   (Code.block B (Code.loop ((Code.region r2 #[⟨some t3,.next (.tmp t2) false,y3,p3,f3,none⟩,⟨some t4,.extract (.tmp t3) 0,y4,p4,f4,none⟩] false).seq
    ((Code.cond (.tmp t4) .skip (.exit B)).seq (Code.block B2 ((Code.region r3 #[⟨some t5,.entry (.tmp t2),y5,p5,f5,none⟩,⟨some t6,.extract (.tmp t5) 0,y6,p6,f6,none⟩,⟨some t7,.assign (.tmp t6),y7,p7,f7,none⟩] false).seq body))))))) a h N Q:=by
 intro F ρ w0 O w act hG m hf ha hd
 obtain⟨L,x0,q1,q2,q3,ents,clock,rfl,q5,q6⟩:=m.own id _ hg
 have hlb:=dN q3
 have hL3:@LT.lt Nat _ t3 a.length:=hlen.2.2.1
 have hL4:@LT.lt Nat _ t4 a.length:=hlen.2.2.2.1
 have hL5:@LT.lt Nat _ t5 a.length:=hlen.2.2.2.2.1
 have hL6:@LT.lt Nat _ t6 a.length:=hlen.2.2.2.2.2.1
 have hmv:act.eval (.tmp tm)=.map (some L.b):=by
  have:=aT (Γ:=Γ) hG ha (x:=.tmp tm) (v:=.mp id) hm
  simp only[Rel] at this
  obtain⟨L',h1,h2⟩:=this
  rw[q1] at h1;cases h1
  exact h2
 refine wp_seq (wp_region ?_)
 show wpOps P _ _ [0,1] act w
 refine fR (o:=⟨some t1,.move (.tmp tm),y1,p1,f1,none⟩) rfl rfl (by simp only[execOp];rw[hmv];rfl) ?_
 have ha1:RelL F ρ (a.set t1 (.mp id)) (act.put (some t1) (.map (some L.b))).tmps.toList:=by
  have:=dq (v:=.mp id) (x:=.map (some L.b)) ha (by simp only[Rel];exact⟨L,q1,rfl⟩) (some t1)
  exact this
 have hev1:(act.put (some t1) (.map (some L.b))).eval (.tmp t1)=.map (some L.b):=by
  have:=aT (Γ:=Γ) hG ha1 (x:=.tmp t1) (v:=.mp id) (by show lk _ t1=_;exact th _ _ _ hlen.1)
  simp only[Rel] at this
  obtain⟨L',h1,h2⟩:=this
  rw[q1] at h1;cases h1
  exact h2
 refine fR (o:=⟨some t2,.range T (.tmp t1),y2,p2,f2,none⟩) (x:=.pointer (some ⟨w.heap.size,0,none⟩)) (w':=w.alloc (.mapIter (some L.b) clock #[] clock)) rfl rfl ?_ ?_
 ·
  simp only[execOp]
  rw[hev1]
  simp[Sem.run_bind,run_range_map w T kt et L.b ents clock hT q3,Result.andThen,Sem.run]
 obtain⟨X,hX⟩:∃X:Value,X=.pointer (some ⟨w.heap.size,0,none⟩):=⟨_,rfl⟩
 have ha2:RelL F ρ ((a.set t1 (.mp id)).set t2 (.jk X)) ((act.put (some t1) (.map (some L.b))).put (some t2) X).tmps.toList:=
  dq (v:=.jk X) (x:=X) ha1 (by simp only[Rel]) (some t2)
 have hd2:((act.put (some t1) (.map (some L.b))).put (some t2) X).defers=[]:=by rw[cP,cP];exact hd
 rw[←hX]
 generalize ((act.put (some t1) (.map (some L.b))).put (some t2) X)=act2 at ha2 hd2 ⊢
 show(Code.block B _).wp P (Conc P Q F ρ w0 O N) act2 (w.alloc _)
 have hfr2:Fr w (fun _=>False) (w.alloc (.mapIter (some L.b) clock #[] clock)):=by
  refine⟨rfl,rfl,rfl,?_,fun k hk _=>heap_alloc_old w _ hk⟩
  show w.heap.size≤(w.heap.push _).size
  simp
 have m2:Mem P F ρ h w0 O (w.alloc (.mapIter (some L.b) clock #[] clock)):=m.still (FLe.refl F) (fun _ _ h=>.inl h) (fun b c hb=>by
  obtain⟨e,fr,h1⟩:=m.fro b c hb
  exact⟨e,fr,by rw[heap_alloc_old w _ (dN h1)];exact h1⟩) hfr2
 have hit:w0.heap.size≤w.heap.size:=m.fr.size
 refine wp_block (wp_mono (wp_loop_rounds (es.length+1) (?_:Code.rounds P _ (Conc P (cN B Q) F ρ w0 O N) _ act2 (w.alloc _))) ?_)
 case _=>
  have key:∀n seen seenB a' F' ρ' N' w' act',left es.length seen<n→GOk F' Γ→Mem P F' ρ' h w0 O w'→Fresh' ρ' N' N' true→RelL F' ρ' a' act'.tmps.toList→act'.defers=[]→ρ' id=some L→
    w'.heap[w.heap.size]?=some (.mapIter (some L.b) clock seenB clock)→w'.heap[L.b]?=some (.map ents clock)→(∀j e,ents.toList[j]?=some e→(seenB.contains e.born=true↔j∈seen))→
    Frm M ((a.set t1 (.mp id)).set t2 (.jk X)) a'→I seen a'→
    Code.rounds P ((Code.region r2 #[⟨some t3,.next (.tmp t2) false,y3,p3,f3,none⟩,⟨some t4,.extract (.tmp t3) 0,y4,p4,f4,none⟩] false).seq
     ((Code.cond (.tmp t4) .skip (.exit B)).seq (Code.block B2 ((Code.region r3 #[⟨some t5,.entry (.tmp t2),y5,p5,f5,none⟩,⟨some t6,.extract (.tmp t5) 0,y6,p6,f6,none⟩,⟨some t7,.assign (.tmp t6),y7,p7,f7,none⟩] false).seq body))))
     (Conc P (cN B Q) F' ρ' w0 O N') n act' w':=by
   intro n
   induction n with
   |zero=>intro seen _ _ _ _ _ _ _ h0;omega
   |succ n ih=>
    intro seen seenB a' F' ρ' N' w' act' hμ hG' m' hf' ha' hd' hρ hiter hmap hsB hFr hI
    rw[rounds_succ]
    have hal:a'.length=a.length:=by rw[hFr.len];simp
    have hx2:lk a' t2=some (.jk X):=(hFr.same t2 hne).trans (th _ _ _ (by simpa using hlen.2.1))
    have hev2:∀(act'':Go.Act) (b:List Val),RelL F' ρ' b act''.tmps.toList→lk b t2=some (.jk X)→act''.eval (.tmp t2)=.pointer (some ⟨w.heap.size,0,none⟩):=by
     intro act'' b hb hl
     have:=aT (Γ:=Γ) hG' hb (x:=.tmp t2) (v:=.jk X) hl
     simp only[Rel] at this
     rw[this,hX]
    obtain⟨L',x',u1,u2,u3,ents',clock',hx',u5,u6⟩:=m'.own id _ hg
    rw[hρ] at u1;cases u1
    rw[hmap] at u3;cases u3;cases hx'
    refine wp_seq (wp_region ?_)
    show wpOps P _ _ [0,1] act' w'
    rcases uP (P:=P) w' y3 w.heap.size L.b clock clock seenB ents clock hiter hmap q6.1 (Nat.le_refl _) with ⟨n1,n2⟩|⟨e,n1,dn,n2⟩
    ·
     refine fR (o:=⟨some t3,.next (.tmp t2) false,y3,p3,f3,none⟩) (x:=.tuple #[.bool false]) (w':=w') rfl rfl (by
      simp only[execOp];rw[hev2 act' a' ha' hx2];simp[Sem.run_bind,n2,Result.andThen,Sem.run]) ?_
     have ha3:RelL F' ρ' (a'.set t3 (.tp [.bool false])) (act'.put (some t3) (.tuple #[.bool false])).tmps.toList:=dq (v:=.tp [.bool false]) ha' (by simp only[Rel];exact⟨_,rfl,.one (by simp[Rel])⟩) (some t3)
     have hev3:(act'.put (some t3) (.tuple #[.bool false])).eval (.tmp t3)=.tuple #[.bool false]:=by
      have:=aT (Γ:=Γ) hG' ha3 (x:=.tmp t3) (v:=.tp [.bool false]) (th _ _ _ (by rw[hal];exact hL3))
      simp only[Rel] at this
      obtain⟨vs,h1,h2⟩:=this
      rw[h1]
      simp only[RelL,Rel] at h2
      obtain⟨y,ys,h3,rfl,rfl⟩:=h2
      have:vs=#[.bool false]:=Array.toList_inj.1 h3
      rw[this]
     refine fR (o:=⟨some t4,.extract (.tmp t3) 0,y4,p4,f4,none⟩) (x:=.bool false) (w':=w') rfl rfl (by
      simp only[execOp];rw[hev3];rfl) ?_
     have ha4:RelL F' ρ' ((a'.set t3 (.tp [.bool false])).set t4 (.bool false)) ((act'.put (some t3) (.tuple #[.bool false])).put (some t4) (.bool false)).tmps.toList:=dq (v:=.bool false) ha3 (by simp[Rel]) (some t4)
     have hev4:=aT (Γ:=Γ) hG' ha4 (x:=.tmp t4) (v:=.bool false) (th _ _ _ (by rw[List.length_set,hal];exact hL4))
     simp only[Rel] at hev4
     show(Code.seq _ _).wp P _ _ _
     refine wp_seq (wp_cond hev4 ?_)
     simp only[Bool.false_eq_true,if_false]
     refine wp_exit ?_
     refine Conc.here m' ha4 (by rw[cP,cP];exact hd') ?_
     simp only[cN,if_true]
     refine hend X a' seen N' hFr hI fun j hj=>?_
     have hj':j<ents.toList.length:=by rw[MapRel.length u5];exact hj
     have he:=List.getElem?_eq_getElem hj'
     refine(hsB j _ he).1 ?_
     have:leftOf ents seenB=#[]:=Array.eq_empty_of_size_eq_zero n1
     unfold leftOf at this
     rw[Array.filter_eq_empty_iff] at this
     have:=this ents.toList[j] (by simp)
     simpa using this
    ·
     obtain⟨j,k,v,v1,v2,v3,v4⟩:=rB u5 (e:=e) (by
      unfold leftOf at n1
      simp at n1
      simpa using n1.1)
     have hjs:j∉seen:=fun hj=>by
      have:=(hsB j e v2).2 hj
      unfold leftOf at n1
      simp at n1
      simp at this
      exact n1.2 this
     have hjl:j<es.length:=by
      rcases Nat.lt_or_ge j es.length with h|h
      ·
       exact h
      ·
       rw[List.getElem?_eq_none h] at v1;cases v1
     have hems:e∈ents.toList:=List.mem_of_getElem? v2
     obtain⟨w1,hw1⟩:∃w1:World,w1={w' with drawn:=dn,heap:=w'.heap.setIfInBounds w.heap.size (.mapIter (some L.b) clock (seenB.push e.born) clock)}:=⟨_,rfl⟩
     rw[←hw1] at n2
     have hne0:L.b≠w.heap.size:=by omega
     have hheap:∀k,k≠w.heap.size→w1.heap[k]?=w'.heap[k]?:=fun k hk=>by
      rw[hw1]
      show(w'.heap.setIfInBounds _ _)[k]?=_
      rw[Array.getElem?_setIfInBounds_ne (fun e=>hk e.symm)]
     have hiter1:w1.heap[w.heap.size]?=some (.mapIter (some L.b) clock (seenB.push e.born) clock):=by
      rw[hw1]
      show(w'.heap.setIfInBounds _ _)[w.heap.size]?=_
      rw[Array.getElem?_setIfInBounds_self_of_lt (dN hiter)]
     have hmap1:w1.heap[L.b]?=some (.map ents clock):=by rw[hheap _ hne0];exact hmap
     have hsz1:w1.heap.size=w'.heap.size:=by rw[hw1];simp
     have m1:Mem P F' ρ' h w0 O w1:=by
      refine⟨fun b c hb=>?_,fun i b hg'=>?_,m'.inj,m'.ours,?_⟩
      ·
       obtain⟨e',fr,h1⟩:=m'.fro b c hb
       have:b≠w.heap.size:=fun e=>by subst e;rw[hiter] at h1;cases h1
       exact⟨e',fr,by rw[hheap b this];exact h1⟩
      ·
       obtain⟨L2,x2,g1,g2,g3,g4⟩:=m'.own i b hg'
       have:L2.b≠w.heap.size:=fun e=>by
        rw[e,hiter] at g3
        cases g3
        cases b with
        |cells cs t o=>obtain⟨_,h1,_⟩:=g4;cases h1
        |map es=>obtain⟨_,_,h1,_⟩:=g4;cases h1
       exact⟨L2,x2,g1,g2,by rw[hheap _ this];exact g3,g4⟩
      ·
       refine⟨by rw[hw1];exact m'.fr.os,by rw[hw1];exact m'.fr.tape,by rw[hw1];exact m'.fr.output,by rw[hsz1];exact m'.fr.size,fun k hk hO=>?_⟩
       rw[hheap k (by omega)]
       exact m'.fr.block k hk hO
     refine fR (o:=⟨some t3,.next (.tmp t2) false,y3,p3,f3,none⟩) (x:=.tuple #[.bool true,e.key,e.val]) (w':=w1) rfl rfl (by
      simp only[execOp];rw[hev2 act' a' ha' hx2];simp[Sem.run_bind,n2,Result.andThen,Sem.run]) ?_
     have hr3:Rel F' ρ' (.tp [.bool true,k,v]) (.tuple #[.bool true,e.key,e.val]):=by
      simp only[Rel];exact⟨_,rfl,.cons (by simp[Rel]) (.cons v3 (.one v4))⟩
     have ha3:=dq (v:=.tp [.bool true,k,v]) ha' hr3 (some t3)
     have hev3:(act'.put (some t3) (.tuple #[.bool true,e.key,e.val])).eval (.tmp t3)=.tuple #[.bool true,e.key,e.val]:=by
      have hlt:@LT.lt Nat _ t3 act'.tmps.size:=by have:=ha'.length;rw[Array.length_toList] at this;rw[this,hal];exact hL3
      simp[Go.Act.eval,Go.Act.put,hlt]
     refine fR (o:=⟨some t4,.extract (.tmp t3) 0,y4,p4,f4,none⟩) (x:=.bool true) (w':=w1) rfl rfl (by
      simp only[execOp];rw[hev3];rfl) ?_
     have ha4:=dq (v:=.bool true) (x:=.bool true) ha3 (by simp[Rel]) (some t4)
     have hev4:=aT (Γ:=Γ) hG' ha4 (x:=.tmp t4) (v:=.bool true) (th _ _ _ (by simp only[dJ];rw[List.length_set,hal];exact hL4))
     simp only[Rel] at hev4
     show(Code.seq _ _).wp P _ _ _
     refine wp_seq (wp_cond hev4 ?_)
     simp only[if_true]
     refine wp_skip ?_
     show(Code.block B2 _).wp P _ _ _
     generalize hact4:((act'.put (some t3) (.tuple #[.bool true,e.key,e.val])).put (some t4) (.bool true))=act4 at ha4
     have hd4:act4.defers=[]:=by rw[←hact4,cP,cP];exact hd'
     simp only[dJ] at ha4
     have hx4:lk ((a'.set t3 (.tp [.bool true,k,v])).set t4 (.bool true)) t2=some (.jk X):=by
      rw[ya _ _ _ _ (fun e=>hd1.2 e.symm),ya _ _ _ _ (fun e=>hd1.1 e.symm)];exact hx2
     refine wp_block (wp_seq (wp_region ?_))
     show wpOps P _ _ [0,1,2] act4 w1
     refine fR (o:=⟨some t5,.entry (.tmp t2),y5,p5,f5,none⟩) (x:=.tuple #[e.key,e.val]) (w':=w1) rfl rfl (by
      simp only[execOp];rw[hev2 act4 _ ha4 hx4];simp[Sem.run_bind,run_entry_at w1 w.heap.size L.b clock seenB ents clock e hiter1 hmap1 hems q6.2,Result.andThen,Sem.run]) ?_
     have ha5:=dq (v:=.tp [k,v]) (x:=.tuple #[e.key,e.val]) ha4 (by simp only[Rel];exact⟨_,rfl,.cons v3 (.one v4)⟩) (some t5)
     have hev5:(act4.put (some t5) (.tuple #[e.key,e.val])).eval (.tmp t5)=.tuple #[e.key,e.val]:=by
      have hlt:@LT.lt Nat _ t5 act4.tmps.size:=by have:=ha4.length;rw[Array.length_toList] at this;rw[this,List.length_set,List.length_set,hal];exact hL5
      simp[Go.Act.eval,Go.Act.put,hlt]
     refine fR (o:=⟨some t6,.extract (.tmp t5) 0,y6,p6,f6,none⟩) (x:=e.key) (w':=w1) rfl rfl (by
      simp only[execOp];rw[hev5];rfl) ?_
     have ha6:=dq (v:=k) (x:=e.key) ha5 v3 (some t6)
     have hev6:((act4.put (some t5) (.tuple #[e.key,e.val])).put (some t6) e.key).eval (.tmp t6)=e.key:=by
      have hlt:@LT.lt Nat _ t6 act4.tmps.size:=by have:=ha4.length;rw[Array.length_toList] at this;rw[this,List.length_set,List.length_set,hal];exact hL6
      simp[Go.Act.eval,Go.Act.put,hlt]
     refine fR (o:=⟨some t7,.assign (.tmp t6),y7,p7,f7,none⟩) (x:=e.key) (w':=w1) rfl rfl (by
      simp only[execOp];rw[hev6];rfl) ?_
     have ha7:=dq (v:=k) (x:=e.key) ha6 v3 (some t7)
     simp only[dJ] at ha7
     generalize hact7:(((act4.put (some t5) (.tuple #[e.key,e.val])).put (some t6) e.key).put (some t7) e.key)=act7 at ha7
     have hd7:act7.defers=[]:=by rw[←hact7,cP,cP,cP];exact hd4
     show body.wp P _ act7 w1
     have hW:=hround X a' seen j k v N' hFr hI hjs v1 F' ρ' w1 (cL hb ρ') w1 act7 hG' (m1.rebase hsub) hf' ha7 hd7
     refine wp_mono hW ?_
     rintro ex act8 w8 ⟨F8,ρ8,a8,h8,N8,z1,z2,z3,z4,z5,z6⟩
     have keep:∀{hm:Heap},(∀i b,get hm i=some b→(get h8 i=some b∧((get hb i).isSome∨(N'≤i∧i<N8)))∨(get h i=some b∧¬(get hb i).isSome∧¬(N'≤i∧i<N8)))→Mem P F8 ρ8 hm w0 O w8∧Ext F' F8 ρ' ρ8 w0 O N' N8:=fun hmg=>m1.carry hsub z5 z2 hmg
     have goOn:Frm M ((a.set t1 (.mp id)).set t2 (.jk X)) a8∧I (j::seen) a8∧(∀i b,get hb i=some b→get h8 i=some b)→Code.rounds P ((Code.region r2 #[⟨some t3,.next (.tmp t2) false,y3,p3,f3,none⟩,⟨some t4,.extract (.tmp t3) 0,y4,p4,f4,none⟩] false).seq
     ((Code.cond (.tmp t4) .skip (.exit B)).seq (Code.block B2 ((Code.region r3 #[⟨some t5,.entry (.tmp t2),y5,p5,f5,none⟩,⟨some t6,.extract (.tmp t5) 0,y6,p6,f6,none⟩,⟨some t7,.assign (.tmp t6),y7,p7,f7,none⟩] false).seq body)))) (Conc P (cN B Q) F' ρ' w0 O N') n act8 w8:=by
      rintro⟨k1,k2,k3⟩
      obtain⟨c1,c2⟩:=keep (hm:=h) fun i b hi=>by
       have hlow:¬(N'≤i∧i<N8):=fun hr=>by
        obtain⟨L3,_,g1,_⟩:=m1.own i b hi
        rw[hf' i hr.1 (.inl rfl)] at g1
        cases g1
       cases hh:get hb i with
       |none=>exact .inr ⟨hi,by simp,hlow⟩
       |some b'=>
        have:=hsub i b' hh
        rw[hi] at this
        cases this
        exact .inl ⟨k3 i b hh,.inl (by simp)⟩
      have hnb:∀q,q<w1.heap.size→¬cL hb ρ' q→w8.heap[q]?=w1.heap[q]?:=fun q hq hn=>z5.fr.block q hq hn
      have nIt:¬cL hb ρ' w.heap.size:=by
       rintro⟨i,L3,g1,g2,g3⟩
       cases hh:get hb i with
       |none=>rw[hh] at g1;cases g1
       |some b'=>
        obtain⟨L4,x4,l1,l2,l3,l4⟩:=m1.own i b' (hsub i b' hh)
        rw[g2] at l1;cases l1
        rw[g3,hiter1] at l3
        cases l3
        cases b' with
        |cells cs t o=>obtain⟨_,h1,_⟩:=l4;cases h1
        |map es=>obtain⟨_,_,h1,_⟩:=l4;cases h1
      have nMap:¬cL hb ρ' L.b:=by
       rintro⟨i,L3,g1,g2,g3⟩
       cases hh:get hb i with
       |none=>rw[hh] at g1;cases g1
       |some b'=>
        have:=m1.inj i id L3 L (by rw[hsub i b' hh];rfl) (by rw[hg];rfl) g2 hρ g3
        subst this
        rw[hnid] at hh;cases hh
      have hiter8:w8.heap[w.heap.size]?=some (.mapIter (some L.b) clock (seenB.push e.born) clock):=by rw[hnb _ (dN hiter1) nIt];exact hiter1
      have hmap8:w8.heap[L.b]?=some (.map ents clock):=by rw[hnb _ (dN hmap1) nMap];exact hmap1
      have:=ih (j::seen) (seenB.push e.born) a8 F8 ρ8 N8 w8 act8 (by have:=A8 hjl hjs;omega) (hG'.mono z2.f) c1 (hf'.later z2 z1) z3 z4 (z2.p _ _ hρ) hiter8 hmap8 (by
       intro i e' he'
       rw[List.mem_cons,←hsB i e' he']
       simp only[Array.contains_push,Bool.or_eq_true,beq_iff_eq]
       constructor
       ·
        rintro(h|h)
        ·
         exact .inr h
        ·
         left
         have hi:=(List.getElem?_eq_some_iff.1 he')
         have hj':=(List.getElem?_eq_some_iff.1 v2)
         obtain⟨i1,i2⟩:=hi
         obtain⟨j1,j2⟩:=hj'
         have hnd:=q6.2
         rw[List.Nodup,List.pairwise_map,List.pairwise_iff_getElem] at hnd
         rcases Nat.lt_trichotomy i j with hlt|hlt|hlt
         ·
          have:=hnd i j i1 j1 hlt;rw[i2,j2] at this;exact(this h).elim
         ·
          exact hlt
         ·
          have:=hnd j i j1 i1 hlt;rw[i2,j2] at this;exact(this h.symm).elim
       ·
        rintro(h|h)
        ·
         subst h
         rw[v2] at he'
         cases he'
         exact .inr rfl
        ·
         exact .inl h) k1 k2
      exact uO n _ _ act8 w8 (fun _ _ _ hc=>hc.later c2 z1) this
     have stop:ex=.ret→Q .ret a8 [] N8→Conc P (cN B Q) F' ρ' w0 O N' .ret act8 w8:=fun _ hq=>by
      obtain⟨c1,c2⟩:=keep (hm:=[]) (by simp[get])
      exact⟨F8,ρ8,a8,[],N8,z1,c2,z3,z4,c1,hq⟩
     cases ex with
     |normal=>exact goOn z6
     |exit id'=>
      simp only[cN] at z6
      simp only[Exit.inBlock]
      split
      ·
       rename_i hi;rw[if_pos hi] at z6;exact goOn z6
      ·
       rename_i hi;rw[if_neg hi] at z6;exact absurd z6.1 (by simp)
     |goto l=>exact absurd z6.1 (by simp)
     |ret=>exact stop rfl z6.2
     |panic ch=>exact absurd z6.1 (by simp)
     |outgrown=>exact absurd z6.1 (by simp)
  refine key (es.length+1) [] #[] _ F ρ N _ act2 ?_ hG m2 hf ha2 hd2 q1 ?_ ?_ ?_ (Frm.refl M _) (hI0 X)
  ·
   unfold left
   have:=List.length_filter_le (fun j=>!([]:List Nat).contains j) (List.range es.length)
   rw[List.length_range] at this
   omega
  ·
   exact heap_alloc_new w _
  ·
   rw[heap_alloc_old w _ hlb];exact q3
  ·
   intro j e _;simp
 ·
  rintro e act' w' ⟨F',ρ',a',h',N',g1,g2,g3,g4,g5,g6⟩
  cases e with
  |exit id'=>
   simp only[cN] at g6
   simp only[Exit.inBlock]
   split
   ·
    rename_i hi;rw[if_pos hi] at g6;exact⟨F',ρ',a',h',N',g1,g2,g3,g4,g5,g6⟩
   ·
    rename_i hi;rw[if_neg hi] at g6;exact⟨F',ρ',a',h',N',g1,g2,g3,g4,g5,g6⟩
  |normal=>exact⟨F',ρ',a',h',N',g1,g2,g3,g4,g5,g6⟩
  |goto l=>exact⟨F',ρ',a',h',N',g1,g2,g3,g4,g5,g6⟩
  |ret=>exact⟨F',ρ',a',h',N',g1,g2,g3,g4,g5,g6⟩
  |panic ch=>exact⟨F',ρ',a',h',N',g1,g2,g3,g4,g5,g6⟩
  |outgrown=>exact⟨F',ρ',a',h',N',g1,g2,g3,g4,g5,g6⟩
end
end Go.V
end
section
set_option maxHeartbeats 4000000
namespace Go.V
open Go Go.Proofs
attribute [local irreducible] W bO WD aO yl aS bW
section
variable (Γ:Glo Tryz.prog)
attribute [local simp] veq eE bx nM
def mI (ns:List Int):List (Val×Val):=ns.map fun n=>(.int .i64 n,.bool true)
theorem rU {n:Int}:∀{ns:List Int}(j:Nat),n∈ns→∃i,iZ (.int .i64 n) (mI ns) j=some (some (i,.bool true))
 |m::ns,j,h=>by
  simp only[mI,List.map_cons,iZ,nc,if_true]
  by_cases e:n=m
  ·
   exact⟨j,by simp[e]⟩
  ·
   have:=rU (ns:=ns) (j+1) (by rcases List.mem_cons.1 h with h|h;exact(e h).elim;exact h)
   obtain⟨i,hi⟩:=this
   exact⟨i,by simp[e];exact hi⟩
theorem pu {n:Int}:∀{ns:List Int}(j:Nat),n∉ns→iZ (.int .i64 n) (mI ns) j=some none
 |[],_,_=>rfl
 |m::ns,j,h=>by
  simp only[List.mem_cons,not_or] at h
  simp only[mI,List.map_cons,iZ,nc,if_true]
  have:=pu (ns:=ns) (j+1) h.2
  simp[h.1];exact this
theorem Ae (ns:List Int)(n:Int):mI ns++[(.int .i64 n,.bool true)]=mI (ns++[n]):=by simp[mI]
@[simp] theorem F4 (N:Nat)(ns:List Int):(∀a b:Val,(a,b)∈mI ns→aR N a=true∧aR N b=true)↔True:=by
 simp only[iff_true]
 intro a b h
 unfold mI at h
 obtain⟨n,_,e⟩:=List.mem_map.1 h
 cases e
 exact⟨rfl,rfl⟩
theorem fv:∀a b:List (Int×Int),cJ (a++b)=cJ a++cJ b
 |[],_=>rfl
 |(x,y)::a,b=>by simp[cJ,fv a b]
theorem oh:∀l:List Int,qN l=true↔¬l.Nodup
 |[]=>by simp[qN]
 |a::r=>by
  rw[qN,Bool.or_eq_true,oh r,List.nodup_cons,List.contains_eq_mem,decide_eq_true_eq]
  by_cases h:a∈r<;>simp[h]
theorem zY {ns:List Int}{n:Int}(hn:n∈ns)(i:Nat)(h:Heap)(hg:V.get h i=some (.map (mI ns))):i7 Tryz.prog 320 h (.mp i) (.int .i64 n) false=some (.bool true):=by
 have h1:Tryz.prog.underlying 320=some (.map 3 4):=by kernel_rfl
 have h2:fY Tryz.prog 3 (.int .i64 n)=true:=by kernel_rfl
 have h3:fa Tryz.prog 4=some (.bool false):=by kernel_rfl
 unfold i7
 rw[h1]
 simp only[h2,if_true,hg,h3]
 obtain⟨j,hj⟩:=rU (n:=n) 0 hn
 rw[hj];rfl
theorem zX {ns:List Int}{n:Int}(hn:n∉ns)(i:Nat)(h:Heap)(hg:V.get h i=some (.map (mI ns))):i7 Tryz.prog 320 h (.mp i) (.int .i64 n) false=some (.bool false):=by
 have h1:Tryz.prog.underlying 320=some (.map 3 4):=by kernel_rfl
 have h2:fY Tryz.prog 3 (.int .i64 n)=true:=by kernel_rfl
 have h3:fa Tryz.prog 4=some (.bool false):=by kernel_rfl
 unfold i7
 rw[h1]
 simp only[h2,if_true,hg,h3]
 rw[pu (n:=n) 0 hn];rfl
theorem Bk {ns:List Int}{n:Int}(hn:n∉ns)(i:Nat)(h:Heap)(hg:V.get h i=some (.map (mI ns))):gW Tryz.prog 320 h (.mp i) (.int .i64 n) (.bool true)=some (V.put h i (.map (mI (ns++[n])))):=by
 have h1:Tryz.prog.underlying 320=some (.map 3 4):=by kernel_rfl
 have h2:fY Tryz.prog 3 (.int .i64 n)=true:=by kernel_rfl
 unfold gW
 rw[h1]
 simp only[h2,if_true,hg,pu 0 hn,Ae]
theorem f262 (l:List (Int×Int))(t:Ty)(hb:l.length<big):PureOk Tryz.prog Γ 262 [sls bx l,.ag (cTy t)] (.int .i64 (iY l t)):=by
 simp only[big] at hb
 obtain⟨v,hv⟩:∃v,v=iY l t:=⟨_,rfl⟩
 rw[←hv]
 have hv2:v=if (cJ l).Nodup then (if l.length=0∨32<l.length then 1 else if ∃n∈cJ l,n<t.lo∨t.hi<n then 8 else 0) else 1:=by
  rw[hv]
  unfold iY
  by_cases h:(cJ l).Nodup
  ·
   have h':qN (cJ l)=false:=by
    cases hd:qN (cJ l) with
    |false=>rfl
    |true=>exact((oh _).1 hd h).elim
   rw[h',if_pos h]
   simp
  ·
   rw[if_neg h,if_pos ((oh _).2 h)]
 clear hv
 refine Y2 53 Tryz.func262 rfl rfl fun a hl g0 g1=>?_
 repeat' first|refine G1 ?_|(refine G2 ?_ ?_<;>intro hc hd<;>try exact hd.elim)|fail
 refine am [(4,4),(7,7),(9,9),(15,28)] [14] (fun k a h=>∃pre rest,l=pre++rest∧k=rest.length∧lk a 14=some (.int .i64 pre.length)∧(cJ pre).Nodup∧h=[(0,.cells (cTy t) 26 false),(2,.map (mI (cJ pre)))]) ⟨[],l,rfl,rfl,by simp[*],by simp[cJ],by simp[V.put,aX,cJ,mI, *]⟩ ?_
 intro a1 hk hk0 k a h hF hI
 replace g0:=hF.a hk 0
 replace g3:=hF.a hk 3
 replace g5:=hF.a hk 5
 replace g12:=hF.a hk 12
 replace g13:=hF.a hk 13
 replace hl:a.length=53:=hF.len.trans (hk0.trans (by simp[*]))
 clear hk hk0
 obtain⟨pre,rest,rfl,rfl,h14,hnd,rfl⟩:=hI
 cases rest with
 |cons p r=>
  obtain⟨u,w⟩:=p
  have hlt:(pre.length:Int)<pre.length+(r.length+1):=by omega
  have hw:=ad ((pre.length:Int)+1) (by simp at hb;omega) (by simp at hb;omega)
  repeat' first|refine G1 ?_|(refine G2 ?_ ?_<;>intro hc hd<;>try exact hd.elim)|fail
  refine jh (h':=[(0,.cells (cTy t) 26 false),(2,.map (mI (cJ pre)))]) (by (repeat (first|exact aU|refine aP (by simp[V.get, *]) ?_))) ?_
  refine zh (ao:=a1) (Mo:=[(4,4),(7,7),(9,9),(15,28)]++List.map (fun t=>(t,t)) [14]) [(4,4),(9,9),(20,27)] [19] (fun k a h=>(k=2∧lk a 19=some (.int .i64 0)∧h=[(0,.cells (cTy t) 26 false),(2,.map (mI (cJ pre)))])∨(k=1∧lk a 19=some (.int .i64 1)∧u∉cJ pre∧h=[(0,.cells (cTy t) 26 false),(2,.map (mI (cJ pre++[u])))])∨(k=0∧lk a 19=some (.int .i64 2)∧u∉cJ pre∧w∉cJ pre++[u]∧h=[(0,.cells (cTy t) 26 false),(2,.map (mI (cJ pre++[u]++[w])))])) (by (repeat refine Frm.set ?_ rfl);exact hF) (.inl ⟨rfl,by simp[*],by simp[V.put,aX, *]⟩) ?_
  intro a1 hFo hk hk0 k a h hF hI
  replace g0:=hF.a hk 0
  replace g3:=hF.a hk 3
  replace g5:=hF.a hk 5
  replace g12:=hF.a hk 12
  replace g13:=hF.a hk 13
  replace g14:=hF.a hk 14
  replace g18:=hF.a hk 18
  replace hl:a.length=53:=hF.len.trans (hk0.trans (by simp[*]))
  clear hk hk0
  rcases hI with ⟨rfl,h19,rfl⟩|⟨rfl,h19,hu,rfl⟩|⟨rfl,h19,hu,hw2,rfl⟩
  ·
   by_cases hm:u∈cJ pre
   ·
    have hf:=zY hm 2
    have hn:v=1:=by
     rw[hv2,if_neg]
     rw[fv,List.nodup_append]
     exact fun h=>h.2.2 u hm u (by simp[cJ]) rfl
    clear hv2
    repeat' first|refine G1 ?_|(refine G2 ?_ ?_<;>intro hc hd<;>try exact hd.elim)|fail
    exact⟨by simp,.int .i64 1,1,by simp[Tryz.f262, *],by rw[hn];rfl⟩
   ·
    have hf:=zX hm 2
    have hp:=Bk hm 2
    clear hv2
    repeat' first|refine G1 ?_|(refine G2 ?_ ?_<;>intro hc hd<;>try exact hd.elim)|fail
    exact NX [(0,.cells (cTy t) 26 false),(2,.map (mI (cJ pre++[u])))] fun a2 hF2=>(.inr (.inl ⟨rfl,(hF2.q 19),hm,rfl⟩))
  ·
   by_cases hm:w∈cJ pre++[u]
   ·
    have hf:=zY hm 2
    have hn:v=1:=by
     rw[hv2,if_neg]
     rw[fv,List.nodup_append]
     intro h
     rcases List.mem_append.1 hm with h1|h1
     ·
      exact h.2.2 w h1 w (by simp[cJ]) rfl
     ·
      have h2:=h.2.1
      simp at h1
      rw[cJ,h1] at h2
      simp at h2
    clear hv2
    repeat' first|refine G1 ?_|(refine G2 ?_ ?_<;>intro hc hd<;>try exact hd.elim)|fail
    exact⟨by simp,.int .i64 1,1,by simp[Tryz.f262, *],by rw[hn];rfl⟩
   ·
    have hf:=zX hm 2
    have hp:=Bk hm 2
    clear hv2
    repeat' first|refine G1 ?_|(refine G2 ?_ ?_<;>intro hc hd<;>try exact hd.elim)|fail
    exact NX [(0,.cells (cTy t) 26 false),(2,.map (mI (cJ pre++[u]++[w])))] fun a2 hF2=>(.inr (.inr ⟨rfl,(hF2.q 19),hu,hm,rfl⟩))
  ·
   have hnd2:(cJ (pre++[(u,w)])).Nodup:=by
    rw[fv,List.nodup_append]
    refine⟨hnd,?_,?_⟩
    ·
     simp only[cJ,List.nodup_cons,List.mem_cons,List.not_mem_nil,or_false,not_false_eq_true,List.nodup_nil,and_self,and_true]
     intro e;subst e;exact hw2 (by simp)
    ·
     intro x hx y hy e
     subst e
     simp only[cJ,List.mem_cons,List.not_mem_nil,or_false] at hy
     rcases hy with rfl|rfl
     ·
      exact hu hx
     ·
      exact hw2 (by simp[hx])
   have hfl:cJ pre++[u]++[w]=cJ (pre++[(u,w)]):=by rw[fv];simp[cJ]
   rw[hfl]
   clear hfl hu hw2
   repeat' first|refine G1 ?_|(refine G2 ?_ ?_<;>intro hc hd<;>try exact hd.elim)|fail
   exact⟨(by (repeat refine Frm.set ?_ rfl);exact hFo.trans hF (fun t=>by simp;omega)),(by simp[*,aR,aa]),[(0,.cells (cTy t) 26 false),(2,.map (mI (cJ (pre++[(u,w)]))))],(by (repeat (first|exact aU|refine aP (by simp[V.get, *]) ?_))),(by simp[*,bc,cz,aR,aa]),_,rfl,fun a2 hF2=>⟨pre++[(u,w)],r,by simp,rfl,(hF2.q 14),hnd2,rfl⟩⟩
 |nil=>
  simp only[List.append_nil] at *
  rw[if_pos hnd] at hv2
  by_cases h0:pre.length=0
  ·
   have hn:v=1:=by rw[hv2,if_pos (.inl h0)]
   clear hv2
   repeat' first|refine G1 ?_|(refine G2 ?_ ?_<;>intro hc hd<;>try exact hd.elim)|fail
   exact⟨by simp,.int .i64 1,1,by simp[Tryz.f262, *],by rw[hn];rfl⟩
  by_cases h32:32<pre.length
  ·
   have hn:v=1:=by rw[hv2,if_pos (.inr h32)]
   have h32':(32:Int)<(pre.length:Int):=by omega
   clear hv2
   repeat' first|refine G1 ?_|(refine G2 ?_ ?_<;>intro hc hd<;>try exact hd.elim)|fail
   exact⟨by simp,.int .i64 1,1,by simp[Tryz.f262, *],by rw[hn];rfl⟩
  rw[if_neg (by omega)] at hv2
  have h32':¬(32:Int)<(pre.length:Int):=by omega
  refine ey ?_
  repeat' first|refine G3 ?_|(refine G2 ?_ ?_<;>intro hc hd<;>try exact hd.elim)|fail
  refine ey ?_
  repeat' first|refine G3 ?_|(refine G2 ?_ ?_<;>intro hc hd<;>try exact hd.elim)|fail
  refine ey ?_
  refine ey ?_
  repeat' first|refine G3 ?_|(refine G2 ?_ ?_<;>intro hc hd<;>try exact hd.elim)|fail
  refine ey ?_
  refine BL (kt:=3) (et:=4) [(4,4),(10,10),(39,52)] (fun seen a'=>∀j∈seen,∀n,(cJ pre)[j]?=some n→t.lo≤n∧n≤t.hi) (hb:=[(0,.cells (cTy t) 26 false)]) (id:=2) (es:=mI (cJ pre)) (by simp[*]) (by simp[V.get]) (by kernel_rfl) rfl ⟨rfl,rfl,rfl,rfl,rfl⟩ (by simp[*]) (by decide) (by (repeat (first|exact aU|refine aP (by simp[V.get, *]) ?_))) (by simp[V.get]) (fun X=>by simp) ?_ ?_
  ·
   intro X a' seen j k v' N' hFr hI hj hk
   obtain⟨n,hn,hk1,hk2⟩:∃n,(cJ pre)[j]?=some n∧k=.int .i64 n∧v'=.bool true:=by
    simp only[mI,List.getElem?_map] at hk
    cases hx:(cJ pre)[j]? with
    |none=>rw[hx] at hk;simp at hk
    |some n=>rw[hx] at hk;simp at hk;exact⟨n,rfl,hk.1.symm,hk.2.symm⟩
   subst hk1;subst hk2
   have g3':lk a' 3=some (.pr 0 0):=(hFr.same 3 rfl).trans (by simp[*])
   have hl':a'.length=53:=hFr.len.trans (by simp[*])
   clear g0 g1 g3 g5 g12 g13 h14 hF
   by_cases hlo:n<t.lo
   ·
    have hn8:v=8:=by rw[hv2,if_pos ⟨n,List.mem_of_getElem? hn,.inl hlo⟩]
    clear hv2 hI hk hn
    repeat' first|refine G1 ?_|(refine G2 ?_ ?_<;>intro hc hd<;>try exact hd.elim)|fail
    exact⟨trivial,by simp,.int .i64 8,1,by simp[Tryz.f262, *],by rw[hn8];rfl⟩
   ·
    by_cases hhi:t.hi<n
    ·
     have hn8:v=8:=by rw[hv2,if_pos ⟨n,List.mem_of_getElem? hn,.inr hhi⟩]
     clear hv2 hI hk hn
     repeat' first|refine G1 ?_|(refine G2 ?_ ?_<;>intro hc hd<;>try exact hd.elim)|fail
     exact⟨trivial,by simp,.int .i64 8,1,by simp[Tryz.f262, *],by rw[hn8];rfl⟩
    ·
     have hI':∀i∈j::seen,∀m,(cJ pre)[i]?=some m→t.lo≤m∧m≤t.hi:=by
      intro i hi m hm
      rcases List.mem_cons.1 hi with rfl|hi
      ·
       rw[hn] at hm;cases hm;omega
      ·
       exact hI i hi m hm
     clear hv2 hI hk hn
     repeat' first|refine G1 ?_|(refine G2 ?_ ?_<;>intro hc hd<;>try exact hd.elim)|fail
     exact⟨(by (repeat refine Frm.set ?_ rfl);exact hFr),hI',(by (repeat (first|exact aU|refine aP (by simp[V.get, *]) ?_)))⟩
  ·
   intro X a' seen N' hFr hI hall
   have hl':a'.length=53:=hFr.len.trans (by simp[*])
   have hn0:v=0:=by
    rw[hv2,if_neg]
    rintro⟨n,hn,hbad⟩
    obtain⟨j,hj,rfl⟩:=List.getElem_of_mem hn
    have:=hI j (hall j (by simpa[mI] using hj)) _ (List.getElem?_eq_getElem hj)
    omega
   clear hv2 hI hall
   simp only[eD]
   repeat' first|refine G1 ?_|(refine G2 ?_ ?_<;>intro hc hd<;>try exact hd.elim)|fail
   exact⟨by simp,.int .i64 0,1,by simp[Tryz.f262, *],by rw[hn0];rfl⟩
end
end Go.V
end
