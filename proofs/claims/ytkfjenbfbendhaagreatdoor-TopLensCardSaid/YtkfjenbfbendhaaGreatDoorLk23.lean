/-
  A part of a proof: L8 W2 Y8 U4 Z1 Z2 Z3 Z4 Z5.
-/
import Derived.Test.YtkfjenbfbendhaaGreatDoorLk01
import Derived.Test.YtkfjenbfbendhaaGreatDoorLk14
import Derived.Test.YtkfjenbfbendhaaGreatDoorLk16
import Derived.Test.YtkfjenbfbendhaaGreatDoorLk17
import Derived.Test.YtkfjenbfbendhaaGreatDoorLk18
import Derived.Test.YtkfjenbfbendhaaGreatDoorLk22
import Derived.Shelf.Strconv.Itoa3
import Derived.Shelf.SlIter.Nil
import Derived.Shelf.SortM.Plain
import Derived.Shelf.SortM.SortNone
set_option linter.unusedSimpArgs false
set_option linter.unusedVariables false
section
set_option maxHeartbeats 4000000
namespace Go.V
open Go Go.Proofs
attribute [local irreducible] W bO WD aO yl aS bW
section
variable (Γ:Glo Tryz.prog)
attribute [local simp] veq
theorem xg (f:Fld):aZ f=.str f.name :: .bool f.opt::cTy f.ty:=by cases f;rfl
theorem gd.srt {r:Ty}(h:gd r):fC r.fields:=h.parts.2.1
theorem nl {r:Ty}(h:fC r.fields)(n:Str):fC (ax r n).fields:=fD n h
theorem mB (r:Ty)(n m:Str):ah m (ax r n).fields=if n=m then none else ah m r.fields:=bV m n r.fields
theorem xu (n:Str)(l:List Fld):wFs (bZ n l)≤wFs l:=by
 induction l with
 |nil=>exact Nat.le_refl _
 |cons f l ih=>
  rw[bZ]
  split
  ·
   rw[cO];omega
  ·
   rw[cO,cO];omega
theorem yS (f:Fld)(l:List Fld):wFs (dU f l)=f.name.length+1+wT f.ty+wFs l:=by
 induction l with
 |nil=>rw[dU,cO]
 |cons g l ih=>
  rw[dU]
  split
  ·
   rw[cO]
  ·
   rw[cO,ih,cO];omega
theorem yj (l:List Fld):wT (dA l)=wFs l+1:=by simp[dA,wT,dD,wTs]
theorem kx (r:Ty)(n:Str):wT (ax r n)≤wT r:=by
 unfold ax
 rw[yj]
 have:=xu n r.fields
 have:=go r
 omega
theorem zk (r:Ty)(f:Fld):wT (dQ r f)≤wT r+f.name.length+1+wT f.ty:=by
 unfold dQ
 rw[yj,yS]
 have:=go r
 omega
theorem f261 (r:Ty)(n:Str)(u:Ty)(hb:wT r+1<big)(hs:fC r.fields):PureOk Tryz.prog Γ 261 [.ag (cTy r),.str n,.ag (cTy u)] (.ag (cTy (eL r n u))):=by
 have h1:=f260 Γ r n (by omega)
 have h2:=f178 Γ (ax r n) (.mk n false u) (by have:=dP (ax r n);have:=kx r n;omega) (nl hs n) (by rw[mB];simp[Fld.name])
 rw[xg] at h2
 simp only[Fld.name,Fld.opt,Fld.ty] at h2
 unfold eL
 generalize ax r n=r1 at *
 generalize dQ r1 (.mk n false u)=r2 at *
 clear hs hb
 refine Y3 14 Tryz.func261 rfl rfl fun a hl g0 g1 g2=>?_
 repeat' first|refine G1 ?_|(refine G2 ?_ ?_<;>intro hc hd<;>try exact hd.elim)|fail
 refine aQ h1 ?_
 repeat' first|refine G1 ?_|(refine G2 ?_ ?_<;>intro hc hd<;>try exact hd.elim)|fail
 refine aQ h2 ?_
 clear h1 h2
 repeat' first|refine G1 ?_|(refine G2 ?_ ?_<;>intro hc hd<;>try exact hd.elim)|fail
 exact⟨by simp,.ag (cTy r2),1,by simp[Tryz.f261,V.get,V.put,aX, *],aG (by simp[Val.closed])⟩
def iO:Prop:=∀(t:Ty)(d:Doc),wT t<big→wD d<big→PureOk Tryz.prog Γ 11 [.ag (cTy t),.ag (aH d)] (.bool (cQ t d))
theorem f179 (H:iO Γ)(t:Ty)(d:Doc)(ht:wT t<big)(hd:wD d<big):PureOk Tryz.prog Γ 179 [.ag (cTy t),.ag (aH d)] (.int .i64 (dy t d)):=by
 have h1:=f27 Γ t ht
 have h2:=f259 Γ t
 have h3:=H t d ht hd
 obtain⟨v,hv⟩:∃v,v=dy t d:=⟨_,rfl⟩
 rw[←hv]
 unfold dy at hv
 generalize bq t=p1 at *
 generalize de t=p2 at *
 generalize cQ t d=p3 at *
 clear ht hd
 refine Y2 19 Tryz.func179 rfl rfl fun a hl g0 g1=>?_
 repeat' first|refine G1 ?_|(refine G2 ?_ ?_<;>intro hc hd<;>try exact hd.elim)|fail
 all_goals (try (refine aC h1 ?_))
 repeat' first|refine G1 ?_|(refine G2 ?_ ?_<;>intro hc hd<;>try exact hd.elim)|fail
 all_goals (try (refine aC h2 ?_))
 all_goals (repeat' first|refine G1 ?_|(refine G2 ?_ ?_<;>intro hc hd<;>try exact hd.elim)|fail)
 all_goals (try (refine aC h3 ?_))
 all_goals (repeat' first|refine G1 ?_|(refine G2 ?_ ?_<;>intro hc hd<;>try exact hd.elim)|fail)
 all_goals first|(have e:v=7:=(by grind [List.length_eq_zero_iff,aL,aN,aM,aY]);(try clear hv);(try clear hv2);exact⟨by simp,.int .i64 v,1,by simp[Tryz.f179, *],rfl⟩)|(have e:v=8:=(by grind [List.length_eq_zero_iff,aL,aN,aM,aY]);(try clear hv);(try clear hv2);exact⟨by simp,.int .i64 v,1,by simp[Tryz.f179, *],rfl⟩)|(have e:v=0:=(by grind [List.length_eq_zero_iff,aL,aN,aM,aY]);(try clear hv);(try clear hv2);exact⟨by simp,.int .i64 v,1,by simp[Tryz.f179, *],rfl⟩)|(exact⟨by simp,.int .i64 v,1,(by simp[Tryz.f179, *]<;>grind [List.length_eq_zero_iff,aL,aN,aM]),rfl⟩)
end
end Go.V
end
section
set_option maxHeartbeats 4000000
namespace Go.V
open Go Go.Proofs
attribute [local irreducible] W bO WD aO yl aS bW
section
variable (Γ:Glo Tryz.prog)
attribute [local simp] veq
theorem WkL.len:∀{us vs:List Val},WkL us vs→us.length=vs.length
 |[],[],_=>rfl
 |[],_::_,h=>h.elim
 |_::_,[],h=>h.elim
 |_::us,_::vs,h=>by simp[WkL.len h.2]
theorem Wk.sl {us vs:List Val}{n:Nat}{cap:Option Nat}(h:WkL us vs):Wk (.sl us n cap) (.sl vs n cap):=fun F ρ x hr=>by
 have hl:=h.len
 simp only[Rel] at hr ⊢
 rcases hr with ⟨h1,h2,h3,h4⟩|⟨b,o,c,k,h1,h2,h3,h4,h5⟩
 ·
  subst h3
  exact .inl ⟨h1,h2,List.eq_nil_of_length_eq_zero (by simpa using hl.symm),h4⟩
 ·
  exact .inr ⟨b,o,c,k,h1,h2,h3,h4,by rw[←hl];exact WkL.rel h h5⟩
theorem DA (h:Heap)(i:Nat)(x0 x1 x2:Val)(q:List Val)(v:Val)(hq:q.length=12):bG Tryz.prog 27 1 [(0,.ag (x0::x1::x2::(q++[v])))] h i=some (.so i 0 1 (some 1),V.put h i (.cells (x0::x1::x2::(q++[v])) 122 false)):=by
 have key:∀y0 y1 y2 y3 y4 y5 y6 y7 y8 y9 y10 y11:Val,bG Tryz.prog 27 1 [(0,.ag [x0,x1,x2,y0,y1,y2,y3,y4,y5,y6,y7,y8,y9,y10,y11,v])] h i=some (.so i 0 1 (some 1),V.put h i (.cells [x0,x1,x2,y0,y1,y2,y3,y4,y5,y6,y7,y8,y9,y10,y11,v] 122 false)):=by
  intro y0 y1 y2 y3 y4 y5 y6 y7 y8 y9 y10 y11
  kernel_rfl
 match q,hq with
 |[y0,y1,y2,y3,y4,y5,y6,y7,y8,y9,y10,y11],_=>exact key y0 y1 y2 y3 y4 y5 y6 y7 y8 y9 y10 y11
theorem f131 (s:Lns)(hb:wN s<big):PureOk Tryz.prog Γ 131 [.ag (aK s)] (.ag (aK (nL s))):=by
 obtain⟨q,q1,q2,q3,q4,q5⟩:=xl s
 have hq:=q1 s.kind s.a s.b []
 have hq2:=q1 (dt s.kind) (if s.kind=1 then s.b else s.a) (if s.kind=1 then s.a else s.b) []
 have hq3:=q1 (dt s.kind) (if s.kind=1 then s.b else s.a) (if s.kind=1 then s.a else s.b) s.subs
 have h1:=f74' Γ [.mk s.kind s.a s.b s.ty s.doc s.swaps []] (by
  have:=eM s
  simp only[wNs,wN,big] at *;omega)
 have e1:bU [.mk s.kind s.a s.b s.ty s.doc s.swaps []]=[.mk (dt s.kind) (if s.kind=1 then s.b else s.a) (if s.kind=1 then s.a else s.b) s.ty s.doc s.swaps []]:=by
  simp[bU,turnN]
 rw[e1] at h1
 have e2:nL s=.mk (dt s.kind) (if s.kind=1 then s.b else s.a) (if s.kind=1 then s.a else s.b) s.ty s.doc s.swaps s.subs:=by cases s;rfl
 rw[e2,hq3,q2]
 generalize hA:(if s.kind=1 then s.b else s.a)=A at *
 generalize hB:(if s.kind=1 then s.a else s.b)=B at *
 generalize dt s.kind=K at *
 have hw:Wk (.sl (.int .i64 s.kind :: .str s.a :: .str s.b::(q++[.nils])) 1 (some 1)) (sls aK [.mk s.kind s.a s.b s.ty s.doc s.swaps []]):=by
  have e3:sls aK [.mk s.kind s.a s.b s.ty s.doc s.swaps []]=.sl (.int .i64 s.kind :: .str s.a :: .str s.b::(q++[sls aK []])) 1 none:=by
   show Val.sl (row aK [_]) 1 none=_
   rw[bt,eG,List.append_nil,hq]
  rw[e3]
  have hl:∀l:List Val,WkL (l++[.nils]) (l++[sls aK []]):=by
   intro l
   induction l with
   |nil=>exact⟨Wk.nils,trivial⟩
   |cons v l ih=>exact⟨Wk.refl v,ih⟩
  have:=hl (.int .i64 s.kind :: .str s.a :: .str s.b::q)
  intro F ρ x hx
  have h2:Wk (.sl (.int .i64 s.kind :: .str s.a :: .str s.b::(q++[.nils])) 1 none) (.sl (.int .i64 s.kind :: .str s.a :: .str s.b::(q++[sls aK []])) 1 none):=Wk.sl this
  exact h2 F ρ x (Wk.cap _ _ _ F ρ x hx)
 have h2:PureOk Tryz.prog Γ 74 [.sl (.int .i64 s.kind :: .str s.a :: .str s.b::(q++[.nils])) 1 (some 1)] (.sl (.int .i64 K :: .str A :: .str B::(q++[.sl [] 0 none])) 1 none):=by
  have:=h1.arg (vs:=[.sl (.int .i64 s.kind :: .str s.a :: .str s.b::(q++[.nils])) 1 (some 1)]) ⟨hw,trivial⟩
  have e4:sls aK [.mk K A B s.ty s.doc s.swaps []]=.sl (.int .i64 K :: .str A :: .str B::(q++[.sl [] 0 none])) 1 none:=by
   show Val.sl (row aK [_]) 1 none=_
   rw[bt,eG,List.append_nil,hq2];rfl
  rwa[e4] at this
 clear h1 hw e1 e2 hA hB hq hq2 hq3 q1 q2 hb
 have hv:vwL Tryz.prog [(8,.cells (.int .i64 s.kind :: .str s.a :: .str s.b::(q++[.nils])) 122 false)] 60 [.so 8 0 1 (some 1)]=some [.sl (.int .i64 s.kind :: .str s.a :: .str s.b::(q++[.nils])) 1 (some 1)]:=
  aI (dC (t:=122) rfl (by simp[q3]) (by simp[aE,Val.closed,q4]) (by simp[q3])) bR
 have hd1:∀v,List.drop 12 (q++[v])=[v]:=fun v=>by rw[←q3];exact List.drop_left
 have ht1:∀v,List.take 12 (q++[v])=q:=fun v=>by rw[←q3];exact List.take_left
 have hg1:∀v:Val,(q++[v])[12]?=some v:=fun v=>by rw[List.getElem?_append_right (by omega),q3];rfl
 have hat:∀(v:Val) (h:12<(q++[v]).length),(q++[v])[12]=v:=fun v h=>jC (hg1 v) h
 have hal:∀v:Val,List.take 13 (q++[v])=q++[v]:=fun v=>List.take_of_length_le (by simp[q3])
 have hdr:∀v:Val,List.drop 13 (q++[v])=[]:=fun v=>List.drop_of_length_le (by simp[q3])
 have h3:=CallOk.freeze 9 h2 hv
 clear h2 hv
 generalize s.a=sa at *
 generalize s.b=sb at *
 generalize s.kind=sk at *
 have hbs:=fun(h:Heap) (i:Nat) (x0 x1 x2 v:Val)=>DA h i x0 x1 x2 q v q3
 refine Y1 15 Tryz.func131 rfl rfl fun a hl g0=>?_
 repeat' first|refine G1 ?_|(refine G2 ?_ ?_<;>intro hc hd<;>try exact hd.elim)|fail
 refine av h3 ?_
 repeat' first|refine G1 ?_|(refine G2 ?_ ?_<;>intro hc hd<;>try exact hd.elim)|fail
 exact⟨by simp,.ag (.int .i64 K :: .str A :: .str B::(q++[sls aK s.subs])),1,by simp[Tryz.f131,V.get,V.put,aX, *],aG (by simp[Val.closed,aE, *])⟩
end
end Go.V
end
section
set_option maxHeartbeats 4000000
namespace Go.V
open Go Go.Proofs
attribute [local irreducible] W bO WD aO yl aS bW
section
variable (Γ:Glo Tryz.prog)
attribute [local simp] veq bP ei V.del
theorem FQ (e:Int):dB Tryz.prog 77 [(1,.int .i64 e)]=some [.nils,.int .i64 e]:=by kernel_rfl
theorem Bs (e:Int)(h:Heap)(i:Nat):bG Tryz.prog 141 1 [(0,.ag [.nils,.int .i64 e])] h i=some (.so i 0 1 (some 1),V.put h i (.cells [.nils,.int .i64 e] 77 false)):=by kernel_rfl
theorem DB:dB Tryz.prog 77 []=some [.nils,.int .i64 0]:=by kernel_rfl
attribute [local simp] DB
theorem D9:Tryz.prog.cellsOf 77=2:=by kernel_rfl
attribute [local simp] FQ Bs
def uj (it:Nat→Str)(t:Ty)(d:Doc):List Flt:=if bq t&&dH d then aV it t d [] else [([],1)]
theorem xa (it:Nat→Str)(t:Ty)(d:Doc):bad (uj it t d):=by
 unfold uj
 split
 ·
  exact uk it t d []
 ·
  exact bad.one (by decide)
theorem xd (it:Nat→Str)(t:Ty)(d:Doc):uj it t d=[]↔cQ t d=true:=by
 unfold uj cQ
 by_cases h:(bq t&&dH d)=true
 ·
  rw[if_pos h,ux it t d [] ((eZ d).1 (Bool.and_eq_true _ _ ▸ h).2).2.2,h,Bool.true_and]
 ·
  rw[if_neg h,Bool.eq_false_iff.2 h]
  simp
theorem f80 (it:Nat→Str)(HI:∀k:Nat,k<1000000000→PureOk Tryz.prog Γ 65 [.int .i64 k] (.str (it k)))(t:Ty)(d:Doc)(ht:wT t<big)(hd:wD d<big) :
  PureOk Tryz.prog Γ 80 [.ag (cTy t),.ag (aH d)] (gR dM (uj it t d)):=by
 have h140:=f140 Γ t d ht hd
 unfold uj
 by_cases hh:(bq t&&dH d)=true
 ·
  have h1:=Bool.and_eq_true _ _ ▸ hh
  have k0:=f141 Γ it HI t d h1.1 h1.2
  rw[if_pos hh]
  rw[hh] at h140
  generalize aV it t d []=X at *
  clear hh h1 HI ht hd
  have k1:=k0.ren [6] 10 rfl (by simp[cm,fU,aa,aR,aD]) (by simp) (ge dM (by simp) (by simp))
  have hcx:=bh X
  simp only[ae,oP dM _ bh] at k1
  simp[bF,b9,bu,au,oQ,tau,aJ] at k1
  clear k0
  cases X with
  |nil=>
   simp only[gH,gV,gR,List.nil_append] at k1 ⊢
   refine Y2 17 Tryz.func80 rfl rfl fun a hl g0 g1=>?_
   repeat' first|refine G1 ?_|(refine G2 ?_ ?_<;>intro hc hd<;>try exact hd.elim)|fail
   all_goals (try (refine aC h140 ?_))
   repeat' first|refine G1 ?_|(refine G2 ?_ ?_<;>intro hc hd<;>try exact hd.elim)|fail
   refine av k1 ?_
   repeat' first|refine G1 ?_|(refine G2 ?_ ?_<;>intro hc hd<;>try exact hd.elim)|fail
   exact⟨by simp,.nils,1,by simp[Tryz.f80, *],rfl⟩
  |cons x X=>
   have hlo:=fun N=>aD (N:=N) _ hcx
   have hcl:(row dM (x::X)).length=(X.length+1)*2:=dS _
   simp only[gH,gV,gR,List.nil_append,List.cons_append] at k1 ⊢
   unfold sls
   simp only[List.length_cons]
   generalize row dM (x::X)=cs at *
   refine Y2 17 Tryz.func80 rfl rfl fun a hl g0 g1=>?_
   repeat' first|refine G1 ?_|(refine G2 ?_ ?_<;>intro hc hd<;>try exact hd.elim)|fail
   all_goals (try (refine aC h140 ?_))
   repeat' first|refine G1 ?_|(refine G2 ?_ ?_<;>intro hc hd<;>try exact hd.elim)|fail
   refine av k1 ?_
   repeat' first|refine G1 ?_|(refine G2 ?_ ?_<;>intro hc hd<;>try exact hd.elim)|fail
   exact⟨by simp,.so 10 0 (X.length+1) none,cs.length+2,by simp[Tryz.f80, *],dC (t:=77) (o:=true) (by simp[V.get, *]) (by rw[hcl,D9]) hcx (by omega)⟩
 ·
  rw[if_neg hh]
  rw[Bool.not_eq_true] at hh
  rw[hh] at h140
  clear hh
  refine PureOk.wk (r:=.sl [.nils,.int .i64 1] 1 (some 1)) ?_ (fun F ρ x h=>(Wk.sl (us:=[.nils,.int .i64 1]) (vs:=dM ([],1)) ⟨Wk.nils,Wk.refl _,trivial⟩) F ρ x (Wk.cap _ _ _ F ρ x h))
  refine Y2 17 Tryz.func80 rfl rfl fun a hl g0 g1=>?_
  repeat' first|refine G1 ?_|(refine G2 ?_ ?_<;>intro hc hd<;>try exact hd.elim)|fail
  all_goals (try (refine aC h140 ?_))
  repeat' first|refine G1 ?_|(refine G2 ?_ ?_<;>intro hc hd<;>try exact hd.elim)|fail
  exact⟨by simp,.so 7 0 1 (some 1),20,by simp[Tryz.f80, *],dC (t:=77) (o:=false) (cs:=[.nils,.int .i64 1]) (by simp[V.get, *]) (by rw[D9];rfl) (by simp) (by simp)⟩
theorem f34 (it:Nat→Str)(HI:∀k:Nat,k<1000000000→PureOk Tryz.prog Γ 65 [.int .i64 k] (.str (it k)))(t:Ty)(d:Doc)(ht:wT t<big)(hd:wD d<big) :
  ∃p e,PureOk Tryz.prog Γ 34 [.ag (cTy t),.ag (aH d)] (.ag [p,.int .i64 e])∧decide (e=0)=cQ t d:=by
 have h80:=f80 Γ it HI t d ht hd
 have hb:=xa it t d
 have hn:=xd it t d
 generalize cQ t d=v at *
 generalize uj it t d=X at *
 cases X with
 |nil=>
  have hv:v=true:=hn.1 rfl
  subst hv
  refine⟨.nils,0,?_,rfl⟩
  simp only[gR] at h80
  refine Y2 16 Tryz.func34 rfl rfl fun a hl g0 g1=>?_
  repeat' first|refine G1 ?_|(refine G2 ?_ ?_<;>intro hc hd<;>try exact hd.elim)|fail
  all_goals (try (refine aC h80 ?_))
  repeat' first|refine G1 ?_|(refine G2 ?_ ?_<;>intro hc hd<;>try exact hd.elim)|fail
  exact⟨by simp,.ag [.nils,.int .i64 0],5,by simp[Tryz.f34,V.get, *],by simp[vw,vwL]⟩
 |cons x X=>
  have hv:v=false:=by
   cases v with
   |false=>rfl
   |true=>have:=hn.2 rfl;cases this
  subst hv
  obtain⟨p,e⟩:=x
  have he:e≠0:=hb (p,e) (by simp)
  refine⟨sls aW p,e,?_,by simpa using he⟩
  have hr:row dM ((p,e)::X)=sls aW p :: .int .i64 e::row dM X:=rfl
  simp only[gR] at h80
  unfold sls at h80
  rw[hr] at h80
  have hlt:(0:Int)<X.length+1:=by omega
  have hne:¬(X.length:Int)+1=0:=by omega
  have hln:(dM (p,e)).length=2:=rfl
  unfold sls at h80 ⊢
  simp only[List.length_cons] at h80
  have hp:=ic p
  clear ht hd HI hb hn hr
  generalize row aW p=cs at *
  generalize row dM X=ds at *
  refine Y2 16 Tryz.func34 rfl rfl fun a hl g0 g1=>?_
  repeat' first|refine G1 ?_|(refine G2 ?_ ?_<;>intro hc hd<;>try exact hd.elim)|fail
  all_goals (try (refine aC h80 ?_))
  repeat' first|refine G1 ?_|(refine G2 ?_ ?_<;>intro hc hd<;>try exact hd.elim)|fail
  exact⟨by simp,.ag [.sl cs p.length none,.int .i64 e],5,by simp[Tryz.f34,V.get, *],aG (by simp[Val.closed,aE,hp])⟩
theorem Do (it:Nat→Str)(HI:∀k:Nat,k<1000000000→PureOk Tryz.prog Γ 65 [.int .i64 k] (.str (it k))):iO Γ:=by
 intro t d ht hd
 obtain⟨p,e,h34,he⟩:=f34 Γ it HI t d ht hd
 rw[←he]
 clear he HI ht hd
 by_cases hz:e=0
 ·
  subst hz
  refine Y2 10 Tryz.func11 rfl rfl fun a hl g0 g1=>?_
  repeat' first|refine G1 ?_|(refine G2 ?_ ?_<;>intro hc hd<;>try exact hd.elim)|fail
  all_goals (try (refine aC h34 ?_))
  repeat' first|refine G1 ?_|(refine G2 ?_ ?_<;>intro hc hd<;>try exact hd.elim)|fail
  exact⟨by simp,.bool true,1,by simp[Tryz.f11, *],rfl⟩
 ·
  refine Y2 10 Tryz.func11 rfl rfl fun a hl g0 g1=>?_
  repeat' first|refine G1 ?_|(refine G2 ?_ ?_<;>intro hc hd<;>try exact hd.elim)|fail
  all_goals (try (refine aC h34 ?_))
  repeat' first|refine G1 ?_|(refine G2 ?_ ?_<;>intro hc hd<;>try exact hd.elim)|fail
  exact⟨by simp,.bool false,1,by simp[Tryz.f11, *],by simp[hz,vw]⟩
end
end Go.V
end
section
namespace Go.V
open Go Go.Proofs Go.Shelf Go.RowKit Go.Sort
theorem rG {F:Fro}{ρ:Pl}{k:IntKind}:∀(zs:List Int)(xs:List Value),RelL F ρ (zs.map fun z=>.int k z) xs→xs=zs.map fun z=>Value.int k z
 |[],xs,h=>by simpa[RelL] using h
 |z::zs,xs,h=>by
  simp only[List.map_cons,RelL,Rel] at h
  obtain⟨y,ys,rfl,rfl,h2⟩:=h
  rw[rG zs ys h2]
  rfl
theorem C6 {F:Fro}{w:World}(hG:GOk F ΓT)(hF:FOk F w){g:Nat}{k:IntKind}{zs:List Int}{name:String}(hg:tG g=some (zs.map fun z=>.int k z))(hn:Tryz.prog.globalNamed name=some g):Lib.TabIs Tryz.prog w name k zs:=by
 obtain⟨c,h1,h2,h3⟩:=hG g _ hg
 obtain⟨e,fr,hb⟩:=hF g c h1
 unfold Lib.TabIs World.var?
 rw[hn]
 simp only[Option.bind_some,hb]
 have:c.toList.take (zs.map fun z=>Val.int k z).length=c.toList:=List.take_of_length_le (by rw[Array.length_toList,h3];exact Nat.le_refl _)
 rw[this] at h2
 have:=rG zs _ h2
 rw[←this]
theorem FOk.grow {F:Fro}{w:World}(h:FOk F w)(k:Nat)(os:Array Obj):FOk F (Sort.grow (w.drewN k) os):=by
 intro b c hb
 obtain⟨e,fr,h1⟩:=h b c hb
 refine⟨e,fr,?_⟩
 have hlt:b<w.heap.size:=by
  rcases Nat.lt_or_ge b w.heap.size with h|h
  ·
   exact h
  ·
   rw[Array.getElem?_eq_none h] at h1;cases h1
 show(w.heap++os)[b]?=_
 rw[Array.getElem?_append_left hlt]
 exact h1
theorem Fr.grow (w:World)(k:Nat)(os:Array Obj):Fr w (fun _=>False) (Sort.grow (w.drewN k) os):=by
 refine⟨rfl,rfl,rfl,?_,?_⟩
 ·
  show w.heap.size≤(w.heap++os).size
  rw[Array.size_append];omega
 ·
  intro b hb _
  show(w.heap++os)[b]?=_
  rw[Array.getElem?_append_left hb]
theorem f65 (k:Nat)(hk:k<1000000000):PureOk Tryz.prog ΓT 65 [.int .i64 k] (.str (Lib.itoa k)):=by
 intro F w xs hG hF hr
 simp only[RelL,Rel] at hr
 obtain⟨y,ys,e1,rfl,rfl⟩:=hr
 obtain rfl:xs=#[.int .i64 k]:=by cases xs;simp_all
 refine(Any.strconv_Itoa Tryz.itoaL k (by omega) (by omega) w (C6 hG hF (g:=1) rfl (by kernel_rfl))).mono ?_
 rintro e w' ⟨rfl,q,os,rfl⟩
 exact⟨F,_,rfl,FLe.refl F,fun b c h=>.inl h,hF.grow q os,by rw[Rel];rfl,Fr.grow w q os⟩
theorem yT:iO ΓT:=Do ΓT (fun k=>Lib.itoa k) f65
end Go.V
end
section
namespace Go.V
open Go Go.Proofs
def mF (f:Flds):List (Val×Val):=f.map fun p=>(.str p.1,.ag (aH p.2))
def zDoc:List Val:=[.int .i64 0,.int .i64 0,.str [],.nils,.nils]
def cG (n:Str)(f:Flds):List Val:=match bD n f with
 |some x=>aH x
 |none=>zDoc
theorem BT:Wk (.ag zDoc) (.ag (aH zeroDoc)):=Wk.ag ⟨Wk.refl _,Wk.refl _,Wk.refl _,Wk.nils,Wk.nils,trivial⟩
theorem mJ (n:Str)(f:Flds):Wk (.ag (cG n f)) (.ag (aH (bf n f))):=by
 unfold cG bf
 cases bD n f with
 |some x=>exact Wk.refl _
 |none=>exact BT
theorem qt (n:Str)(f:Flds):(cG n f).length=5:=by
 unfold cG
 cases bD n f with
 |some x=>exact bS x
 |none=>rfl
theorem eJ (n:Str)(f:Flds):aE (cG n f)=true:=by
 unfold cG
 cases bD n f with
 |some x=>exact eX x
 |none=>rfl
def jn (n:Str):Flds→Nat→Option (Nat×Val)
 |[],_=>none
 |p::f,i=>if p.1=n then some (i,.ag (aH p.2)) else jn n f (i+1)
theorem mi (n:Str):∀(f:Flds)(i:Nat),iZ (.str n) (mF f) i=some (jn n f i)
 |[],_=>rfl
 |p::f,i=>by
  show iZ (.str n) ((.str p.1,.ag (aH p.2))::mF f) i=_
  rw[iZ,jn]
  by_cases h:p.1=n
  ·
   subst h
   simp[nc]
  ·
   have h2:(n==p.1)=false:=by rw[beq_eq_false_iff_ne];exact fun e=>h e.symm
   simp only[nc,h2,if_neg h]
   exact mi n f (i+1)
theorem uD (n:Str):∀(f:Flds)(i:Nat),(jn n f i).map (·.2)=(bD n f).map fun x=>.ag (aH x)
 |[],_=>rfl
 |(k,d)::f,i=>by
  rw[jn,bD]
  split
  ·
   rfl
  ·
   exact uD n f (i+1)
theorem uE (n:Str)(x:Doc):∀(f:Flds)(i:Nat),mF (aq n x f)=match jn n f i with
  |some (j,_)=>(mF f).set (j-i) (.str n,.ag (aH x))
  |none=>mF f++[(.str n,.ag (aH x))]
 |[],_=>rfl
 |(k,d)::f,i=>by
  rw[jn,aq]
  by_cases h:k=n
  ·
   simp[h,mF]
  ·
   simp only[h,if_false]
   have ih:=uE n x f (i+1)
   have hge:∀(f:Flds) (i j:Nat) (v:Val),jn n f i=some (j,v)→i≤j:=by
    intro f
    induction f with
    |nil=>intro i j v h;cases h
    |cons p f ihf=>
     intro i j v h
     rw[jn] at h
     split at h
     ·
      cases h;exact Nat.le_refl _
     ·
      have:=ihf _ _ _ h;omega
   show(Val.str k,Val.ag (aH d))::mF (aq n x f)=_
   rw[ih]
   cases hp:jn n f (i+1) with
   |none=>rfl
   |some q=>
    obtain⟨j,v⟩:=q
    have:=hge _ _ _ _ hp
    simp only
    rw[show j-i=(j-(i+1))+1 by omega]
    rfl
theorem uC (n:Str):∀(f:Flds)(i:Nat),mF (dY n f)=match jn n f i with
  |some (j,_)=>(mF f).eraseIdx (j-i)
  |none=>mF f
 |[],_=>rfl
 |(k,d)::f,i=>by
  rw[jn,dY]
  by_cases h:k=n
  ·
   simp[h,mF]
  ·
   simp only[h,if_false]
   have ih:=uC n f (i+1)
   have hge:∀(f:Flds) (i j:Nat) (v:Val),jn n f i=some (j,v)→i≤j:=by
    intro f
    induction f with
    |nil=>intro i j v h;cases h
    |cons p f ihf=>
     intro i j v h
     rw[jn] at h
     split at h
     ·
      cases h;exact Nat.le_refl _
     ·
      have:=ihf _ _ _ h;omega
   show(Val.str k,Val.ag (aH d))::mF (dY n f)=_
   rw[ih]
   cases hp:jn n f (i+1) with
   |none=>rfl
   |some q=>
    obtain⟨j,v⟩:=q
    have:=hge _ _ _ _ hp
    simp only
    rw[show j-i=(j-(i+1))+1 by omega]
    rfl
theorem yf {h:Heap}{i:Nat}{b:Blk}(hg:V.get h i=some b):V.put h i b=h:=by
 induction h with
 |nil=>cases hg
 |cons p r ih=>
  obtain⟨k,c⟩:=p
  rw[V.get] at hg
  rw[V.put]
  split
  ·
   rename_i e;subst e;rw[if_pos rfl] at hg;cases hg;rfl
  ·
   rename_i e;rw[if_neg e] at hg;rw[ih hg]
def iu (t:TypeId):Prop:=Tryz.prog.underlying t=some (.map 9 30)
theorem bY:iu 203:=by unfold iu;kernel_rfl
theorem my:iu 202:=by unfold iu;kernel_rfl
theorem pk9 (n:Str):fY Tryz.prog 9 (.str n)=true:=by kernel_rfl
theorem E5:fa Tryz.prog 30=some (.ag zDoc):=by kernel_rfl
theorem eV {t:TypeId}(ht:iu t){h:Heap}{id:Nat}{f:Flds}(hg:V.get h id=some (.map (mF f)))(n:Str)(ok:Bool):i7 Tryz.prog t h (.mp id) (.str n) ok=some (if ok then .tp [.ag (cG n f),.bool (bD n f).isSome] else .ag (cG n f)):=by
 unfold i7
 rw[show Tryz.prog.underlying t=_ from ht]
 simp only[pk9,if_true,hg,E5,mi]
 have:=uD n f 0
 unfold cG
 cases hp:jn n f 0 with
 |none=>
  rw[hp] at this
  cases hm:bD n f with
  |none=>rfl
  |some x=>rw[hm] at this;cases this
 |some q=>
  rw[hp] at this
  obtain⟨j,v⟩:=q
  cases hm:bD n f with
  |none=>rw[hm] at this;cases this
  |some x=>rw[hm] at this;simp only[Option.map_some,Option.some.injEq] at this;subst this;rfl
theorem dg {t:TypeId}(ht:iu t){h:Heap}{id:Nat}{f:Flds}(hg:V.get h id=some (.map (mF f)))(n:Str)(x:Doc):gW Tryz.prog t h (.mp id) (.str n) (.ag (aH x))=some (V.put h id (.map (mF (aq n x f)))):=by
 unfold gW
 rw[show Tryz.prog.underlying t=_ from ht]
 simp only[pk9,if_true,hg,mi]
 rw[uE n x f 0]
 cases jn n f 0 with
 |none=>rfl
 |some q=>rfl
theorem pn {t:TypeId}(ht:iu t){h:Heap}{id:Nat}{f:Flds}(hg:V.get h id=some (.map (mF f)))(n:Str):jg Tryz.prog t h (.mp id) (.str n)=some (V.put h id (.map (mF (dY n f)))):=by
 unfold jg
 rw[show Tryz.prog.underlying t=_ from ht]
 simp only[pk9,if_true,hg,mi]
 rw[uC n f 0]
 cases jn n f 0 with
 |none=>simp only;rw[yf hg]
 |some q=>rfl
@[simp] theorem Ez (t:TypeId)(ht:iu t)(f:Flds)(r:Heap)(n:Str)(ok:Bool):i7 Tryz.prog t ((0,.map (mF f))::r) (.mp 0) (.str n) ok=some (if ok then .tp [.ag (cG n f),.bool (bD n f).isSome] else .ag (cG n f)):=eV ht (by simp[V.get]) n ok
@[simp] theorem EN (t:TypeId)(ht:iu t)(f:Flds)(r:Heap)(n:Str)(x:Doc):gW Tryz.prog t ((0,.map (mF f))::r) (.mp 0) (.str n) (.ag (aH x))=some ((0,.map (mF (aq n x f)))::r):=by rw[dg ht (f:=f) (by simp[V.get]) n x];simp[V.put]
@[simp] theorem Cv (t:TypeId)(ht:iu t)(f:Flds)(r:Heap)(n:Str):jg Tryz.prog t ((0,.map (mF f))::r) (.mp 0) (.str n)=some ((0,.map (mF (dY n f)))::r):=by rw[pn ht (f:=f) (by simp[V.get]) n];simp[V.put]
attribute [simp] bY my
theorem wZ (τ:Nat→Nat)(f:Flds):b9 τ (.map (mF f))=.map (mF f):=by
 unfold mF
 simp only[b9]
 congr 1
 rw[List.map_map]
 refine List.map_congr_left fun p _=>?_
 simp[au,aJ,eX]
@[simp] theorem Ew (τ:Nat→Nat)(f:Flds):(mF f).map (fun e=>(au τ e.1,au τ e.2))=mF f:=by
 have:=wZ τ f
 simp only[b9,Blk.map.injEq] at this
 exact this
end Go.V
end
section
set_option maxHeartbeats 4000000
namespace Go.V
open Go Go.Proofs
attribute [local irreducible] W bO WD aO yl aS bW
section
variable (Γ:Glo Tryz.prog)
attribute [local simp] veq bP ei V.del
theorem Ac (N:Nat)(f:Flds):cz N (.map (mF f))=true:=by
 unfold mF
 simp only[cz,List.all_map,List.all_eq_true]
 intro p _
 simp[aR,aD,eX]
theorem AV (N:Nat)(f:Flds):fU N (.map (mF f))=true:=by
 unfold mF
 simp only[fU,List.all_map,List.all_eq_true]
 intro p _
 simp[aR,aD,eX]
@[simp] theorem HU (N:Nat)(f:Flds):(∀(a b:Val),(a,b)∈mF f→aR N a=true∧aR N b=true)↔True:=by
 refine iff_true_intro fun a b h=>?_
 unfold mF at h
 obtain⟨p,_,hp⟩:=List.mem_map.1 h
 cases hp
 simp[aR,aD,eX]
@[simp] theorem HT (N:Nat)(f:Flds):(∀(a b:Val),(a,b)∈mF f→(a.flat=true∧aR N a=true)∧aR N b=true)↔True:=by
 refine iff_true_intro fun a b h=>?_
 unfold mF at h
 obtain⟨p,_,hp⟩:=List.mem_map.1 h
 cases hp
 simp[aR,aD,eX,Val.flat]
attribute [simp] Ac AV
theorem f265s (a0 b0:Str)(f:Flds):CallOk Tryz.prog Γ 265 [.mp 0,.mp 0,.str a0,.str b0] [(0,.map (mF f))] 1 true (.tp []) [(0,.map (mF (gf a0 b0 f)))] 1:=by
 unfold gf
 cases hm:bD a0 f with
 |none=>
  have hc:cG a0 f=[.int .i64 0,.int .i64 0,.str [],.nils,.nils]:=by unfold cG;rw[hm];rfl
  refine Z4 22 Tryz.func265 rfl rfl fun a hl g0 g1 g2 g3=>?_
  repeat' first|refine G1 ?_|(refine G2 ?_ ?_<;>intro hc hd<;>try exact hd.elim)|fail
  exact⟨by simp,by simp[Tryz.f265, *],by (repeat (first|exact aU|refine aP (by simp[V.get, *]) ?_))⟩
 |some x=>
  have hc:cG a0 f=aH x:=by unfold cG;rw[hm]
  refine Z4 22 Tryz.func265 rfl rfl fun a hl g0 g1 g2 g3=>?_
  repeat' first|refine G1 ?_|(refine G2 ?_ ?_<;>intro hc hd<;>try exact hd.elim)|fail
  exact⟨by simp,by simp[Tryz.f265, *],by (repeat (first|exact aU|refine aP (by simp[V.get, *]) ?_))⟩
def fX (a b:Str)(f g:Flds):Flds×Flds:=match bD a f with
 |some x=>(dY a f,aq b x g)
 |none=>(f,g)
theorem f265d (a0 b0:Str)(f g:Flds):CallOk Tryz.prog Γ 265 [.mp 0,.mp 1,.str a0,.str b0] [(0,.map (mF f)),(1,.map (mF g))] 2 true (.tp []) [(0,.map (mF (fX a0 b0 f g).1)),(1,.map (mF (fX a0 b0 f g).2))] 2:=by
 unfold fX
 cases hm:bD a0 f with
 |none=>
  have hc:cG a0 f=[.int .i64 0,.int .i64 0,.str [],.nils,.nils]:=by unfold cG;rw[hm];rfl
  refine Z4 22 Tryz.func265 rfl rfl fun a hl g0 g1 g2 g3=>?_
  repeat' first|refine G1 ?_|(refine G2 ?_ ?_<;>intro hc hd<;>try exact hd.elim)|fail
  exact⟨by simp,by simp[Tryz.f265, *],by (repeat (first|exact aU|refine aP (by simp[V.get, *]) ?_))⟩
 |some x=>
  have hc:cG a0 f=aH x:=by unfold cG;rw[hm]
  have hu:∀(b:Blk) (r:Heap),gW Tryz.prog 203 ((0,b)::(1,.map (mF g))::r) (.mp 1) (.str b0) (.ag (aH x))=some ((0,b)::(1,.map (mF (aq b0 x g)))::r):=fun b r=>by rw[dg bY (f:=g) (by simp[V.get]) b0 x];simp[V.put]
  refine Z4 22 Tryz.func265 rfl rfl fun a hl g0 g1 g2 g3=>?_
  repeat' first|refine G1 ?_|(refine G2 ?_ ?_<;>intro hc hd<;>try exact hd.elim)|fail
  exact⟨by simp,by simp[Tryz.f265, *],by (repeat (first|exact aU|refine aP (by simp[V.get, *]) ?_))⟩
end
end Go.V
end
section
set_option maxHeartbeats 4000000
namespace Go.V
open Go Go.Proofs
attribute [local irreducible] W bO WD aO yl aS bW
section
variable (Γ:Glo Tryz.prog)
attribute [local simp] veq bP ei V.del
theorem kJ (k:Str)(y:Doc):∀(kp:List Str)(dp:List Doc)(f:Flds),kp.length=dp.length→cC f (kp++[k]) (dp++[y])=aq k y (cC f kp dp)
 |[],[],f,_=>rfl
 |[],_::_,_,h=>by simp at h
 |_::_,[],_,h=>by simp at h
 |a::kp,b::dp,f,h=>kJ k y kp dp (aq a b f) (by simpa using h)
theorem kI:∀(kp:List Str)(dp dr:List Doc)(f:Flds),kp.length=dp.length→cC f kp (dp++dr)=cC f kp dp
 |[],[],dr,f,_=>by cases dr<;>rfl
 |[],_::_,_,_,h=>by simp at h
 |_::_,[],_,_,h=>by simp at h
 |a::kp,b::dp,dr,f,h=>kI kp dp dr (aq a b f) (by simpa using h)
theorem f130 (d:Doc)(hd:wD d<big)(hk:d.keys.length≤d.kids.length):CallOk Tryz.prog Γ 130 [.ag (aH d)] [] 0 true (.mp 0) [(0,.map (mF (ofD d)))] 1:=by
 have hbk:d.kids.length<100000000000:=by have:=fP d;unfold big at hd;omega
 have e0:mF []=[]:=rfl
 refine ba Tryz.func130 rfl (by simp[Tryz.f130]) (by omega) (by simp[aR]) (by simp[bc,cz,aR,aa]) ?_
 intro a hl ha
 replace hl:a.length=24:=hl
 have g0:=ha 0 _ rfl
 clear ha
 repeat' first|refine G1 ?_|(refine G2 ?_ ?_<;>intro hc hd<;>try exact hd.elim)|fail
 refine am [(4,5),(11,22)] [10] (fun k a h=>∃kp kr dp dr,d.keys=kp++kr∧d.kids=dp++dr∧kp.length=dp.length∧k=kr.length∧lk a 10=some (.int .i64 dp.length)∧h=[(0,.cells (aH d) 30 false),(2,.map (mF (cC [] kp dp)))]) ⟨[],d.keys,[],d.kids,rfl,rfl,rfl,rfl,by simp[*],rfl⟩ ?_
 intro a1 hk hk0 k a h hF hI
 replace g1:=hF.a hk 1
 replace g3:=hF.a hk 3
 replace g8:=hF.a hk 8
 replace g9:=hF.a hk 9
 replace hl:a.length=24:=hF.len.trans (hk0.trans (by simp[*]))
 clear hk hk0
 obtain⟨kp,kr,dp,dr,hkk,hkd,hkl,rfl,hix,rfl⟩:=hI
 cases kr with
 |nil=>
  have hge:¬(dp.length:Int)<d.keys.length:=by rw[hkk];simp<;>omega
  have hof:ofD d=cC [] kp dp:=by
   unfold ofD
   rw[hkk,hkd,List.append_nil]
   exact kI kp dp dr [] hkl
  rw[hof]
  clear hof hkk hkd hkl hbk hk hd
  repeat' first|refine G1 ?_|(refine G2 ?_ ?_<;>intro hc hd<;>try exact hd.elim)|fail
  exact⟨by simp,[(2,0)],.mp 2,[(2,.map (mF (cC [] kp dp)))],.mp 2,_,by simp,by simp,by simp[Tryz.f130, *],by simp[au],by simp[bF,wZ],by (repeat (first|exact aU|refine aP (by simp[V.get, *]) ?_)),Clo.refl _ _⟩
 |cons key kr=>
  cases dr with
  |nil=>rw[hkk,hkd] at hk;simp at hk;omega
  |cons y dr=>
  have hltk:(dp.length:Int)<d.keys.length:=by rw[hkk];simp<;>omega
  have hlek:dp.length≤d.keys.length:=by rw[hkk];simp<;>omega
  have hltd:(dp.length:Int)<d.kids.length:=by rw[hkd];simp<;>omega
  have hled:dp.length≤d.kids.length:=by rw[hkd];simp
  have hl5:dp.length*5≤d.kids.length*5:=by omega
  have hltN:dp.length<d.kids.length:=by omega
  have hrk:(row aW d.keys).drop dp.length=.str key::row aW kr:=by rw[hkk,←hkl];exact fH kp kr key
  have hrd:(row aH d.kids).drop (dp.length*5)=aH y++row aH dr:=by rw[hkd];exact oG dp dr y
  have hw:=ad ((dp.length:Int)+1) (by omega) (by omega)
  have hd5:List.take 5 (aH y++row aH dr)=aH y:=List.take_left' (bS y)
  have hsn:=kJ key y kp dp [] hkl
  have hkq:Eqn (kp++[key]).length (dp++[y]).length:=by show(kp++[key]).length=(dp++[y]).length;simp;exact hkl
  have hk2:d.keys=(kp++[key])++kr:=by rw[hkk];simp
  have hd2:d.kids=(dp++[y])++dr:=by rw[hkd];simp
  have hu:gW Tryz.prog 203 [(0,.cells (aH d) 30 false),(2,.map (mF (cC [] kp dp)))] (.mp 2) (.str key) (.ag (aH y))=some [(0,.cells (aH d) 30 false),(2,.map (mF (cC [] (kp++[key]) (dp++[y]))))]:=by rw[dg bY (f:=cC [] kp dp) (by simp[V.get]) key y,hsn];simp[V.put]
  replace hk2:Hid d.keys ((kp++[key])++kr):=hk2
  replace hd2:Hid d.kids ((dp++[y])++dr):=hd2
  clear hkk hkd hkl hk hd hsn
  repeat' first|refine G1 ?_|(refine G2 ?_ ?_<;>intro hc hd<;>try exact hd.elim)|fail
  exact NX [(0,.cells (aH d) 30 false),(2,.map (mF (cC [] (kp++[key]) (dp++[y]))))] fun a2 hF2=>⟨kp++[key],kr,dp++[y],dr,hk2,hd2,hkq,rfl,(hF2.q 10),rfl⟩
end
end Go.V
end
section
namespace Go.Proofs
open Go.RowKit Go.Maps Go.Sort Go.Shelf
theorem Tryz.sorts200 (m:Nat):AnyZ.SortsIn Tryz.prog Tryz.sorted200_ren Fence.wide m:=
 ⟨fun blk off cap ss W hH hblk hsz=>callsIn_wide.2 (AnyM.slices_Sort_string Tryz.sort270 blk off cap ss W hH hblk hsz),
  fun p cap W=>callsIn_wide.2 (AnyM.slices_Sort_string_none Tryz.sort270 p cap W)⟩
set_option maxHeartbeats 1000000 in
theorem Tryz.sorted271 {H:Type}(b1 b nn:Nat)(D0:DataW H)(R:Value→Option (DataW H×List MemPlace))(w:World)(hb1:b1<w.heap.size)(hc:w.cell? ⟨b1,0,none⟩=some (.map (some b)))(hown:w.ownsMap Tryz.prog 9 R b nn D0)(hmax:Maps.size D0≤maxLen)(hbytes:Maps.size D0*16≤140737488355328) :
  Calls Tryz.prog 200 #[.func (.func 271) #[] #[.pointer (some ⟨b1,0,none⟩)]] w fun e w'=>∃(v:Value) (ss:List (List UInt8)),e=.returned v∧ss.Perm (strKeys D0)∧
   w'.ownsRow w.heap.size 9 1 v ss.length ((ss.mergeSort (fun x y=>decide (x≤y))).map encStr)∧(v=.slice none 0 0↔ss=[])∧Below w.heap.size w w':=by
 have hseq:SeqGives Fence.wide 2 Tryz.prog 271 #[.pointer (some ⟨b1,0,none⟩)] encStr (fun ss=>ss.Perm (strKeys D0)) (Maps.size D0) w:=
  AnyZ.keys_gives (ρ:=Tryz.keys201_ren) {Tryz.keys201 with} Fence.wide _ trivial rfl (by omega) b1 b nn D0 _ hb1 hc hown
 exact(callsIn_wide (n:=5)).1 (AnyZ.sorted_in Tryz.sorted200 Fence.wide 5 trivial trivial trivial trivial rfl (by omega) (Tryz.sorts200 _) (enters_of Tryz.func270 (by kernel_rfl) rfl) 271 #[.pointer (some ⟨b1,0,none⟩)] trivial (enters_of Tryz.func271 (by kernel_rfl) rfl) _ _ hmax hbytes _ hseq)
set_option maxHeartbeats 1000000 in
theorem Tryz.sorted314 {H:Type}(b1 b nn:Nat)(D0:DataW H)(R:Value→Option (DataW H×List MemPlace))(w:World)(hb1:b1<w.heap.size)(hc:w.cell? ⟨b1,0,none⟩=some (.map (some b)))(hown:w.ownsMap Tryz.prog 9 R b nn D0)(hmax:Maps.size D0≤maxLen)(hbytes:Maps.size D0*16≤140737488355328) :
  Calls Tryz.prog 200 #[.func (.func 314) #[] #[.pointer (some ⟨b1,0,none⟩)]] w fun e w'=>∃(v:Value) (ss:List (List UInt8)),e=.returned v∧ss.Perm (strKeys D0)∧
   w'.ownsRow w.heap.size 9 1 v ss.length ((ss.mergeSort (fun x y=>decide (x≤y))).map encStr)∧(v=.slice none 0 0↔ss=[])∧Below w.heap.size w w':=by
 have hseq:SeqGives Fence.wide 2 Tryz.prog 314 #[.pointer (some ⟨b1,0,none⟩)] encStr (fun ss=>ss.Perm (strKeys D0)) (Maps.size D0) w:=
  AnyZ.keys_gives (ρ:=Tryz.keys272_ren) {Tryz.keys272 with} Fence.wide _ trivial rfl (by omega) b1 b nn D0 _ hb1 hc hown
 exact(callsIn_wide (n:=5)).1 (AnyZ.sorted_in Tryz.sorted200 Fence.wide 5 trivial trivial trivial trivial rfl (by omega) (Tryz.sorts200 _) (enters_of Tryz.func270 (by kernel_rfl) rfl) 314 #[.pointer (some ⟨b1,0,none⟩)] trivial (enters_of Tryz.func314 (by kernel_rfl) rfl) _ _ hmax hbytes _ hseq)
end Go.Proofs
end
section
namespace Go.V
open Go Go.Proofs Go.Maps Go.MapKept Go.WideElems Go.RowKit Go.Lib Go.Sort
abbrev RU:Value→Option (DataW Unit×List MemPlace):=fun _=>some (.lit (.bool true),[])
theorem nb (x:Lit×DataW Unit):∀l:List (Lit×DataW Unit),(DataW.insert x l).Perm (x::l)
 |[]=>List.Perm.refl _
 |y::r=>by
  rw[DataW.insert]
  split
  ·
   exact List.Perm.refl _
  ·
   exact((nb x r).cons y).trans (List.Perm.swap x y r)
theorem jW:∀l:List (Lit×DataW Unit),(l.foldr DataW.insert []).Perm l
 |[]=>List.Perm.refl _
 |x::l=>by
  rw[List.foldr_cons]
  exact(nb x _).trans ((jW l).cons x)
theorem yY:∀x y:Str,x≤y↔ltS y x=false
 |[],y=>by
  have:ltS y []=false:=by cases y<;>rfl
  simp[this]
 |a::x,[]=>by simp[ltS]
 |a::x,b::y=>by
  rw[ltS,List.cons_le_cons_iff,yY x y]
  by_cases h1:b<a
  ·
   have h2:¬a<b:=fun h=>UInt8.lt_asymm h1 h
   have h3:¬a=b:=fun e=>by subst e;exact UInt8.lt_irrefl _ h1
   simp[h1,h2,h3]
  ·
   by_cases h2:a<b
   ·
    have h3:¬b=a:=fun e=>by subst e;exact UInt8.lt_irrefl _ h2
    simp[h1,h2,h3]
   ·
    have h3:a=b:=UInt8.le_antisymm (UInt8.not_lt.1 h1) (UInt8.not_lt.1 h2)
    subst h3
    simp[UInt8.lt_irrefl]
theorem nf {f:Flds}(hn:bl f){ss:List Str}(hp:ss.Perm (f.map (·.1))):ss.mergeSort (fun x y=>decide (x≤y))=(bz f).map (·.1):=by
 have h1:=mergeSort_of_perm (l:=ss) (l':=(bz f).map (·.1)) (hp.trans ?_)
 ·
  rw[show(fun x y:Str=>decide (x≤y))=leB from rfl,h1]
  refine List.mergeSort_of_pairwise ?_
  rw[List.pairwise_map]
  refine(fN hn).imp fun{p q} h=>?_
  simp only[leB,decide_eq_true_eq]
  rw[yY]
  exact aN h
 ·
  have hnd2:((bz f).map (·.1)).Nodup:=ma (fN hn)
  refine(List.perm_ext_iff_of_nodup hn hnd2).2 fun s=>?_
  simp only[List.mem_map,gK]
theorem ne {F:Fro}{ρ:Pl}:∀(f:Flds){xs:List MapEntry},MapRel F ρ (mF f) xs→xs.map (·.key)=f.map fun p=>str p.1
 |[],xs,h=>by
  have:xs=[]:=h
  subst this;rfl
 |p::f,xs,h=>by
  obtain⟨y,ys,rfl,h1,_,_,h4⟩:=h
  rw[List.map_cons,List.map_cons,ne f h4]
  rw[show y.key=str p.1 from h1]
theorem oR {a b:Str}(h:str a=str b):a=b:=by
 unfold str at h
 simpa using h
theorem zc {f:Flds}{p:Str×Doc}(h:p∈f):p.1.length<wF f:=by
 induction f with
 |nil=>cases h
 |cons q f ih=>
  obtain⟨n,x⟩:=q
  rw[wF]
  rcases List.mem_cons.1 h with rfl|h
  ·
   simp only;omega
  ·
   have:=ih h;omega
theorem qA:∀f:Flds,f.length≤wF f
 |[]=>Nat.zero_le _
 |(n,x)::f=>by rw[wF,List.length_cons];have:=qA f;omega
theorem pS {F:Fro}{ρ:Pl}:∀l:List Str,RelL F ρ (row aW l) (l.map encStr)
 |[]=>rfl
 |s::l=>⟨_,_,rfl,rfl,pS l⟩
variable (Γ:Glo Tryz.prog)
theorem rM (g:FuncId)(t:TypeId)
  (hcon:∀(b1 b nn:Nat) (D0:DataW Unit) (R:Value→Option (DataW Unit×List MemPlace)) (w:World) (_:b1<w.heap.size) (_:w.cell? ⟨b1,0,none⟩=some (.map (some b))) (_:w.ownsMap Tryz.prog 9 R b nn D0) (_:Maps.size D0≤maxLen) (_:Maps.size D0*16≤140737488355328),
   Calls Tryz.prog 200 #[.func (.func g) #[] #[.pointer (some ⟨b1,0,none⟩)]] w fun e w'=>∃(v:Value) (ss:List (List UInt8)),e=.returned v∧ss.Perm (strKeys D0)∧
    w'.ownsRow w.heap.size 9 1 v ss.length ((ss.mergeSort (fun x y=>decide (x≤y))).map encStr)∧(v=.slice none 0 0↔ss=[])∧Below w.heap.size w w')
  (f:Flds) (hn:bl f) (hb:wF f<100000000000):CallOk Tryz.prog Γ 200 [.fn g [] [.pr 1 0]] [(0,.map (mF f)),(1,.cells [.mp 0] t false)] 2 true (sls aW ((bz f).map (·.1))) [(0,.map (mF f))] 2:=by
 refine⟨Nat.le_refl _,fun F ρ w0 O w xs hG m hf hv=>?_⟩
 obtain⟨L0,x0,h1,h2,h3,ents,clock,rfl,hm,hborn⟩:=m.own 0 (.map (mF f)) (by simp[V.get])
 obtain⟨L1,x1,k1,k2,k3,c,rfl,k5,k6,k7,k8⟩:=m.own 1 (.cells [.mp 0] t false) (by simp[V.get])
 simp only[RelL,Rel] at hv
 obtain⟨y0,ys0,hxs,⟨us,vs,rfl,e1,z0,zs0,e2,⟨L1',q1,rfl⟩,rfl⟩,rfl⟩:=hv
 rw[k1] at q1;cases q1
 have e1':us=#[]:=Array.toList_eq_nil_iff.1 e1
 subst e1'
 have e2':vs=#[.pointer (some ⟨L1.b,0,none⟩)]:=Array.ext' e2
 subst e2'
 have hxs':xs=#[.func (.func g) #[] #[.pointer (some ⟨L1.b,0,none⟩)]]:=Array.ext' hxs
 subst hxs'
 have hlt:∀b (o:Obj),w.heap[b]?=some o→b<w.heap.size:=fun b o h=>by
  rcases Nat.lt_or_ge b w.heap.size with h'|h'
  ·
   exact h'
  ·
   rw[Array.getElem?_eq_none h'] at h;cases h
 have hcell:w.cell? ⟨L1.b,0,none⟩=some (.map (some L0.b)):=by
  unfold World.cell?
  simp only[k3]
  simp only[RelL,Rel,List.length_cons,List.length_nil,Nat.zero_add] at k7
  obtain⟨y,ys,e3,⟨L',q1,rfl⟩,rfl⟩:=k7
  rw[h1] at q1;cases q1
  cases hc:c.toList with
  |nil=>rw[hc] at e3;cases e3
  |cons z zs=>
   rw[hc] at e3
   simp only[List.take_succ_cons,List.take_zero,List.cons.injEq,and_true] at e3
   subst e3
   rw[show c[(⟨L1.b,0,none⟩:Addr).off]?=c.toList[0]? by rw[Array.getElem?_toList],hc]
   rfl
 have hkeys:=ne f hm
 have hlen:ents.toList.length=f.length:=by
  have:=congrArg List.length hkeys
  simpa using this
 have hwl:=qA f
 have hkey:∀x∈ents.toList,∃s:Str,x.key=str s∧s.length<wF f:=fun x hx=>by
  have:x.key∈ents.toList.map (·.key):=List.mem_map.2 ⟨x,hx,rfl⟩
  rw[hkeys] at this
  obtain⟨p,hp,e⟩:=List.mem_map.1 this
  exact⟨p.1,e.symm,zc hp⟩
 have hu9:Tryz.prog.underlying 9=some .string:=by kernel_rfl
 have hrd:∀x∈ents.toList,∃s:Str,x.key=str s∧rd Tryz.prog 9 RU x=some (.string s,.lit (.bool true)):=fun x hx=>by
  obtain⟨s,hs,hsl⟩:=hkey x hx
  refine⟨s,hs,?_⟩
  obtain⟨xk,xv,xb⟩:=x
  simp only at hs
  subst hs
  have:=Go.WideMaps.keyOf_string_mk (P:=Tryz.prog) (k:=9) hu9 (s:=⟨s.toArray⟩) (by show s.toArray.size≤maxLen;unfold maxLen;simp;omega)
  exact rd_mk (R:=RU) this rfl
 have hst:Stamped ents clock:=by
  refine⟨hborn.1,hborn.2,?_⟩
  rw[hkeys]
  unfold bl at hn
  rw[show(f.map fun p=>str p.1)=(f.map (·.1)).map str by rw[List.map_map];rfl]
  rw[List.Nodup,List.pairwise_map]
  exact hn.imp fun hne e=>hne (oR e)
 have hown:w.ownsMap Tryz.prog 9 RU L0.b ents.size (.map ((ents.toList.map (rg Tryz.prog 9 RU)).foldr DataW.insert [])):=
  ⟨ents,clock,h3,⟨by unfold maxLen;rw[←Array.length_toList];omega,hst,fun x hx=>let ⟨_,_,h⟩:=hrd x hx;⟨_,h⟩⟩,Nat.le_refl _,rfl⟩
 have hD:=jW (ents.toList.map (rg Tryz.prog 9 RU))
 have hsz:Maps.size (DataW.map ((ents.toList.map (rg Tryz.prog 9 RU)).foldr DataW.insert []))=f.length:=by
  show List.length _=_
  rw[hD.length_eq,List.length_map,hlen]
 have hsk:(strKeys (DataW.map ((ents.toList.map (rg Tryz.prog 9 RU)).foldr DataW.insert []))).Perm (f.map (·.1)):=by
  show(List.map _ _).Perm _
  refine(hD.map _).trans ?_
  rw[List.map_map]
  have:ents.toList.map ((fun p:Lit×DataW Unit=>Go.strOf p.1) ∘ rg Tryz.prog 9 RU)=f.map (·.1):=by
   refine(List.map_inj_right fun a b h=>oR h).1 (?_:_=(f.map (·.1)).map str)
   have e0:(f.map (·.1)).map str=f.map fun p=>str p.1:=by rw[List.map_map];exact List.map_congr_left fun _ _=>rfl
   rw[e0,←hkeys,List.map_map]
   apply List.map_congr_left
   intro x hx
   obtain⟨s,hs,hr⟩:=hrd x hx
   rw[Function.comp_apply,Function.comp_apply,rg_of hr,hs]
   rfl
  rw[this]
 refine(hcon L1.b L0.b ents.size _ RU w (hlt _ _ k3) hcell hown (by rw[hsz];unfold maxLen;omega) (by rw[hsz];omega)).mono ?_
 rintro e w' ⟨v,ss,rfl,hss,hrow,hnil,hbel⟩
 have hkf:=nf hn (hss.trans hsk)
 rw[hkf] at hrow
 have hsl:ss.length=f.length:=by rw[(hss.trans hsk).length_eq,List.length_map]
 have hkl:((bz f).map (·.1)).length=ss.length:=by rw[←hkf];exact List.length_mergeSort _
 generalize (bz f).map (·.1)=ks at *
 have hw0:w0.heap.size≤w.heap.size:=m.fr.size
 have old:∀b c,F b=some c→b<w.heap.size:=fun b c hb=>by
  obtain⟨e5,fr,h9⟩:=m.fro b c hb
  exact hlt _ _ h9
 have hfr:Fr w0 O w':=by
  refine⟨hbel.os.trans m.fr.os,hbel.tape.trans m.fr.tape,hbel.output.trans m.fr.output,Nat.le_trans m.fr.size hbel.size,fun i hi ho=>?_⟩
  rw[hbel.block i (by omega)]
  exact m.fr.block i hi ho
 have hmem:∀F':Fro,FLe F F'→FOk F' w'→F' L0.b=none→Mem Tryz.prog F' ρ [(0,.map (mF f))] w0 O w':=by
  intro F' hle hfo hno
  refine⟨hfo,fun i blk hg=>?_,fun i j Li Lj hi hj _ _ _=>?_,fun i L hi hL=>?_,hfr⟩
  ·
   simp only[V.get] at hg
   split at hg
   ·
    rename_i e;subst e;cases hg
    exact⟨L0,_,h1,hno,by rw[hbel.block _ (hlt _ _ h3)];exact h3,BRel.mono Tryz.prog hle (PLe.refl ρ) ⟨ents,clock,rfl,hm,hborn⟩⟩
   ·
    cases hg
  ·
   simp only[V.get] at hi hj
   split at hi
   ·
    split at hj
    ·
     rename_i e e';rw[←e,←e']
    ·
     cases hj
   ·
    cases hi
  ·
   refine m.ours i L ?_ hL
   simp only[V.get] at hi ⊢
   split at hi
   ·
    rename_i e;rw[if_pos e];rfl
   ·
    cases hi
 obtain⟨_,hrow⟩:=hrow
 rcases hrow with ⟨rfl,hz⟩|⟨gb,cap,cur,rfl,hbase,hgb,r1,r2,r3,r4⟩
 ·
  have hks:ks=[]:=List.eq_nil_of_length_eq_zero (by omega)
  subst hks
  refine⟨F,ρ,_,rfl,Ext.refl F ρ w0 O 2 2,.inl ⟨.inl rfl,rfl,rfl,(fun _ h=>by cases h)⟩,hmem F (FLe.refl F) (fun b c hb=>?_) h2⟩
  obtain⟨e5,fr,h9⟩:=m.fro b c hb
  exact⟨e5,fr,by rw[hbel.block _ (hlt _ _ h9)];exact h9⟩
 ·
  obtain⟨F',hF'⟩:∃F':Fro,F'=fun b=>if b=gb then some cur else F b:=⟨_,rfl⟩
  have hle:FLe F F':=fun b c hb=>by
   rw[hF']
   show(if b=gb then some cur else F b)=some c
   have:=old b c hb
   rw[if_neg (by omega)];exact hb
  have hgF:F' gb=some cur:=by rw[hF'];show(if gb=gb then some cur else F gb)=_;rw[if_pos rfl]
  have hb0:=hlt _ _ h3
  refine⟨F',ρ,_,rfl,⟨hle,PLe.refl ρ,fun b c hb=>?_,fun _ _=>rfl⟩,.inr ⟨gb,0,cur,cap,by rw[hkl],by rw[hkl];exact r1,(fun _ h=>by cases h),hgF,?_⟩,hmem F' hle (fun b c hb=>?_) ?_⟩
  ·
   rw[hF'] at hb
   simp only at hb
   split at hb
   ·
    rename_i e;subst e;right;right;omega
   ·
    left;exact hb
  ·
   rw[List.drop_zero,fl,hkl]
   rw[Nat.mul_one] at r4
   rw[r4]
   exact pS ks
  ·
   rw[hF'] at hb
   simp only at hb
   split at hb
   ·
    rename_i e;subst e;cases hb;exact⟨_,_,hgb⟩
   ·
    obtain⟨e5,fr,h9⟩:=m.fro b c hb
    exact⟨e5,fr,by rw[hbel.block _ (hlt _ _ h9)];exact h9⟩
  ·
   rw[hF']
   show(if L0.b=gb then some cur else F L0.b)=none
   rw[if_neg (by omega)];exact h2
theorem f200a (f:Flds)(hn:bl f)(hb:wF f<100000000000):CallOk Tryz.prog Γ 200 [.fn 271 [] [.pr 1 0]] [(0,.map (mF f)),(1,.cells [.mp 0] 203 false)] 2 true (sls aW ((bz f).map (·.1))) [(0,.map (mF f))] 2:=
 rM Γ 271 203 Tryz.sorted271 f hn hb
theorem f200b (f:Flds)(hn:bl f)(hb:wF f<100000000000):CallOk Tryz.prog Γ 200 [.fn 314 [] [.pr 1 0]] [(0,.map (mF f)),(1,.cells [.mp 0] 202 false)] 2 true (sls aW ((bz f).map (·.1))) [(0,.map (mF f))] 2:=
 rM Γ 314 202 Tryz.sorted314 f hn hb
end Go.V
end
