/-
  A part of a proof: F4 F5 L1 L2 L3 L4.
-/
import Derived.Test.YtkfjenbfbendhaaGreatDoorLk14
set_option linter.unusedSimpArgs false
set_option linter.unusedVariables false
section
set_option maxHeartbeats 4000000
namespace Go.V
open Go Go.Proofs
attribute [local irreducible] W bO WD aO yl aS bW
section
variable (Γ:Glo Tryz.prog)
attribute [local simp] veq
theorem f214c (l:List Res)(e:Int)(st:List Int)(ks:List Str)(hbl:wRs l<big)(hst:st.length<big)(hks:ks.length<big)(hne:cu e st ks l≠[]):CallOk Tryz.prog Γ 214 [sls ac l,.int .i64 e,sls bv st,sls aW ks] [] 0 true (.so 0 0 (cu e st ks l).length none) [(0,.cells (row ac (cu e st ks l)) 82 true)] 1:=by
 refine ba Tryz.func214 rfl (by simp[Tryz.f214]) (by omega) (by simp[aR,aa]) (by simp[bc,cz]) fun a hla ha=>(EP Γ l e st ks hbl hst hks _ rfl a hla (ha 0 _ rfl) (ha 1 _ rfl) (ha 2 _ rfl) (ha 3 _ rfl)).mono ?_
 rintro e' a' h' _ ⟨g1,g2,g3⟩
 generalize cu e st ks l=out at *
 rcases eO ac 8 dv dz gL 9 82 out with ⟨rfl,e1,e2,e3⟩|⟨n,cs,hn,hcs,e1,e2,e3,c1,c2,c3⟩
 ·
  exact(hne rfl).elim
 ·
  rw[e2] at g3
  rw[e1] at g2
  unfold Hid at hcs hn
  rw[←hcs,←hn]
  exact⟨g1,[(9,0)],.so 9 0 n none,[(9,.cells cs 82 true)],_,_,by simp,by simp,by simp[Tryz.f214,g2],by simp,by simp[*],g3,Clo.refl _ _⟩
theorem f215 (x y:Res)(hx:wR x<big)(hy:wR y<big):PureOk Tryz.prog Γ 215 [.ag (ac y),.pp (ac x)] (.bool (decide (0≤dc y x))):=by
 unfold wR at hx hy
 have h1:=f37 Γ y x (by omega) (by omega) (by omega) (by omega)
 generalize dc y x=p1 at *
 clear hx hy
 refine Y2 8 Tryz.func215 rfl rfl fun a hl g0 g1=>?_
 repeat' first|refine G1 ?_|(refine G2 ?_ ?_<;>intro hc hd<;>try exact hd.elim)|fail
 all_goals (try (refine aC h1 ?_))
 repeat' first|refine G1 ?_|(refine G2 ?_ ?_<;>intro hc hd<;>try exact hd.elim)|fail
 all_goals first|(refine⟨by simp,.bool (decide (0≤p1)),1,?_,rfl⟩;(simp[Tryz.f215, *]<;>grind [List.length_eq_zero_iff]);done)|skip
theorem sE {α:Type}(p:α→Bool):∀(l:List α)(j:Nat),bg p l j=-1∨((j:Int)≤bg p l j∧bg p l j<j+l.length)
 |[],j=>.inl rfl
 |x::l,j=>by
  rw[bg]
  split
  ·
   refine .inr ⟨Int.le_refl _,?_⟩
   simp only[List.length_cons]
   omega
  ·
   rcases sE p l (j+1) with h|h
   ·
    exact .inl h
   ·
    right;simp at h ⊢;omega
theorem wH (x:Res):∀(l:List Res)(j:Nat),gD x l=l.take ((if bg (fun y=>decide (0≤dc y x)) l j<0 then ((j+l.length:Nat):Int) else bg (fun y=>decide (0≤dc y x)) l j).toNat-j)++x::l.drop ((if bg (fun y=>decide (0≤dc y x)) l j<0 then ((j+l.length:Nat):Int) else bg (fun y=>decide (0≤dc y x)) l j).toNat-j)
 |[],j=>by simp[gD,bg]
 |y::l,j=>by
  rw[gD,bg]
  by_cases h:0≤dc y x
  ·
   have hj:¬(j:Int)<0:=by omega
   simp[h,hj]
  ·
   have ih:=wH x l (j+1)
   simp only[h,decide_false,if_false,Bool.false_eq_true]
   rcases sE (fun y=>decide (0≤dc y x)) l (j+1) with h2|h2
   ·
    rw[h2] at ih ⊢
    simp only[show((-1:Int)<0)=True by simp,if_true] at ih ⊢
    rw[show(((j+(y::l).length:Nat):Int)).toNat-j=((((j+1+l.length:Nat):Int)).toNat-(j+1))+1 by simp;omega]
    rw[List.take_succ_cons,List.drop_succ_cons,List.cons_append,←ih]
   ·
    have h3:¬bg (fun y=>decide (0≤dc y x)) l (j+1)<0:=by omega
    rw[if_neg h3] at ih ⊢
    rw[show(bg (fun y=>decide (0≤dc y x)) l (j+1)).toNat-j=((bg (fun y=>decide (0≤dc y x)) l (j+1)).toNat-(j+1))+1 by omega]
    rw[List.take_succ_cons,List.drop_succ_cons,List.cons_append,←ih]
theorem f216c (X:XOk Γ)(out:List Res)(x:Res)(i:Nat)(h0:out≠[])(hi:i≤out.length)(hb:out.length<big):CallOk Tryz.prog Γ 216 [.so 0 0 out.length none,.int .i64 i,.so 1 0 1 (some 1)] [(0,.cells (row ac out) 82 true),(1,.cells (ac x) 82 false)] 2 true (.so 2 0 (out.length+1) none) [(2,.cells (row ac (out.take i++x::out.drop i)) 82 true)] 3:=by
 have hp:0<out.length:=List.length_pos_iff.2 h0
 rcases Nat.lt_or_ge i out.length with h|h
 ·
  have:=f216m Γ X x i (out.length-i) (row ac (out.take i)) (row ac (out.drop i)) (row ac (out.take i++x::out.drop i)) (by omega) (by simp only[big] at *;omega) (by simp;omega) (by simp) (by simp) (by simp) (by simp) (by simp) (by unfold Hid;simp[bd])
  rw[show i+(out.length-i)=out.length by omega,←bd,List.take_append_drop] at this
  exact this
 ·
  have hn:i=out.length:=by omega
  subst hn
  have:=f216e Γ x out.length (row ac out) (row ac (out++[x])) hp hb (by simp) (by simp) (by simp) (by unfold Hid;simp[bd])
  simpa using this
theorem f147 (X:XOk Γ)(l:List Res)(x:Res)(hb:wRs l<big)(hx:wR x<big):PureOk Tryz.prog Γ 147 [sls ac l,.ag (ac x)] (sls ac (j9 l x)):=by
 have hx1:x.step.length<big:=by unfold wR at hx;omega
 have hx2:x.at_.length<big:=by unfold wR at hx;omega
 have hd1:=f214g Γ l x.edge x.step x.at_ hb hx1 hx2
 have hd2:=f214c Γ l x.edge x.step x.at_ hb hx1 hx2
 have hsub:∀y∈cu x.edge x.step x.at_ l,y∈l:=fun y hy=>by
  clear hd1 hd2 hb
  induction l with
  |nil=>simp[cu] at hy
  |cons z l ih=>
   rw[cu] at hy
   split at hy
   ·
    simp[ih hy]
   ·
    rcases List.mem_cons.1 hy with rfl|hy
    ·
     simp
    ·
     simp[ih hy]
 have hlen:=qh x.edge x.step x.at_ l
 have hbl:l.length<big:=by have:=iF l;omega
 have h79:=f79 Γ x hx
 have hput:j9 l x=gD x (cu x.edge x.step x.at_ l):=rfl
 have h212:=f212 Γ (cu x.edge x.step x.at_ l) (fun y=>decide (0≤dc y x)) (by omega) 215 [] [.pp (ac x)] (fun y hy=>f215 Γ x y hx (by have:=fQ (hsub y hy);unfold wR;omega)) (by kernel_rfl) rfl (by simp[aE,Val.closed])
 have hins:=wH x (cu x.edge x.step x.at_ l) 0
 rw[hput]
 generalize cu x.edge x.step x.at_ l=out at *
 clear hput hsub hb hx hx1 hx2
 simp only[big] at hbl
 cases out with
 |nil=>
  clear hd2 hins
  have h1:PureOk Tryz.prog Γ 212 [.nils,.fn 215 [] [.pp (ac x)]] (.int .i64 (-1)):=h212.arg ⟨Wk.nils,Wk.refl _,trivial⟩
  have h2:=(f216n Γ x).ren [21] 22 rfl (by simp[cm,fU]) (by simp) rfl
  simp at h2
  clear h212
  simp only[gR] at hd1
  refine Y2 28 Tryz.func147 rfl rfl fun a hl g0 g1=>?_
  repeat' first|refine G1 ?_|(refine G2 ?_ ?_<;>intro hc hd<;>try exact hd.elim)|fail
  refine aC hd1 ?_
  repeat' first|refine G1 ?_|(refine G2 ?_ ?_<;>intro hc hd<;>try exact hd.elim)|fail
  refine fk 100 h1 ?_ ⟨[.nils,.fn 215 [] [.pr 0 0]],by simp[*],aI (aG rfl) (aI (wf rfl (by simp) rfl (aI (rW rfl (by simp) (by simp)) bR)) bR)⟩
  repeat' first|refine G1 ?_|(refine G2 ?_ ?_<;>intro hc hd<;>try exact hd.elim)|fail
  all_goals (try (refine aC h79 ?_))
  repeat' first|refine G1 ?_|(refine G2 ?_ ?_<;>intro hc hd<;>try exact hd.elim)|fail
  refine av h2 ?_
  repeat' first|refine G1 ?_|(refine G2 ?_ ?_<;>intro hc hd<;>try exact hd.elim)|fail
  exact⟨by simp,.so 22 0 1 none,12,by simp[Tryz.f147, *],by simpa[gD] using dC (k:=1) (cap:=none) (n:=11) rfl (by simp) (by simp) (by simp)⟩
 |cons y0 out0=>
  have hb3:(y0::out0).length<big:=by simp only[big];omega
  have hat:∃i:Nat,i≤(y0::out0).length∧gD x (y0::out0)=(y0::out0).take i++x::(y0::out0).drop i∧((bg (fun y=>decide (0≤dc y x)) (y0::out0) 0<0∧i=(y0::out0).length)∨bg (fun y=>decide (0≤dc y x)) (y0::out0) 0=i):=by
   rcases sE (fun y=>decide (0≤dc y x)) (y0::out0) 0 with h|h
   ·
    refine⟨(y0::out0).length,Nat.le_refl _,?_,.inl ⟨by omega,rfl⟩⟩
    rw[h] at hins
    simpa using hins
   ·
    have hn:¬bg (fun y=>decide (0≤dc y x)) (y0::out0) 0<0:=by omega
    rw[if_neg hn] at hins
    exact⟨_,by omega,hins,.inr (by omega)⟩
  obtain⟨i,hi,hr,hi2⟩:=hat
  have h3:=f216c Γ X (y0::out0) x i (by simp) hi hb3
  have hd3:=hd2 (by simp)
  rw[←hr] at h3
  clear hd1 hd2 hins
  obtain⟨n,hn⟩:∃n,Hid n (y0::out0).length:=⟨_,rfl⟩
  obtain⟨cs,hcs⟩:∃cs,Hid cs (row ac (y0::out0)):=⟨_,rfl⟩
  obtain⟨rs,hrs⟩:∃rs,Hid rs (row ac (gD x (y0::out0))):=⟨_,rfl⟩
  have hl1:cs.length=n*8:=by unfold Hid at hcs hn;rw[hcs,hn,dv]
  have hl2:aE cs=true:=by unfold Hid at hcs;rw[hcs];exact dz _
  have hr2:aE rs=true:=by unfold Hid at hrs;rw[hrs];exact dz _
  have hr1:rs.length=(n+1)*8:=by unfold Hid at hrs hn;rw[hrs,hr,dv,hn];simp at hi ⊢;omega
  have e1:(y0::out0).length=n:=hn.symm
  have e2:row ac (y0::out0)=cs:=hcs.symm
  have e3:row ac (gD x (y0::out0))=rs:=hrs.symm
  have e4:sls ac (y0::out0)=.sl cs n none:=by rw[←e1,←e2]
  have e5:sls ac (gD x (y0::out0))=.sl rs (n+1) none:=by
   have:(gD x (y0::out0)).length=n+1:=by rw[hr,←e1];simp at hi ⊢;omega
   rw[←e3,←this]
  rw[e1,e2] at hd3
  rw[e1,e2,e3] at h3
  rw[e1] at hi hi2
  rw[e4] at h212
  rw[e5]
  have hnb:n<100000000000:=by rw[←e1];simp only[big] at hb3;exact hb3
  clear e1 e2 e3 e4 e5 hn hcs hrs hr hb3 hlen hbl
  generalize bg (fun y=>decide (0≤dc y x)) (y0::out0) 0=ix at *
  clear y0 out0
  have hd4:=hd3.ren [] 9 rfl (by simp[cm,fU]) (by simp) rfl
  simp[aJ, *] at hd4
  clear hd3
  rcases hi2 with ⟨hlt,rfl⟩|rfl
  ·
   have h5:=h3.ren [9,22] 23 rfl (by simp[cm,fU,aD, *]) (by simp) rfl
   simp[aJ, *] at h5
   clear h3
   refine Y2 28 Tryz.func147 rfl rfl fun a hl g0 g1=>?_
   repeat' first|refine G1 ?_|(refine G2 ?_ ?_<;>intro hc hd<;>try exact hd.elim)|fail
   refine av hd4 ?_
   repeat' first|refine G1 ?_|(refine G2 ?_ ?_<;>intro hc hd<;>try exact hd.elim)|fail
   refine fk (cs.length+50) h212 ?_ ⟨[.so 9 0 i none,.fn 215 [] [.pr 0 0]],by simp[*],aI (dC rfl (by simp[hl1]) hl2 (by omega)) (aI (wf rfl (by simp) rfl (aI (rW rfl (by simp) (by simp)) bR)) bR)⟩
   repeat' first|refine G1 ?_|(refine G2 ?_ ?_<;>intro hc hd<;>try exact hd.elim)|fail
   all_goals (try (refine aC h79 ?_))
   repeat' first|refine G1 ?_|(refine G2 ?_ ?_<;>intro hc hd<;>try exact hd.elim)|fail
   refine av h5 ?_
   repeat' first|refine G1 ?_|(refine G2 ?_ ?_<;>intro hc hd<;>try exact hd.elim)|fail
   exact⟨by simp,.so 23 0 (i+1) none,rs.length+3,by simp[Tryz.f147, *],dC rfl (by simp[hr1]) hr2 (by omega)⟩
  ·
   have h5:=h3.ren [9,19] 20 rfl (by simp[cm,fU,aD, *]) (by simp) rfl
   simp[aJ, *] at h5
   clear h3
   refine Y2 28 Tryz.func147 rfl rfl fun a hl g0 g1=>?_
   repeat' first|refine G1 ?_|(refine G2 ?_ ?_<;>intro hc hd<;>try exact hd.elim)|fail
   refine av hd4 ?_
   repeat' first|refine G1 ?_|(refine G2 ?_ ?_<;>intro hc hd<;>try exact hd.elim)|fail
   refine fk (cs.length+50) h212 ?_ ⟨[.so 9 0 n none,.fn 215 [] [.pr 0 0]],by simp[*],aI (dC rfl (by simp[hl1]) hl2 (by omega)) (aI (wf rfl (by simp) rfl (aI (rW rfl (by simp) (by simp)) bR)) bR)⟩
   repeat' first|refine G1 ?_|(refine G2 ?_ ?_<;>intro hc hd<;>try exact hd.elim)|fail
   all_goals (try (refine aC h79 ?_))
   repeat' first|refine G1 ?_|(refine G2 ?_ ?_<;>intro hc hd<;>try exact hd.elim)|fail
   refine av h5 ?_
   repeat' first|refine G1 ?_|(refine G2 ?_ ?_<;>intro hc hd<;>try exact hd.elim)|fail
   exact⟨by simp,.so 20 0 (n+1) none,rs.length+3,by simp[Tryz.f147, *],dC rfl (by simp[hr1]) hr2 (by omega)⟩
end
end Go.V
end
section
set_option maxHeartbeats 4000000
namespace Go.V
open Go Go.Proofs
attribute [local irreducible] W bO WD aO yl aS bW
section
variable (Γ:Glo Tryz.prog)
attribute [local simp] veq bP ei V.del
@[simp] theorem ig (τ:Nat→Nat):∀a b:List Val,bu τ (a++b)=bu τ a++bu τ b
 |[],_=>rfl
 |v::a,b=>by simp only[List.cons_append,bu,ig τ a b]
@[simp] theorem Hf (d:Doc):dB Tryz.prog 40 [(0,.ag (aH d))]=some (aH d++[.nils]):=by cases d;kernel_rfl
theorem ez (s:St):cSt s=aH s.doc++[sls ac s.res]:=rfl
@[simp] theorem Cx (d:Doc)(v:Val):(aH d++[v]).take 6=aH d++[v]:=List.take_of_length_le (by simp)
theorem we {P:Program}{h:Heap}{m us:List Val}{k:Nat}:∀{l:List Val},aE l=true→0<k→vwL P h k m=some us→vwL P h (l.length+k) (l++m)=some (l++us)
 |[],_,_,hm=>by simpa using hm
 |v::l,hc,hk,hm=>by
  simp only[aE,Bool.and_eq_true] at hc
  have ih:=we (l:=l) hc.2 hk hm
  rw[List.length_cons,show l.length+1+k=(l.length+k)+1 by omega,List.cons_append]
  obtain⟨q,hq⟩:∃q,l.length+k=q+1:=⟨l.length+k-1,by omega⟩
  simp only[vwL,ih]
  rw[hq,aG hc.1]
  rfl
theorem f33 (s:St)(hb:wRs s.res+wD s.doc<big):PureOk Tryz.prog Γ 33 [.ag (cSt s)] (.ag (cSt s)):=by
 have hw0:Wk (.ag (aH s.doc++[gR ac s.res])) (.ag (cSt s)):=by
  rw[ez]
  refine Wk.ag ?_
  have:∀l:List Val,WkL (l++[gR ac s.res]) (l++[sls ac s.res]):=by
   intro l
   induction l with
   |nil=>exact⟨qs _ _,trivial⟩
   |cons v l ih=>exact⟨Wk.refl v,ih⟩
  exact this _
 refine PureOk.wk ?_ hw0
 clear hw0
 have h1:=f78 Γ s.doc (by omega)
 have h3:∀x∈s.res,PureOk Tryz.prog Γ 79 [.ag (ac x)] (.ag (ac x)):=fun x hx=>f79 Γ x (by have:=fQ hx;unfold wR;omega)
 replace hb:s.res.length<big:=by have:=iF s.res;omega
 simp only[big] at hb
 rw[ez]
 generalize s.doc=d at *
 generalize s.res=l at *
 clear s
 refine Y1 26 Tryz.func33 rfl rfl fun a hl g0=>?_
 repeat' first|refine G1 ?_|(refine G2 ?_ ?_<;>intro hc hd<;>try exact hd.elim)|fail
 all_goals (try (refine aC h1 ?_))
 clear h1
 repeat' first|refine G1 ?_|(refine G2 ?_ ?_<;>intro hc hd<;>try exact hd.elim)|fail
 refine jh (h':=[(1,.cells [.int .i64 0,.int .i64 0,.str [],.nils,.nils,.nils] 40 false),(5,.cells (aH d++[.nils]) 40 false)]) (by (repeat (first|exact aU|refine aP (by simp[V.get, *]) ?_))) ?_
 refine oU [(5,5),(14,24)] [13] 12 (fun k a h=>∃pre rest,l=pre++rest∧k=rest.length∧lk a 13=some (.int .i64 pre.length)∧h=gH ac 11 82 pre++[(1,.cells [.int .i64 0,.int .i64 0,.str [],.nils,.nils,.nils] 40 false),(5,.cells (aH d++[gV 11 pre]) 40 false)]) (by omega) ⟨[],l,rfl,rfl,by simp[*],rfl⟩ ?_
 intro a1 hk hk0 k a h hF hI
 replace g2:=hF.a hk 2
 replace g3:=hF.a hk 3
 replace g11:=hF.a hk 11
 replace g12:=hF.a hk 12
 replace hl:a.length=26:=hF.len.trans (hk0.trans (by simp[*]))
 clear hk hk0
 obtain⟨pre,rest,hl0,rfl,h13,rfl⟩:=hI
 cases rest with
 |nil=>
  simp only[List.append_nil] at hl0
  subst hl0
  clear h3
  rcases eO ac 8 dv dz gL 11 82 l with ⟨_,e1,e2,e3⟩|⟨n,cs,hn,hcs,e1,e2,e3,c1,c2,c3⟩<;>rw[e1,e2,e3]<;>clear e1 e2 e3
  ·
   simp only[List.nil_append]
   repeat' first|refine G1 ?_|(refine G2 ?_ ?_<;>intro hc hd<;>try exact hd.elim)|fail
   exact⟨by simp,.ag (aH d++[.nils]),1,by simp[Tryz.f33,V.get,V.put,aX, *],aG (by simp)⟩
  ·
   simp only[List.cons_append,List.nil_append]
   repeat' first|refine G1 ?_|(refine G2 ?_ ?_<;>intro hc hd<;>try exact hd.elim)|fail
   exact⟨by simp,.ag (aH d++[.so 11 0 n none]),(aH d).length+(cs.length+3)+1,by simp[Tryz.f33,V.get,V.put,aX, *],er (by simp) (we (by simp) (by omega) (aI (dC rfl (by simp[c1]) c2 (by omega)) bR))⟩
 |cons x r=>
  have hlt:(pre.length:Int)<pre.length+(r.length+1):=by omega
  have hw:=ad ((pre.length:Int)+1) (by simp[hl0] at hb;omega) (by simp[hl0] at hb;omega)
  have i3:=h3 x (by simp[hl0])
  have hln:pre.length<100000000000:=by simp[hl0] at hb;omega
  clear h3
  rcases eO ac 8 dv dz gL 11 82 pre with ⟨hp0,e1,e2,e3⟩|⟨n,cs,hn,hcs,e1,e2,e3,c1,c2,c3⟩<;>rw[e1,e2]<;>simp only[List.cons_append,List.nil_append]
  ·
   subst hl0
   repeat' first|refine G1 ?_|(refine G2 ?_ ?_<;>intro hc hd<;>try exact hd.elim)|fail
   refine aQ i3 ?_
   repeat' first|refine G1 ?_|(refine G2 ?_ ?_<;>intro hc hd<;>try exact hd.elim)|fail
   refine gy [(17,.cells (ac x) 82 false)] ?_
   repeat' first|refine G1 ?_|(refine G2 ?_ ?_<;>intro hc hd<;>try exact hd.elim)|fail
   exact⟨(by (repeat refine Frm.set ?_ rfl);exact hF),[(18,11)],[(18,.cells (ac x) 82 true),(1,.cells [.int .i64 0,.int .i64 0,.str [],.nils,.nils,.nils] 40 false),(5,.cells (aH d++[.so 18 0 1 none]) 40 false)],(by (repeat (first|exact aU|refine aP (by simp[V.get, *]) ?_))),(by simp),(by simp),(by simp[*,aR,aa,aD]),(by simp[*,bc,cz,aR,aa,aD]),_,rfl,fun a2 hF2 hL2=>⟨pre++[x],r,by simp,rfl,((hL2 13 (by simp)).trans (by simp[*]<;>omega)),by simp[*,gV,gH]⟩⟩
  ·
   subst hl0
   have hn2:(n+1)*136≤140737488355328:=by unfold Hid at hn;omega
   have hnl:¬(n+1)*8≤n*8:=by omega
   have hta:List.take (n*8) cs=cs:=List.take_of_length_le (by omega)
   repeat' first|refine G1 ?_|(refine G2 ?_ ?_<;>intro hc hd<;>try exact hd.elim)|fail
   refine aQ i3 ?_
   repeat' first|refine G1 ?_|(refine G2 ?_ ?_<;>intro hc hd<;>try exact hd.elim)|fail
   refine gy [(11,.cells cs 82 true),(17,.cells (ac x) 82 false)] ?_
   repeat' first|refine G1 ?_|(refine G2 ?_ ?_<;>intro hc hd<;>try exact hd.elim)|fail
   exact⟨(by (repeat refine Frm.set ?_ rfl);exact hF),[(18,11)],[(18,.cells (cs++ac x) 82 true),(1,.cells [.int .i64 0,.int .i64 0,.str [],.nils,.nils,.nils] 40 false),(5,.cells (aH d++[.so 18 0 (n+1) none]) 40 false)],(by (repeat (first|exact aU|refine aP (by simp[V.get, *]) ?_))),(by simp),(by simp),(by simp[*,aR,aa,aD]),(by simp[*,bc,cz,aR,aa,aD]),_,rfl,fun a2 hF2 hL2=>⟨pre++[x],r,by simp,rfl,((hL2 13 (by simp)).trans (by simp[*]<;>omega)),by unfold Hid at hcs hn;simp[*,oK,jT]⟩⟩
end
end Go.V
end
section
set_option maxHeartbeats 4000000
namespace Go.V
open Go Go.Proofs
attribute [local irreducible] W bO WD aO yl aS bW
section
variable (Γ:Glo Tryz.prog)
attribute [local simp] veq
def iz:List Lns→Nat
 |[]=>0
 |s::r=>bJ s.subs+iz r
theorem pY (s:Lns):jK s=bJ s.subs:=by cases s;rfl
theorem mw (s:Lns):ir s=ak s.subs:=by cases s;rfl
theorem rJ:∀l:List Lns,bJ l=l.length+iz l
 |[]=>rfl
 |s::l=>by rw[bJ,iz,pY,rJ l,List.length_cons];omega
theorem rO:∀(l:List Lns)(s:Lns),iz (l++[s])=iz l+bJ s.subs
 |[],s=>by simp[iz]
 |x::l,s=>by simp only[List.cons_append,iz,rO l s];omega
theorem lv:∀(l:List Lns)(s:Lns),ak (l++[s])=max (ak l) (ak s.subs+1)
 |[],s=>by simp[ak,mw]
 |x::l,s=>by simp only[List.cons_append,ak,lv l s,mw];omega
theorem nk (l:List Lns)(ih:∀s∈l,bJ s.subs≤wNs s.subs):bJ l≤wNs l:=by
 induction l with
 |nil=>exact Nat.le_refl _
 |cons s l ihl=>
  have h1:=ih s (by simp)
  have h2:=ihl fun s hs=>ih s (by simp[hs])
  have h3:=eM s
  rw[bJ,wNs,pY]
  omega
theorem p8 (s:Lns):bJ s.subs≤wNs s.subs:=by
 induction s using Lns.ind with
 |h s ih=>exact nk _ ih
theorem xE (s:Lns):ak s.subs≤bJ s.subs:=by
 have key:∀l:List Lns,(∀s∈l,ak s.subs≤bJ s.subs)→ak l≤bJ l:=by
  intro l
  induction l with
  |nil=>intro _;exact Nat.le_refl _
  |cons s l ihl=>
   intro h
   have h1:=h s (by simp)
   have h2:=ihl fun s hs=>h s (by simp[hs])
   rw[ak,bJ,pY,mw]
   omega
 induction s using Lns.ind with
 |h s ih=>exact key _ ih
theorem f28 (l:List Lns)(hb:wNs l<big)(ih:∀s∈l,PureOk Tryz.prog Γ 28 [sls aK s.subs] (.int .i64 (bJ s.subs))):PureOk Tryz.prog Γ 28 [sls aK l] (.int .i64 (bJ l)):=by
 have hk:=nk l fun s _=>p8 s
 have hk2:=iE l
 simp only[big] at hb
 have hs:=rJ l
 obtain⟨v,hv⟩:∃v:Int,v=(bJ l:Nat):=⟨_,rfl⟩
 have hv2:v=l.length+(iz l:Nat):=by rw[hv,hs];simp
 have hvb:(l.length:Int)+(iz l:Nat)<100000000000:=by omega
 rw[←hv]
 clear hv hs hk hb
 refine Y1 21 Tryz.func28 rfl rfl fun a hl g0=>?_
 repeat' first|refine G1 ?_|(refine G2 ?_ ?_<;>intro hc hd<;>try exact hd.elim)|fail
 refine am [(5,5),(11,19)] [10,3] (fun k a h=>h=[]∧∃pre rest,l=pre++rest∧k=rest.length∧lk a 10=some (.int .i64 pre.length)∧lk a 3=some (.int .i64 ((l.length:Int)+(iz pre:Nat)))) ⟨rfl,[],l,rfl,rfl,by simp[*],by simp[*,iz]⟩ ?_
 intro a1 hk hk0 k a h hF hI
 replace g8:=hF.a hk 8
 replace g9:=hF.a hk 9
 replace hl:a.length=21:=hF.len.trans (hk0.trans (by simp[*]))
 clear hk hk0
 obtain⟨rfl,pre,rest,hl0,rfl,h10,h3⟩:=hI
 subst hl0
 cases rest with
 |nil=>
  simp only[List.append_nil] at *
  clear ih
  repeat' first|refine G1 ?_|(refine G2 ?_ ?_<;>intro hc hd<;>try exact hd.elim)|fail
  exact⟨by simp,.int .i64 v,1,by simp[Tryz.f28, *],rfl⟩
 |cons x r=>
  have hlt:(pre.length:Int)<pre.length+(r.length+1):=by omega
  have hw:=ad ((pre.length:Int)+1) (by omega) (by simp at hvb;omega)
  have hsn:=rO pre x
  have hsum:iz (pre++x::r)=iz pre+bJ x.subs+iz r:=by
   have:∀a b:List Lns,iz (a++b)=iz a+iz b:=by
    intro a b
    induction a with
    |nil=>simp[iz]
    |cons y a ih=>simp only[List.cons_append,iz,ih];omega
   rw[this,iz];omega
  have hw2:=ad ((pre.length:Int)+(r.length+1)+(iz pre:Nat)+(bJ x.subs:Nat)) (by omega) (by simp at hvb;omega)
  have j1:=ih x (by simp)
  clear ih
  repeat' first|refine G1 ?_|(refine G2 ?_ ?_<;>intro hc hd<;>try exact hd.elim)|fail
  refine aC j1 ?_
  clear j1
  repeat' first|refine G1 ?_|(refine G2 ?_ ?_<;>intro hc hd<;>try exact hd.elim)|fail
  exact NX [] fun a2 hF2=>⟨rfl,pre++[x],r,by simp,rfl,(hF2.q 10),((hF2.same 3 rfl).trans (by simp[*]<;>omega))⟩
theorem f28' (l:List Lns)(hb:wNs l<big):PureOk Tryz.prog Γ 28 [sls aK l] (.int .i64 (bJ l)):=by
 have key:∀s:Lns,wN s<big→PureOk Tryz.prog Γ 28 [sls aK s.subs] (.int .i64 (bJ s.subs)):=by
  intro s
  induction s using Lns.ind with
  |h s ih=>
   intro hs
   have:=eM s
   exact f28 Γ s.subs (by simp only[big] at *;omega) fun x hx=>ih x hx (by have:=dI hx;simp only[big] at *;omega)
 exact f28 Γ l hb fun s hs=>key s (by have:=dI hs;simp only[big] at *;omega)
theorem f29 (l:List Lns)(hb:wNs l<big)(ih:∀s∈l,PureOk Tryz.prog Γ 29 [sls aK s.subs] (.int .i64 (ak s.subs))):PureOk Tryz.prog Γ 29 [sls aK l] (.int .i64 (ak l)):=by
 have hd:∀s∈l,ak s.subs<100000000000:=fun s hs=>by
  have:=xE s
  have:=p8 s
  have:=dI hs
  have:=eM s
  simp only[big] at hb
  omega
 have hk2:=iE l
 replace hb:l.length<big:=by omega
 simp only[big] at hb
 clear hk2
 obtain⟨v,hv⟩:∃v:Int,v=(ak l:Nat):=⟨_,rfl⟩
 rw[←hv]
 refine Y1 20 Tryz.func29 rfl rfl fun a hl g0=>?_
 repeat' first|refine G1 ?_|(refine G2 ?_ ?_<;>intro hc hd<;>try exact hd.elim)|fail
 refine am [(5,5),(9,17)] [8,3] (fun k a h=>h=[]∧∃pre rest,l=pre++rest∧k=rest.length∧lk a 8=some (.int .i64 pre.length)∧lk a 3=some (.int .i64 ((ak pre:Nat)-1))∧ak pre<100000000001) ⟨rfl,[],l,rfl,rfl,by simp[*],by simp[*,ak],by simp[ak]⟩ ?_
 intro a1 hk hk0 k a h hF hI
 replace g6:=hF.a hk 6
 replace g7:=hF.a hk 7
 replace hl:a.length=20:=hF.len.trans (hk0.trans (by simp[*]))
 clear hk hk0
 obtain⟨rfl,pre,rest,hl0,rfl,h8,h3,hdp⟩:=hI
 subst hl0
 cases rest with
 |nil=>
  simp only[List.append_nil] at *
  have hw:=ad ((ak pre:Nat):Int) (by omega) (by omega)
  have he:((ak pre:Nat):Int)-1+1=(ak pre:Nat):=by omega
  clear ih hd
  repeat' first|refine G1 ?_|(refine G2 ?_ ?_<;>intro hc hd<;>try exact hd.elim)|fail
  exact⟨by simp,.int .i64 v,1,by simp[Tryz.f29, *],rfl⟩
 |cons x r=>
  have hlt:(pre.length:Int)<pre.length+(r.length+1):=by omega
  have hw:=ad ((pre.length:Int)+1) (by omega) (by simp at hb;omega)
  have hsn:=lv pre x
  have hdx:=hd x (by simp)
  have j1:=ih x (by simp)
  have hmx:(if ((ak pre:Nat):Int)-1<(ak x.subs:Nat) then ((ak x.subs:Nat):Int) else (ak pre:Nat)-1)=(ak (pre++[x]):Nat)-1:=by rw[hsn];split<;>omega
  have hlx:ak (pre++[x])<100000000001:=by omega
  clear ih hd hsn
  repeat' first|refine G1 ?_|(refine G2 ?_ ?_<;>intro hc hd<;>try exact hd.elim)|fail
  refine aC j1 ?_
  clear j1
  repeat' first|refine G1 ?_|(refine G2 ?_ ?_<;>intro hc hd<;>try exact hd.elim)|fail
  exact NX [] fun a2 hF2=>⟨rfl,pre++[x],r,by simp,rfl,(hF2.q 8),((hF2.same 3 rfl).trans (by simp[*])),hlx⟩
theorem f29' (l:List Lns)(hb:wNs l<big):PureOk Tryz.prog Γ 29 [sls aK l] (.int .i64 (ak l)):=by
 have key:∀s:Lns,wN s<big→PureOk Tryz.prog Γ 29 [sls aK s.subs] (.int .i64 (ak s.subs)):=by
  intro s
  induction s using Lns.ind with
  |h s ih=>
   intro hs
   have:=eM s
   exact f29 Γ s.subs (by simp only[big] at *;omega) fun x hx=>ih x hx (by have:=dI hx;simp only[big] at *;omega)
 exact f29 Γ l hb fun s hs=>key s (by have:=dI hs;simp only[big] at *;omega)
end
end Go.V
end
section
set_option maxHeartbeats 4000000
namespace Go.V
open Go Go.Proofs
attribute [local irreducible] W bO WD aO yl aS bW
section
variable (Γ:Glo Tryz.prog)
attribute [local simp] veq
theorem f128m (l:List Lns)(hb:l.length<big):CallOk Tryz.prog Γ 128 [.so 0 0 l.length none] [(0,.cells (row aK l) 122 true)] 1 true (.tp []) [(0,.cells (row aK l.reverse) 122 true)] 1:=by
 simp only[big] at hb
 obtain⟨n,hn⟩:∃n,Hid n l.length:=⟨_,rfl⟩
 rw[show l.length=n from hn.symm] at hb ⊢
 have hres:Hid (row aK l.reverse) (row aK l.reverse):=rfl
 refine Z1 28 Tryz.func128 rfl rfl fun a hl g0=>?_
 have hw0:=ad ((n:Int)-1) (by omega) (by omega)
 repeat' first|refine G1 ?_|(refine G2 ?_ ?_<;>intro hc hd<;>try exact hd.elim)|fail
 refine am [(7,27)] [2,3] (fun k a h=>∃A M B,l=A++(M++B)∧Hid A.length B.length∧M.length≤k∧lk a 2=some (.int .i64 A.length)∧lk a 3=some (.int .i64 ((A.length:Int)+M.length-1))∧h=[(0,.cells (row aK (B.reverse++(M++A.reverse))) 122 true)]) ⟨[],l,[],by simp,rfl,Nat.le_refl _,by simp[*],by unfold Hid at hn;simp[*],by simp⟩ ?_
 intro a1 hk hk0 k a h hF hI
 replace g0:=hF.a hk 0
 replace hl:a.length=28:=hF.len.trans (hk0.trans (by simp[*]))
 clear hk hk0
 obtain⟨A,M,B,hl0,hAB,hkM,h2,h3,rfl⟩:=hI
 have hlen:n=A.length+M.length+A.length:=by unfold Hid at hn hAB;rw[hn,hl0];simp;omega
 rcases Nat.lt_or_ge M.length 2 with hM|hM
 ·
  have hrev:l.reverse=B.reverse++(M++A.reverse):=by
   rw[hl0]
   match M,hM with
   |[],_=>simp
   |[m],_=>simp
  have hnlt:¬(A.length:Int)<A.length+M.length-1:=by omega
  rw[hrev]
  clear hl0
  repeat' first|refine G1 ?_|(refine G2 ?_ ?_<;>intro hc hd<;>try exact hd.elim)|fail
  exact⟨by simp,by simp[Tryz.f128, *],by (repeat (first|exact aU|refine aP (by simp[V.get, *]) ?_))⟩
 ·
  obtain⟨x,M',y,rfl⟩:∃x M' y,M=x::(M'++[y]):=by
   match M,hM with
   |x::M1,hM=>
    have:M1≠[]:=by intro h;subst h;simp at hM
    exact⟨x,M1.dropLast,M1.getLast this,by rw[List.dropLast_concat_getLast this]⟩
  obtain⟨k,rfl⟩:∃k',k=k'+1:=⟨k-1,by omega⟩
  have hkM':M'.length≤k:=by simp at hkM;omega
  have hc:row aK (B.reverse++(x::(M'++[y])++A.reverse))=row aK B.reverse++(aK x++(row aK M'++(aK y++row aK A.reverse))):=by simp[bd]
  have hc2:row aK ((y::B).reverse++(M'++(A++[x]).reverse))=row aK B.reverse++(aK y++(row aK M'++(aK x++row aK A.reverse))):=by simp[bd]
  rw[hc]
  have hp1:(row aK B.reverse).length=A.length*16:=by unfold Hid at hAB;simp[hAB]
  have hp2:(row aK M').length=M'.length*16:=by simp
  have hp3:(row aK A.reverse).length=A.length*16:=by simp
  have hcl1:aE (row aK B.reverse)=true:=by simp
  have hcl2:aE (row aK M')=true:=by simp
  have hcl3:aE (row aK A.reverse)=true:=by simp
  have hlo1:aa 6 (row aK B.reverse)=true:=by simp
  have hlo2:aa 6 (row aK M')=true:=by simp
  have hlo3:aa 6 (row aK A.reverse)=true:=by simp
  generalize row aK B.reverse=P at *
  generalize row aK M'=Q at *
  generalize row aK A.reverse=S at *
  obtain⟨i,hi⟩:∃i,Hid i A.length:=⟨_,rfl⟩
  obtain⟨j,hj⟩:∃j,Hid j M'.length:=⟨_,rfl⟩
  have e3:((A.length:Int)+((x::(M'++[y])).length:Nat)-1)=i+j+1:=by unfold Hid at hi hj;simp[hi,hj];omega
  rw[e3] at h3
  rw[show A.length=i from hi.symm] at h2 hp1 hp3
  rw[show M'.length=j from hj.symm] at hp2
  have hnn:n=i+j+2+i:=by unfold Hid at hi hj;rw[hlen,hi,hj];simp;omega
  subst hnn
  have hlt:(i:Int)<i+j+1:=by omega
  have hlt2:(i:Int)<i+j+2+i:=by omega
  have hlt3:(i:Int)+j+1<i+j+2+i:=by omega
  have hpos:(0:Int)≤i+j+1:=by omega
  have hT:((i:Int)+j+1).toNat=i+j+1:=by omega
  have hw1:=ad ((i:Int)+1) (by omega) (by omega)
  have hw2:=ad ((i:Int)+j) (by omega) (by omega)
  have d1:List.drop ((i+j+1)*16) (P++(aK x++(Q++(aK y++S))))=aK y++S:=by
   rw[show P++(aK x++(Q++(aK y++S)))=(P++(aK x++Q))++(aK y++S) by simp,show(i+j+1)*16=(P++(aK x++Q)).length by simp[hp1,hp2];omega];exact List.drop_left
  have d2:List.drop (i*16) (P++(aK x++(Q++(aK y++S))))=aK x++(Q++(aK y++S)):=by rw[←hp1];exact List.drop_left
  have d3:List.take (i*16) (P++(aK x++(Q++(aK y++S))))=P:=by rw[←hp1];exact List.take_left
  have d4:List.drop (i*16+16) (P++(aK x++(Q++(aK y++S))))=Q++(aK y++S):=by
   rw[show P++(aK x++(Q++(aK y++S)))=(P++aK x)++(Q++(aK y++S)) by simp,show i*16+16=(P++aK x).length by simp[hp1]];exact List.drop_left
  have d5:List.take ((i+j+1)*16) (P++(aK y++(Q++(aK y++S))))=P++(aK y++Q):=by
   rw[show P++(aK y++(Q++(aK y++S)))=(P++(aK y++Q))++(aK y++S) by simp,show(i+j+1)*16=(P++(aK y++Q)).length by simp[hp1,hp2];omega];exact List.take_left
  have d6:List.drop ((i+j+1)*16+16) (P++(aK y++(Q++(aK y++S))))=S:=by
   rw[show P++(aK y++(Q++(aK y++S)))=(P++(aK y++(Q++aK y)))++S by simp,show(i+j+1)*16+16=(P++(aK y++(Q++aK y))).length by simp[hp1,hp2];omega];exact List.drop_left
  have hle1:(i+j+1)*16+16≤i*16+(16+(j*16+(16+i*16))):=by omega
  have hle3:(i+j+1)*16≤i*16+(16+(j*16+(16+i*16))):=by omega
  have hle2:i*16+16≤i*16+(16+(j*16+(16+i*16))):=by omega
  have hfin:Hid (((A++[x]).length:Nat)+(M'.length:Nat)-1:Int) ((i:Int)+j+1-1):=by unfold Hid at hi hj ⊢;simp[←hi,←hj];omega
  clear hb hM hlen e3 hc
  repeat' first|refine G1 ?_|(refine G2 ?_ ?_<;>intro hc hd<;>try exact hd.elim)|fail
  exact NX [(0,.cells (P++(aK y++(Q++(aK x++S)))) 122 true)] fun a2 hF2=>⟨A++[x],M',y::B,by rw[hl0];simp,by unfold Hid at hAB ⊢;simp[hAB],hkM',((hF2.same 2 rfl).trans (by unfold Hid at hi;simp[*])),((hF2.same 3 rfl).trans (by unfold Hid at hfin;rw[hfin];clear hfin;simp[*])),by rw[hc2]⟩
end
end Go.V
end
section
set_option maxHeartbeats 4000000
namespace Go.V
open Go Go.Proofs
attribute [local irreducible] W bO WD aO yl aS bW
section
variable (Γ:Glo Tryz.prog)
attribute [local simp] veq
@[simp] theorem Fs:IntKind.i64.wrap 2=2:=rfl
@[simp] theorem Ft:IntKind.i64.wrap 3=3:=rfl
@[simp] theorem Fu:IntKind.i64.wrap 4=4:=rfl
@[simp] theorem Fv:IntKind.i64.wrap 5=5:=rfl
@[simp] theorem Fw:IntKind.i64.wrap 6=6:=rfl
@[simp] theorem Fx:IntKind.i64.wrap 7=7:=rfl
theorem xl (s:Lns):∃q:List Val,(∀k a b l,aK (.mk k a b s.ty s.doc s.swaps l)=.int .i64 k :: .str a :: .str b::(q++[sls aK l]))∧aK s=.int .i64 s.kind :: .str s.a :: .str s.b::(q++[sls aK s.subs])∧q.length=12∧aE q=true∧ai q=true:=by
 refine⟨cTy s.ty++(aH s.doc++[sls bx s.swaps]),fun k a b l=>?_,?_,by simp,by simp[aE,Val.closed],by simp[ai,gq]⟩
 ·
  rw[eN];simp[Lns.kind,Lns.a,Lns.b,Lns.ty,Lns.doc,Lns.swaps,Lns.subs]
 ·
  rw[eN];simp
theorem zS (s:Lns):turnN s=.mk (dt s.kind) (if s.kind=1 then s.b else s.a) (if s.kind=1 then s.a else s.b) s.ty s.doc s.swaps (if s.kind=9∨s.kind=10 then bU s.subs else s.subs):=by cases s;rfl
theorem f129 (s:Lns)(h74:PureOk Tryz.prog Γ 74 [sls aK s.subs] (sls aK (bU s.subs))):PureOk Tryz.prog Γ 129 [.ag (aK s)] (.ag (aK (turnN s))):=by
 obtain⟨q,q1,q2,q3,q4,q5⟩:=xl s
 rw[zS,q1,q2]
 clear q1 q2
 have s9:sls aK s.subs=.sl (row aK s.subs) s.subs.length none:=rfl
 have s10:sls aK (bU s.subs)=.sl (row aK (bU s.subs)) (bU s.subs).length none:=rfl
 have hz:aE (row aK s.subs)=true:=by simp
 have hz2:aE (row aK (bU s.subs))=true:=by simp
 have hd1:∀v,List.drop 12 (q++[v])=[v]:=fun v=>by rw[←q3];exact List.drop_left
 have ht1:∀v,List.take 12 (q++[v])=q:=fun v=>by rw[←q3];exact List.take_left
 have hg1:∀v:Val,(q++[v])[12]?=some v:=fun v=>by rw[List.getElem?_append_right (by omega),q3];rfl
 have hat:∀(v:Val) (h:12<(q++[v]).length),(q++[v])[12]=v:=fun v h=>jC (hg1 v) h
 have hal:∀v:Val,List.take 13 (q++[v])=q++[v]:=fun v=>List.take_of_length_le (by simp[q3])
 have hdr:∀v:Val,List.drop 13 (q++[v])=[]:=fun v=>List.drop_of_length_le (by simp[q3])
 generalize s.a=sa at *
 generalize s.b=sb at *
 clear s9 s10
 refine Y1 37 Tryz.func129 rfl rfl fun a hl g0=>?_
 repeat' first|refine G1 ?_|(refine G2 ?_ ?_<;>intro hc hd<;>try exact hd.elim)|fail
 all_goals (try (refine aC h74 ?_))
 clear h74
 all_goals (repeat' first|refine G1 ?_|(refine G2 ?_ ?_<;>intro hc hd<;>try exact hd.elim)|fail)
 all_goals (refine⟨by simp,_,1,(by simp[Tryz.f129,V.get,V.put,aX, *];rfl),?_⟩;rw[aG (by simp[Val.closed,aE, *])];simp[dt, *])
end
end Go.V
end
section
set_option maxHeartbeats 4000000
namespace Go.V
open Go Go.Proofs
attribute [local irreducible] W bO WD aO yl aS bW
section
variable (Γ:Glo Tryz.prog)
attribute [local simp] veq
theorem f109c (x0:Lns)(r0:List Lns)(hb:wNs (x0::r0)<big):CallOk Tryz.prog Γ 109 [sls aK (x0::r0)] [] 0 true (.so 0 0 (r0.length+1) none) [(0,.cells (row aK (x0::r0)) 122 true)] 1:=by
 refine ba Tryz.func109 rfl (by simp[Tryz.f109]) (by omega) (by simp[aR,aa]) (by simp[bc,cz]) fun a hla ha=>(EO Γ x0 r0 hb (Dm Γ _ hb) _ rfl a hla (ha 0 _ rfl)).mono ?_
 rintro e' a' h' _ ⟨g1,g2,g3⟩
 exact⟨g1,[(7,0)],.so 7 0 (r0.length+1) none,[(7,.cells (row aK (x0::r0)) 122 true)],_,_,by simp,by simp,by simp[Tryz.f109,g2],by simp,by simp,aP g3 aU,Clo.refl _ _⟩
theorem f128z:PureOk Tryz.prog Γ 128 [.sl [] 0 none] (.tp []):=by
 have hw:=ad (-1) (by omega) (by omega)
 refine Y1 28 Tryz.func128 rfl rfl fun a hl g0=>?_
 repeat' first|refine G1 ?_|(refine G2 ?_ ?_<;>intro hc hd<;>try exact hd.elim)|fail
 refine am [(7,27)] [2,3] (fun k a h=>h=[]∧k=0∧lk a 2=some (.int .i64 0)∧lk a 3=some (.int .i64 (-1))) ⟨rfl,rfl,by simp[*],by simp[*]⟩ ?_
 intro a1 hk hk0 k a h hF hI
 replace g0:=hF.a hk 0
 replace hl:a.length=28:=hF.len.trans (hk0.trans (by simp[*]))
 clear hk hk0
 obtain⟨rfl,rfl,h2,h3⟩:=hI
 repeat' first|refine G1 ?_|(refine G2 ?_ ?_<;>intro hc hd<;>try exact hd.elim)|fail
 exact⟨by simp,.tp [],2,by simp[Tryz.f128, *],rfl⟩
theorem sf:∀l:List Lns,bU l=(l.map turnN).reverse
 |[]=>rfl
 |s::l=>by rw[bU,sf l];simp
theorem f74 (l:List Lns)(hb:wNs l<big)(ih:∀s∈l,PureOk Tryz.prog Γ 74 [sls aK s.subs] (sls aK (bU s.subs))):PureOk Tryz.prog Γ 74 [sls aK l] (sls aK (bU l)):=by
 have hbl:l.length<big:=by have:=iE l;omega
 have j1:∀s∈l,PureOk Tryz.prog Γ 129 [.ag (aK s)] (.ag (aK (turnN s))):=fun s hs=>f129 Γ s (ih s hs)
 clear ih
 cases l with
 |nil=>
  have h1:PureOk Tryz.prog Γ 109 [.sl [] 0 none] (.sl [] 0 none):=f109' Γ [] hb
  have h2:=f128z Γ
  refine Y1 24 Tryz.func74 rfl rfl fun a hl g0=>?_
  repeat' first|refine G1 ?_|(refine G2 ?_ ?_<;>intro hc hd<;>try exact hd.elim)|fail
  refine aC h1 ?_
  repeat' first|refine G1 ?_|(refine G2 ?_ ?_<;>intro hc hd<;>try exact hd.elim)|fail
  refine aC h2 ?_
  repeat' first|refine G1 ?_|(refine G2 ?_ ?_<;>intro hc hd<;>try exact hd.elim)|fail
  refine am [(4,5),(13,22)] [12] (fun k a h=>h=[]∧k=0∧lk a 12=some (.int .i64 0)) ⟨rfl,rfl,by simp[*]⟩ ?_
  intro a1 hk hk0 k a h hF hI
  replace g3:=hF.a hk 3
  replace g10:=hF.a hk 10
  replace g11:=hF.a hk 11
  replace hl:a.length=24:=hF.len.trans (hk0.trans (by simp[*]))
  clear hk hk0
  obtain⟨rfl,rfl,h12⟩:=hI
  repeat' first|refine G1 ?_|(refine G2 ?_ ?_<;>intro hc hd<;>try exact hd.elim)|fail
  exact⟨by simp,.sl [] 0 none,2,by simp[Tryz.f74, *],rfl⟩
 |cons x0 r0=>
  have h1:=(f109c Γ x0 r0 hb).ren [] 2 rfl (by simp[cm]) (by simp) rfl
  simp at h1
  have h2:=(f128m Γ (x0::r0) hbl).ren [2] 5 rfl (by simp[cm,fU]) (by simp) rfl
  simp at h2
  simp only[big] at hbl
  have hbk:=sf (x0::r0)
  rw[←List.map_reverse] at hbk
  rw[hbk]
  replace j1:∀s∈(x0::r0).reverse,PureOk Tryz.prog Γ 129 [.ag (aK s)] (.ag (aK (turnN s))):=fun s hs=>j1 s (List.mem_reverse.1 hs)
  have hlen:Hid (x0::r0).reverse.length (r0.length+1):=by simp[Hid]
  have hrv:row aK (r0.reverse++[x0])=row aK (x0::r0).reverse:=by simp
  have hlb:r0.length+1<100000000000:=by simpa using hbl
  try rw[hrv] at h2
  generalize hL:(x0::r0).reverse=L at *
  clear hb hbk hrv hbl hL
  refine Y1 24 Tryz.func74 rfl rfl fun a hl g0=>?_
  repeat' first|refine G1 ?_|(refine G2 ?_ ?_<;>intro hc hd<;>try exact hd.elim)|fail
  refine av h1 ?_
  repeat' first|refine G1 ?_|(refine G2 ?_ ?_<;>intro hc hd<;>try exact hd.elim)|fail
  refine av h2 ?_
  repeat' first|refine G1 ?_|(refine G2 ?_ ?_<;>intro hc hd<;>try exact hd.elim)|fail
  refine am [(4,5),(13,22)] [12] (fun k a h=>∃pre rest P,Hid L (pre++rest)∧Hid P (pre.map turnN)∧P.length=pre.length∧k=rest.length∧lk a 12=some (.int .i64 P.length)∧h=[(2,.cells (row aK (P++rest)) 122 true)]) ⟨[],L,[],rfl,rfl,rfl,rfl,by simp[*],by simp[*]⟩ ?_
  intro a1 hk hk0 k a h hF hI
  replace g3:=hF.a hk 3
  replace g10:=hF.a hk 10
  replace g11:=hF.a hk 11
  replace hl:a.length=24:=hF.len.trans (hk0.trans (by simp[*]))
  clear hk hk0
  obtain⟨pre,rest,P,hL,hP,hPl,rfl,h12,rfl⟩:=hI
  have hn:P.length+rest.length=r0.length+1:=by unfold Hid at hL hlen;rw[hPl,←hlen,hL];simp
  have hre:L.map turnN=pre.map turnN++rest.map turnN:=by unfold Hid at hL;rw[hL];simp
  rw[hre]
  rw[←show P=pre.map turnN from hP]
  cases rest with
  |nil=>
   have hnl:¬(P.length:Int)<r0.length+1:=by simp at hn;omega
   simp only[List.append_nil,List.map_nil]
   have hn':Hid P.length (r0.length+1):=by simpa[Hid] using hn
   clear j1 hre hPl hn
   repeat' first|refine G1 ?_|(refine G2 ?_ ?_<;>intro hc hd<;>try exact hd.elim)|fail
   have hsl:sls aK P=.sl (row aK P) (r0.length+1) none:=by unfold Hid at hn';rw[←hn']
   refine⟨by simp,.so 2 0 (r0.length+1) none,(row aK P).length+3,by simp[Tryz.f74, *],?_⟩
   rw[hsl]
   exact dC rfl (by unfold Hid at hn';simp[←hn']) (by simp) (by omega)
  |cons x r=>
   have hx:=j1 x (by unfold Hid at hL;simp[hL])
   have hlt:(P.length:Int)<r0.length+1:=by simp at hn;omega
   have hw:=ad ((P.length:Int)+1) (by omega) (by simp at hn;omega)
   have hrd:=oH P r x
   have ht:List.take (P.length*16) (row aK (P++x::r))=row aK P:=by rw[bd];exact List.take_left' (by simp)
   have hdr:List.drop (P.length*16+16) (row aK (P++x::r))=row aK r:=by
    rw[bd,bt,←List.append_assoc];exact List.drop_left' (by simp)
   clear j1 hre hn
   have hPl':Hid P.length pre.length:=hPl
   clear hPl
   repeat' first|refine G1 ?_|(refine G2 ?_ ?_<;>intro hc hd<;>try exact hd.elim)|fail
   refine aC hx ?_
   clear hx
   repeat' first|refine G1 ?_|(refine G2 ?_ ?_<;>intro hc hd<;>try exact hd.elim)|fail
   exact NX [(2,.cells (row aK P++(aK (turnN x)++row aK r)) 122 true)] fun a2 hF2=>⟨pre++[x],r,P++[turnN x],by unfold Hid at *;simp[hL],by unfold Hid at *;simp[hP],by unfold Hid at *;simp[hPl'],rfl,(hF2.q 12),by simp[bd]⟩
theorem f74' (l:List Lns)(hb:wNs l<big):PureOk Tryz.prog Γ 74 [sls aK l] (sls aK (bU l)):=by
 have key:∀s:Lns,wN s<big→PureOk Tryz.prog Γ 74 [sls aK s.subs] (sls aK (bU s.subs)):=by
  intro s
  induction s using Lns.ind with
  |h s ih=>
   intro hs
   have:=eM s
   exact f74 Γ s.subs (by simp only[big] at *;omega) fun x hx=>ih x hx (by have:=dI hx;simp only[big] at *;omega)
 exact f74 Γ l hb fun s hs=>key s (by have:=dI hs;simp only[big] at *;omega)
end
end Go.V
end
