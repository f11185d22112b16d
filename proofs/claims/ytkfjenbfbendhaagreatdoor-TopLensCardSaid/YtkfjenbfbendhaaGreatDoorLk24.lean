/-
  A part of a proof: Z6 Z7 A4 A5.
-/
import Derived.Test.YtkfjenbfbendhaaGreatDoorLk15
import Derived.Test.YtkfjenbfbendhaaGreatDoorLk16
import Derived.Test.YtkfjenbfbendhaaGreatDoorLk23
set_option linter.unusedSimpArgs false
set_option linter.unusedVariables false
section
set_option maxHeartbeats 4000000
namespace Go.V
open Go Go.Proofs
attribute [local irreducible] W bO WD aO yl aS bW
section
variable (Γ:Glo Tryz.prog)
attribute [local simp] veq bP ei V.del
theorem f201 (f:Flds):CallOk Tryz.prog Γ 201 [.mp 0] [(0,.map (mF f))] 1 true (.fn 271 [] [.pr 1 0]) [(0,.map (mF f)),(1,.cells [.mp 0] 203 false)] 2:=by
 refine Z1 4 Tryz.func201 rfl rfl fun a hl g0=>?_
 repeat' first|refine G1 ?_|(refine G2 ?_ ?_<;>intro hc hd<;>try exact hd.elim)|fail
 exact⟨by simp,by simp[Tryz.f201, *],fun _ _ h=>h⟩
theorem f272 (f:Flds):CallOk Tryz.prog Γ 272 [.mp 0] [(0,.map (mF f))] 1 true (.fn 314 [] [.pr 1 0]) [(0,.map (mF f)),(1,.cells [.mp 0] 202 false)] 2:=by
 refine Z1 4 Tryz.func272 rfl rfl fun a hl g0=>?_
 repeat' first|refine G1 ?_|(refine G2 ?_ ?_<;>intro hc hd<;>try exact hd.elim)|fail
 exact⟨by simp,by simp[Tryz.f272, *],fun _ _ h=>h⟩
theorem FP (n:Int):dB Tryz.prog 30 [(0,.int .i64 n)]=some [.int .i64 n,.int .i64 0,.str [],.nils,.nils]:=by kernel_rfl
attribute [local simp] FP
theorem vT (n:Str)(x:Doc):∀f:Flds,wF (aq n x f)≤wF f+n.length+1+wD x
 |[]=>by simp[aq,wF]
 |(k,d)::f=>by
  rw[aq]
  split
  ·
   rename_i h;subst h;simp only[wF];omega
  ·
   simp only[wF];have:=vT n x f;omega
theorem nO:∀(ks:List Str)(ds:List Doc)(f:Flds),ks.length=ds.length→wF (cC f ks ds)≤wF f+dD ks+wDs ds
 |[],[],f,_=>by simp[cC,dD,wDs]
 |[],_::_,_,h=>by simp at h
 |_::_,[],_,h=>by simp at h
 |a::kp,b::dp,f,h=>by
  rw[cC,dD,wDs]
  have:=nO kp dp (aq a b f) (by simpa using h)
  have:=vT a b f
  omega
theorem BG {f:Flds}{p:Str×Doc}(h:p∈f):wD p.2<wF f:=by
 induction f with
 |nil=>cases h
 |cons q f ih=>
  obtain⟨n,x⟩:=q
  rw[wF]
  rcases List.mem_cons.1 h with rfl|h
  ·
   simp only;omega
  ·
   have:=ih h;omega
theorem na (p:Str×Doc):∀f:Flds,(kz p f).length=f.length+1
 |[]=>rfl
 |q::r=>by
  rw[kz]
  split
  ·
   rfl
  ·
   rw[List.length_cons,na p r,List.length_cons]
theorem je:∀f:Flds,(bz f).length=f.length
 |[]=>rfl
 |p::r=>by rw[bz,na,je r,List.length_cons]
theorem co9:Tryz.prog.cellsOf 9=1:=by kernel_rfl
theorem AL:Tryz.prog.cellsOf 30=5:=by kernel_rfl
def AG (f:Flds):List Val:=[.int .i64 1,.int .i64 0,.str [],gR aW (f.map (·.1)),gR aH (f.map (·.2))]
theorem AH (f:Flds):Wk (.ag (AG f)) (.ag (aH (.mk 1 0 [] (f.map (·.1)) (f.map (·.2))))):=by
 rw[db]
 exact Wk.ag ⟨Wk.refl _,Wk.refl _,Wk.refl _,qs aW _,qs aH _,trivial⟩
theorem f202g (ks:List Str)(ds:List Doc)(hl0:ks.length=ds.length)(hb:dD ks+wDs ds<100000000000):PureOk Tryz.prog Γ 202 [sls aW ks,sls aH ds] (.ag (AG (bz (cC [] ks ds)))):=by
 have hbk:ds.length<100000000000:=by have:=s4 ds;omega
 have e0:mF []=[]:=rfl
 have hlz:(ks.length:Int)=ds.length:=by omega
 refine Y2 58 Tryz.func202 rfl rfl fun a hl g0 g1=>?_
 repeat' first|refine G1 ?_|(refine G2 ?_ ?_<;>intro hc hd<;>try exact hd.elim)|fail
 refine am [(6,7),(21,31)] [20] (fun k a h=>∃kp kr dp dr,ks=kp++kr∧ds=dp++dr∧kp.length=dp.length∧k=kr.length∧lk a 20=some (.int .i64 dp.length)∧h=[(0,.cells [.int .i64 0,.int .i64 0,.str [],.nils,.nils] 30 false),(6,.map (mF (cC [] kp dp)))]) ⟨[],ks,[],ds,rfl,rfl,rfl,rfl,by simp[*],rfl⟩ ?_
 intro a1 hk hk0 k a h hF hI
 replace g1:=hF.a hk 1
 replace g4:=hF.a hk 4
 replace g5:=hF.a hk 5
 replace g18:=hF.a hk 18
 replace g19:=hF.a hk 19
 replace hl:a.length=58:=hF.len.trans (hk0.trans (by simp[*]))
 clear hk hk0
 obtain⟨kp,kr,dp,dr,hkk,hkd,hkl,rfl,hix,rfl⟩:=hI
 cases kr with
 |nil=>
  have hdr:dr=[]:=by
   rw[hkk,hkd] at hl0;simp at hl0
   exact List.eq_nil_of_length_eq_zero (by omega)
  subst hdr
  simp only[List.append_nil] at hkk hkd
  subst hkk
  subst hkd
  obtain⟨m,hm⟩:∃m,m=cC [] ks ds:=⟨_,rfl⟩
  rw[←hm]
  have hnm:bl m:=by rw[hm];exact lT _ _ _ (by simp[bl])
  have hwm:wF m<100000000000:=by
   rw[hm]
   have:=nO ks ds [] hl0
   simp only[wF] at this
   omega
  clear hm
  have j1:=(f272 Γ m).ren [6] 16 rfl (by simp[cm,aa,aR]) (by simp) (by simp)
  simp[bF,b9,bu,au,tau] at j1
  have j2:=(f200b Γ m hnm hwm).ren [6,16] 17 rfl (by simp[cm,fU,aa,aR]) (by simp) (by simp)
  simp[bF,b9,bu,au,tau] at j2
  clear hl0 hlz hb
  repeat' first|refine G1 ?_|(refine G2 ?_ ?_<;>intro hc hd<;>try exact hd.elim)|fail
  refine av j1 ?_
  repeat' first|refine G1 ?_|(refine G2 ?_ ?_<;>intro hc hd<;>try exact hd.elim)|fail
  refine av j2 ?_
  repeat' first|refine G1 ?_|(refine G2 ?_ ?_<;>intro hc hd<;>try exact hd.elim)|fail
  have hS:∀p∈bz m,bD p.1 m=some p.2:=fun p hp=>gc hnm (gK.1 hp)
  have hwS:∀p∈bz m,wD p.2<big:=fun p hp=>by
   have:=BG (gK.1 hp)
   unfold big;omega
  have hlS:(bz m).length<100000000000:=by rw[je];have:=qA m;omega
  generalize bz m=S at *
  clear j1 j2
  refine jh (h':=[(0,.cells [.int .i64 0,.int .i64 0,.str [],.nils,.nils] 30 false),(6,.map (mF m)),(13,.cells [.int .i64 1,.int .i64 0,.str [],.nils,.nils] 30 false)]) (by (repeat (first|exact aU|refine aP (by simp[V.get, *]) ?_))) ?_
  refine oU [(10,10),(38,56)] [37] 40 (fun k a h=>∃pre rest,S=pre++rest∧k=rest.length∧lk a 37=some (.int .i64 pre.length)∧h=gH aW 38 9 (pre.map (·.1))++(gH aH 39 30 (pre.map (·.2))++[(0,.cells [.int .i64 0,.int .i64 0,.str [],.nils,.nils] 30 false),(6,.map (mF m)),(13,.cells [.int .i64 1,.int .i64 0,.str [],gV 38 (pre.map (·.1)),gV 39 (pre.map (·.2))] 30 false)])) (by omega) ⟨[],S,rfl,rfl,by simp[*],rfl⟩ ?_
  intro a1 hk hk0 k a h hF hI
  replace g4:=hF.a hk 4
  replace g5:=hF.a hk 5
  replace g8:=hF.a hk 8
  replace g35:=hF.a hk 35
  replace g36:=hF.a hk 36
  replace hl:a.length=58:=hF.len.trans (hk0.trans (by simp[*]))
  clear hk hk0
  obtain⟨pre,rest,hl1,rfl,h37,rfl⟩:=hI
  cases rest with
  |nil=>
   simp only[List.append_nil] at hl1
   subst hl1
   clear hS hwS
   cases S with
   |nil=>
    simp only[List.map_nil,gH,gV,List.nil_append,AG,gR]
    repeat' first|refine G1 ?_|(refine G2 ?_ ?_<;>intro hc hd<;>try exact hd.elim)|fail
    exact⟨by simp,.ag [.int .i64 1,.int .i64 0,.str [],.nils,.nils],5,by simp[Tryz.f202,V.get, *],by simp[vw,vwL]⟩
   |cons p S=>
    have e1:gH aW 38 9 (List.map (·.1) (p::S))=[(38,.cells (row aW (List.map (·.1) (p::S))) 9 true)]:=rfl
    have e2:gH aH 39 30 (List.map (·.2) (p::S))=[(39,.cells (row aH (List.map (·.2) (p::S))) 30 true)]:=rfl
    have e3:gV 38 (List.map (fun x:Str×Doc=>x.1) (p::S))=.so 38 0 (S.length+1) none:=by simp[gV]
    have e4:gV 39 (List.map (fun x:Str×Doc=>x.2) (p::S))=.so 39 0 (S.length+1) none:=by simp[gV]
    have e5:gR aW (List.map (fun x:Str×Doc=>x.1) (p::S))=.sl (row aW (List.map (·.1) (p::S))) (S.length+1) none:=by simp[gR,sls]
    have e6:gR aH (List.map (fun x:Str×Doc=>x.2) (p::S))=.sl (row aH (List.map (·.2) (p::S))) (S.length+1) none:=by simp[gR,sls]
    unfold AG
    rw[e1,e2,e3,e4,e5,e6]
    have c1:=ic (List.map (·.1) (p::S))
    have c2:=fh (List.map (·.2) (p::S))
    have n1:(row aW (List.map (·.1) (p::S))).length=S.length+1:=by simp
    have n2:(row aH (List.map (·.2) (p::S))).length=(S.length+1)*5:=by simp<;>omega
    simp only[List.length_cons,Int.natCast_add,Int.cast_ofNat_Int] at g36 h37
    clear g35 e1 e2 e3 e4 e5 e6
    generalize row aW (List.map (·.1) (p::S))=cs at *
    generalize row aH (List.map (·.2) (p::S))=ds at *
    simp only[List.cons_append,List.nil_append]
    have hge:¬((S.length:Int)+1)<S.length+1:=by omega
    repeat' first|refine G1 ?_|(refine G2 ?_ ?_<;>intro hc hd<;>try exact hd.elim)|fail
    exact⟨by simp,.ag [.int .i64 1,.int .i64 0,.str [],.so 38 0 (S.length+1) none,.so 39 0 (S.length+1) none],cs.length+ds.length+12,by simp[Tryz.f202,V.get, *],
     er rfl (aI (aG rfl) (aI (aG rfl) (aI (aG rfl) (aI (dC rfl (by rw[n1,co9];omega) c1 (by omega)) (aI (dC rfl (by rw[n2,AL]) c2 (by omega)) bR)))))⟩
  |cons p r=>
   obtain⟨key,y⟩:=p
   have hlt:(pre.length:Int)<S.length:=by rw[hl1];simp<;>omega
   have hltN:pre.length<S.length:=by omega
   have hle:pre.length≤S.length:=by omega
   have hw:=ad ((pre.length:Int)+1) (by omega) (by omega)
   have i78:=f78 Γ y (hwS (key,y) (by simp[hl1]))
   have hln:pre.length<100000000000:=by omega
   have hlk:∀h:Heap,V.get h 6=some (.map (mF m))→i7 Tryz.prog 202 h (.mp 6) (.str key) false=some (.ag (aH y)):=fun h hg=>by
    rw[eV my hg key false]
    unfold cG
    rw[hS (key,y) (by simp[hl1])]
    rfl
   obtain⟨K,hK⟩:∃K,K=row aW (List.map (fun x=>x.1) S):=⟨_,rfl⟩
   rw[←hK] at g35
   have hKl:K.length=S.length:=by rw[hK];simp
   have hrk:K.drop pre.length=.str key::row aW (List.map (fun x=>x.1) r):=by
    have:=fH (List.map (fun x:Str×Doc=>x.1) pre) (List.map (fun x:Str×Doc=>x.1) r) key
    rw[List.length_map] at this
    rw[hK,hl1,List.map_append,List.map_cons]
    exact this
   have hk0:K[pre.length]?=some (.str key):=by
    have h:=congrArg (fun l:List Val=>l[0]?) hrk
    simpa using h
   have hleK:pre.length≤K.length:=by omega
   have hl2:S=(pre++[(key,y)])++r:=by rw[hl1];simp
   replace hl2:Hid S ((pre++[(key,y)])++r):=hl2
   clear hS hwS hK hl1 hKl hrk
   cases pre with
   |nil=>
    simp only[List.map_nil,gH,gV,List.nil_append,List.length_nil] at *
    repeat' first|refine G1 ?_|(refine G2 ?_ ?_<;>intro hc hd<;>try exact hd.elim)|fail
    refine gy [(44,.cells [.str key] 9 false)] ?_
    repeat' first|refine G1 ?_|(refine G2 ?_ ?_<;>intro hc hd<;>try exact hd.elim)|fail
    refine aQ i78 ?_
    repeat' first|refine G1 ?_|(refine G2 ?_ ?_<;>intro hc hd<;>try exact hd.elim)|fail
    refine gy [(46,.cells (aH y) 30 false)] ?_
    repeat' first|refine G1 ?_|(refine G2 ?_ ?_<;>intro hc hd<;>try exact hd.elim)|fail
    exact⟨(by (repeat refine Frm.set ?_ rfl);exact hF),[(45,38),(47,39)],[(45,.cells [.str key] 9 true),(47,.cells (aH y) 30 true),(0,.cells [.int .i64 0,.int .i64 0,.str [],.nils,.nils] 30 false),(6,.map (mF m)),(13,.cells [.int .i64 1,.int .i64 0,.str [],.so 45 0 1 none,.so 47 0 1 none] 30 false)],(by (repeat (first|exact aU|refine aP (by simp[V.get, *]) ?_))),(by simp),(by simp),(by simp[*,aR,aa,aD]),(by simp[*,bc,cz,aR,aa,aD]),_,rfl,fun a2 hF2 hL2=>⟨[(key,y)],r,hl2,rfl,((hL2 37 (by simp)).trans (by simp[*]<;>omega)),by simp[gV,gH,aW]⟩⟩
   |cons q pre=>
    have e1:gH aW 38 9 (List.map (·.1) (q::pre))=[(38,.cells (row aW (List.map (·.1) (q::pre))) 9 true)]:=rfl
    have e2:gH aH 39 30 (List.map (·.2) (q::pre))=[(39,.cells (row aH (List.map (·.2) (q::pre))) 30 true)]:=rfl
    have e3:gV 38 (List.map (fun x:Str×Doc=>x.1) (q::pre))=.so 38 0 (pre.length+1) none:=by simp[gV]
    have e4:gV 39 (List.map (fun x:Str×Doc=>x.2) (q::pre))=.so 39 0 (pre.length+1) none:=by simp[gV]
    have e5:gH aW 38 9 (List.map (·.1) (q::pre++[(key,y)]))=[(38,.cells (row aW (List.map (·.1) (q::pre))++[.str key]) 9 true)]:=by rw[List.map_append];exact jT aW 38 9 (List.map (·.1) (q::pre)) key
    have e6:gH aH 39 30 (List.map (·.2) (q::pre++[(key,y)]))=[(39,.cells (row aH (List.map (·.2) (q::pre))++aH y) 30 true)]:=by rw[List.map_append];exact jT aH 39 30 (List.map (·.2) (q::pre)) y
    have e7:gV 38 (List.map (fun x:Str×Doc=>x.1) (q::pre++[(key,y)]))=.so 38 0 (pre.length+1+1) none:=by simp[gV]
    have e8:gV 39 (List.map (fun x:Str×Doc=>x.2) (q::pre++[(key,y)]))=.so 39 0 (pre.length+1+1) none:=by simp[gV]
    rw[e1,e2,e3,e4]
    have c1:=ic (List.map (·.1) (q::pre))
    have c2:=fh (List.map (·.2) (q::pre))
    have b1:=vH (List.map (·.1) (q::pre))
    have b2:=lV (List.map (·.2) (q::pre))
    have n1:(row aW (List.map (·.1) (q::pre))).length=pre.length+1:=by simp
    have n2:(row aH (List.map (·.2) (q::pre))).length=(pre.length+1)*5:=by simp<;>omega
    replace e5:Hid (gH aW 38 9 (List.map (·.1) (q::pre++[(key,y)]))) _:=e5
    replace e6:Hid (gH aH 39 30 (List.map (·.2) (q::pre++[(key,y)]))) _:=e6
    replace e7:Hid (gV 38 (List.map (fun x:Str×Doc=>x.1) (q::pre++[(key,y)]))) _:=e7
    replace e8:Hid (gV 39 (List.map (fun x:Str×Doc=>x.2) (q::pre++[(key,y)]))) _:=e8
    clear e1 e2 e3 e4
    generalize row aW (List.map (·.1) (q::pre))=cs at *
    generalize row aH (List.map (·.2) (q::pre))=dd at *
    have hlo1:=fun N=>aD (N:=N) _ c1
    have hlo2:=fun N=>aD (N:=N) _ c2
    have hta:List.take (pre.length+1) cs=cs:=List.take_of_length_le (by omega)
    have htb:List.take ((pre.length+1)*5) dd=dd:=List.take_of_length_le (by omega)
    simp only[List.cons_append,List.nil_append]
    simp only[List.length_cons,Int.natCast_add,Int.cast_ofNat_Int] at hlt hltN hle hw hln hk0 hleK h37
    have hle1:pre.length+1≤K.length:=hleK
    have z1:¬pre.length+1≤pre.length:=by omega
    have z2:(pre.length+1+1)*16≤140737488355328:=by omega
    have z3:¬(pre.length+1+1)*5≤(pre.length+1)*5:=by omega
    have z4:(pre.length+1+1)*80≤140737488355328:=by omega
    repeat' first|refine G1 ?_|(refine G2 ?_ ?_<;>intro hc hd<;>try exact hd.elim)|fail
    refine gy [(38,.cells cs 9 true),(44,.cells [.str key] 9 false)] ?_
    repeat' first|refine G1 ?_|(refine G2 ?_ ?_<;>intro hc hd<;>try exact hd.elim)|fail
    refine aQ i78 ?_
    repeat' first|refine G1 ?_|(refine G2 ?_ ?_<;>intro hc hd<;>try exact hd.elim)|fail
    refine gy [(39,.cells dd 30 true),(46,.cells (aH y) 30 false)] ?_
    repeat' first|refine G1 ?_|(refine G2 ?_ ?_<;>intro hc hd<;>try exact hd.elim)|fail
    exact⟨(by (repeat refine Frm.set ?_ rfl);exact hF),[(45,38),(47,39)],[(45,.cells (cs++[.str key]) 9 true),(47,.cells (dd++aH y) 30 true),(0,.cells [.int .i64 0,.int .i64 0,.str [],.nils,.nils] 30 false),(6,.map (mF m)),(13,.cells [.int .i64 1,.int .i64 0,.str [],.so 45 0 (pre.length+1+1) none,.so 47 0 (pre.length+1+1) none] 30 false)],(by (repeat (first|exact aU|refine aP (by simp[V.get, *]) ?_))),(by simp),(by simp),(by simp[*,aR,aa,aD]),(by simp[*,bc,cz,aR,aa,aD]),_,rfl,fun a2 hF2 hL2=>⟨q::pre++[(key,y)],r,hl2,rfl,((hL2 37 (by simp)).trans (by simp[*]<;>omega)),by rw[show gH aW 38 9 (List.map (·.1) (q::pre++[(key,y)]))=_ from e5,show gH aH 39 30 (List.map (·.2) (q::pre++[(key,y)]))=_ from e6,show gV 38 (List.map (fun x:Str×Doc=>x.1) (q::pre++[(key,y)]))=_ from e7,show gV 39 (List.map (fun x:Str×Doc=>x.2) (q::pre++[(key,y)]))=_ from e8];simp[bF,b9,bu,au,ig,aJ,c1,c2]⟩⟩
 |cons key kr=>
  cases dr with
  |nil=>rw[hkk,hkd] at hl0;simp at hl0;omega
  |cons y dr=>
  have hltd:(dp.length:Int)<ds.length:=by rw[hkd];simp<;>omega
  have hled:dp.length≤ds.length:=by omega
  have hl5:dp.length*5≤ds.length*5:=by omega
  have hltN:dp.length<ds.length:=by omega
  have hlek:dp.length≤ks.length:=by omega
  have hltk:(dp.length:Int)<ks.length:=by omega
  have hltk2:dp.length<ks.length:=by omega
  have hrk:(row aW ks).drop dp.length=.str key::row aW kr:=by rw[hkk,←hkl];exact fH kp kr key
  have hrd:(row aH ds).drop (dp.length*5)=aH y++row aH dr:=by rw[hkd];exact oG dp dr y
  have hw:=ad ((dp.length:Int)+1) (by omega) (by omega)
  have hd5:List.take 5 (aH y++row aH dr)=aH y:=List.take_left' (bS y)
  have hsn:=kJ key y kp dp [] hkl
  have hkq:Eqn (kp++[key]).length (dp++[y]).length:=by show(kp++[key]).length=(dp++[y]).length;simp;exact hkl
  have hk2:ks=(kp++[key])++kr:=by rw[hkk];simp
  have hd2:ds=(dp++[y])++dr:=by rw[hkd];simp
  have hu:gW Tryz.prog 202 [(0,.cells [.int .i64 0,.int .i64 0,.str [],.nils,.nils] 30 false),(6,.map (mF (cC [] kp dp)))] (.mp 6) (.str key) (.ag (aH y))=some [(0,.cells [.int .i64 0,.int .i64 0,.str [],.nils,.nils] 30 false),(6,.map (mF (cC [] (kp++[key]) (dp++[y]))))]:=by rw[dg my (f:=cC [] kp dp) (by simp[V.get]) key y,hsn];simp[V.put]
  replace hk2:Hid ks ((kp++[key])++kr):=hk2
  replace hd2:Hid ds ((dp++[y])++dr):=hd2
  clear hkk hkd hkl hl0 hsn hlz
  repeat' first|refine G1 ?_|(refine G2 ?_ ?_<;>intro hc hd<;>try exact hd.elim)|fail
  exact NX [(0,.cells [.int .i64 0,.int .i64 0,.str [],.nils,.nils] 30 false),(6,.map (mF (cC [] (kp++[key]) (dp++[y]))))] fun a2 hF2=>⟨kp++[key],kr,dp++[y],dr,hk2,hd2,hkq,rfl,(hF2.q 20),rfl⟩
end
end Go.V
end
section
set_option maxHeartbeats 4000000
namespace Go.V
open Go Go.Proofs
attribute [local irreducible] W bO WD aO yl aS bW
section
variable (Γ:Glo Tryz.prog)
attribute [local simp] veq bP ei V.del
theorem uF {k:Str}{x:Doc}:∀{f:Flds},k∉f.map (·.1)→aq k x f=f++[(k,x)]
 |[],_=>rfl
 |(a,b)::f,h=>by
  rw[aq,if_neg (fun e=>h (by simp[e])),uF (f:=f) (fun e=>h (by simp at e ⊢;exact .inr e))]
  rfl
theorem rF:∀(S g:Flds),bl (g++S)→cC g (S.map (·.1)) (S.map (·.2))=g++S
 |[],g,_=>by simp[cC]
 |(k,x)::S,g,h=>by
  rw[List.map_cons,List.map_cons,cC]
  have hk:k∉g.map (·.1):=by
   unfold bl at h
   rw[List.map_append,List.map_cons,List.nodup_append] at h
   intro hm
   exact h.2.2 k hm k (by simp) rfl
  rw[uF hk,rF S _ (by simpa using h)]
  simp
theorem rK:∀{S:Flds},lC S→bz S=S
 |[],_=>rfl
 |p::S,h=>by
  unfold lC at h
  rw[List.pairwise_cons] at h
  rw[bz,rK (S:=S) h.2]
  cases S with
  |nil=>rfl
  |cons q r=>rw[kz,if_pos (h.1 q (by simp))]
theorem wm:∀f:Flds,dD (f.map (·.1))+wDs (f.map (·.2))=wF f
 |[]=>rfl
 |(n,x)::f=>by
  rw[List.map_cons,List.map_cons,dD,wDs,wF]
  have:=wm f
  simp only
  omega
theorem wi (p:Str×Doc):∀f:Flds,wF (kz p f)=p.1.length+1+wD p.2+wF f
 |[]=>by obtain⟨a,b⟩:=p;simp[kz,wF]
 |(n,x)::f=>by
  rw[kz]
  split
  ·
   obtain⟨a,b⟩:=p;simp only[wF]
  ·
   simp only[wF];rw[wi p f];omega
theorem ub:∀f:Flds,wF (bz f)=wF f
 |[]=>rfl
 |(n,x)::f=>by rw[bz,wi,ub f];simp only[wF]
theorem f202 (S:Flds)(hs:lC S)(hb:wF S<100000000000):PureOk Tryz.prog Γ 202 [sls aW (S.map (·.1)),sls aH (S.map (·.2))] (.ag (aH (.mk 1 0 [] (S.map (·.1)) (S.map (·.2))))):=by
 have h:=(f202g Γ (S.map (·.1)) (S.map (·.2)) (by simp) (by rw[wm];exact hb)).wk (AH _)
 rw[rF S [] (by exact ma hs)] at h
 rw[List.nil_append,rK hs] at h
 exact h
theorem f134 (f:Flds)(hn:bl f)(hb:wF f<100000000000):CallOk Tryz.prog Γ 134 [.mp 0] [(0,.map (mF f))] 1 true (.ag (aH (ar f))) [(0,.map (mF f))] 1:=by
 have j1:=(f201 Γ f).ren [0] 3 rfl (by simp[cm,aa,aR]) (by simp) (by simp)
 simp[bF,b9,bu,au,tau] at j1
 have j2:=(f200a Γ f hn hb).ren [0,3] 4 rfl (by simp[cm,fU,aa,aR]) (by simp) (by simp)
 simp[bF,b9,bu,au,tau] at j2
 have k202:=f202 Γ (bz f) (fN hn) (by rw[ub];exact hb)
 have hS:∀p∈bz f,bD p.1 f=some p.2:=fun p hp=>gc hn (gK.1 hp)
 have hlS:(bz f).length<100000000000:=by rw[je];have:=qA f;omega
 unfold ar
 refine lj Tryz.func134 rfl (by simp[Tryz.f134]) (by omega) (by simp[aR]) (by simp[bc]) ?_
 intro a hl ha
 replace hl:a.length=26:=hl
 have g0:=ha 0 _ rfl
 clear ha hn hb
 generalize bz f=S at *
 repeat' first|refine G1 ?_|(refine G2 ?_ ?_<;>intro hc hd<;>try exact hd.elim)|fail
 refine av j1 ?_
 repeat' first|refine G1 ?_|(refine G2 ?_ ?_<;>intro hc hd<;>try exact hd.elim)|fail
 refine av j2 ?_
 repeat' first|refine G1 ?_|(refine G2 ?_ ?_<;>intro hc hd<;>try exact hd.elim)|fail
 clear j1 j2
 refine jh (h':=[(0,.map (mF f)),(1,.cells [.int .i64 0,.int .i64 0,.str [],.nils,.nils] 30 false)]) (by (repeat (first|exact aU|refine aP (by simp[V.get, *]) ?_))) ?_
 refine oU [(6,6),(13,22)] [12,4] 40 (fun k a h=>∃pre rest,S=pre++rest∧k=rest.length∧lk a 12=some (.int .i64 pre.length)∧lk a 4=some (gV 39 (pre.map (·.2)))∧h=gH aH 39 30 (pre.map (·.2))++[(0,.map (mF f)),(1,.cells [.int .i64 0,.int .i64 0,.str [],.nils,.nils] 30 false)]) (by omega) ⟨[],S,rfl,rfl,by simp[*],by simp[*,gV],rfl⟩ ?_
 intro a1 hk hk0 k a h hF hI
 replace g0:=hF.a hk 0
 replace g2:=hF.a hk 2
 replace g3:=hF.a hk 3
 replace g10:=hF.a hk 10
 replace g11:=hF.a hk 11
 replace hl:a.length=26:=hF.len.trans (hk0.trans (by simp[*]))
 clear hk hk0
 obtain⟨pre,rest,hl1,rfl,h12,h4,rfl⟩:=hI
 cases rest with
 |nil=>
  simp only[List.append_nil] at hl1
  subst hl1
  clear hS
  simp only[sls,List.length_map] at k202
  rcases eO aH 5 jN fh lV 39 30 (List.map (fun x:Str×Doc=>x.2) S) with ⟨hp0,e1,e2,e3⟩|⟨n,cs,hn,hcs,e1,e2,e3,c1,c2,c3⟩<;>rw[e1] at h4<;>rw[e2]<;>simp only[List.cons_append,List.nil_append]
  ·
   have hwk:Wk .nils (.sl (row aH (List.map (fun x:Str×Doc=>x.2) S)) S.length none):=by
    have h0:S.length=0:=by simpa using congrArg List.length hp0
    rw[hp0,h0];exact Wk.nils
   have k3:=k202.arg (vs:=[.sl (row aW (S.map (·.1))) S.length none,.nils]) ⟨Wk.refl _,hwk,trivial⟩
   clear k202 e1 e2 e3
   repeat' first|refine G1 ?_|(refine G2 ?_ ?_<;>intro hc hd<;>try exact hd.elim)|fail
   refine aC k3 ?_
   repeat' first|refine G1 ?_|(refine G2 ?_ ?_<;>intro hc hd<;>try exact hd.elim)|fail
   exact⟨by simp,by simp[Tryz.f134,V.get, *],by (repeat (first|exact aU|refine aP (by simp[V.get, *]) ?_))⟩
  ·
   rw[show Val.sl (row aH (List.map (·.2) S)) S.length none=.sl cs n none by rw[show n=_ from hn,show cs=_ from hcs];simp] at k202
   have k3:=CallOk.freeze 43 k202 (vs:=[.sl (row aW (S.map (·.1))) S.length none,.so 39 0 n none]) (hs:=[(39,.cells cs 30 true)]) (n:=cs.length+10) (aI (aG (by simp[Val.closed])) (aI (dC rfl (by rw[AL];omega) c2 (by omega)) bR))
   clear k202 e1 e2 e3 hn hcs
   have hlo:=fun N=>aD (N:=N) _ c2
   repeat' first|refine G1 ?_|(refine G2 ?_ ?_<;>intro hc hd<;>try exact hd.elim)|fail
   refine av k3 ?_
   repeat' first|refine G1 ?_|(refine G2 ?_ ?_<;>intro hc hd<;>try exact hd.elim)|fail
   exact⟨by simp,by simp[Tryz.f134,V.get, *],by (repeat (first|exact aU|refine aP (by simp[V.get, *]) ?_))⟩
 |cons p r=>
  obtain⟨key,y⟩:=p
  have hlt:(pre.length:Int)<S.length:=by rw[hl1];simp<;>omega
  have hltN:pre.length<S.length:=by omega
  have hle:pre.length≤S.length:=by omega
  have hw:=ad ((pre.length:Int)+1) (by omega) (by omega)
  have hln:pre.length<100000000000:=by omega
  have hlk:∀h:Heap,V.get h 0=some (.map (mF f))→i7 Tryz.prog 203 h (.mp 0) (.str key) false=some (.ag (aH y)):=fun h hg=>by
   rw[eV bY hg key false]
   unfold cG
   rw[hS (key,y) (by simp[hl1])]
   rfl
  obtain⟨K,hK⟩:∃K,K=row aW (List.map (fun x=>x.1) S):=⟨_,rfl⟩
  rw[←hK] at g10
  have hKl:K.length=S.length:=by rw[hK];simp
  have hrk:K.drop pre.length=.str key::row aW (List.map (fun x=>x.1) r):=by
   have:=fH (List.map (fun x:Str×Doc=>x.1) pre) (List.map (fun x:Str×Doc=>x.1) r) key
   rw[List.length_map] at this
   rw[hK,hl1,List.map_append,List.map_cons]
   exact this
  have hk0:K[pre.length]?=some (.str key):=by
   have h:=congrArg (fun l:List Val=>l[0]?) hrk
   simpa using h
  have hleK:pre.length≤K.length:=by omega
  have hl2:S=(pre++[(key,y)])++r:=by rw[hl1];simp
  replace hl2:Hid S ((pre++[(key,y)])++r):=hl2
  have hsn1:=oK 39 (List.map (fun x:Str×Doc=>x.2) pre) y
  have hsn2:=jT aH 39 30 (List.map (fun x:Str×Doc=>x.2) pre) y
  have hmp:List.map (fun x:Str×Doc=>x.2) (pre++[(key,y)])=List.map (fun x:Str×Doc=>x.2) pre++[y]:=by simp
  have hlm:(List.map (fun x:Str×Doc=>x.2) pre).length=pre.length:=by simp
  clear hS hK hl1 hKl hrk k202
  generalize List.map (fun x:Str×Doc=>x.2) pre=ys at *
  rw[←hmp] at hsn1 hsn2
  replace hsn1:Hid (gV 39 (List.map (fun x:Str×Doc=>x.2) (pre++[(key,y)]))) _:=hsn1
  replace hsn2:Hid (gH aH 39 30 (List.map (fun x:Str×Doc=>x.2) (pre++[(key,y)]))) _:=hsn2
  clear hmp
  rcases eO aH 5 jN fh lV 39 30 ys with ⟨rfl,e1,e2,e3⟩|⟨n,cs,hn,hcs,e1,e2,e3,c1,c2,c3⟩<;>rw[e1] at h4<;>rw[e2]<;>simp only[List.cons_append,List.nil_append]
  ·
   clear hlm e1 e2 e3
   repeat' first|refine G1 ?_|(refine G2 ?_ ?_<;>intro hc hd<;>try exact hd.elim)|fail
   exact⟨(by (repeat refine Frm.set ?_ rfl);exact hF),[(49,39)],[(49,.cells (aH y) 30 true),(0,.map (mF f)),(1,.cells [.int .i64 0,.int .i64 0,.str [],.nils,.nils] 30 false)],(by (repeat (first|exact aU|refine aP (by simp[V.get, *]) ?_))),(by simp),(by simp),(by simp[*,aR,aa,aD]),(by simp[*,bc,cz,aR,aa,aD]),_,rfl,fun a2 hF2 hL2=>⟨pre++[(key,y)],r,hl2,rfl,((hL2 12 (by simp)).trans (by simp[*]<;>omega)),(hL2 4 (by simp)).trans (by rw[show gV 39 (List.map (fun x:Str×Doc=>x.2) (pre++[(key,y)]))=_ from hsn1];simp[*]),by rw[show gH aH 39 30 (List.map (fun x:Str×Doc=>x.2) (pre++[(key,y)]))=_ from hsn2];simp[bF,b9,bu,au,ig,aJ]⟩⟩
  ·
   have z1:¬(n+1)*5≤n*5:=by omega
   have z2:(n+1)*80≤140737488355328:=by have:n=ys.length:=hn;omega
   have hta:List.take (n*5) cs=cs:=List.take_of_length_le (by omega)
   have hlo:=fun N=>aD (N:=N) _ c2
   have hcs':row aH ys=cs:=hcs.symm
   have hn':ys.length=n:=hn.symm
   rw[hcs'] at hsn2
   rw[hn'] at hsn1
   clear e1 e2 e3 hn hcs hn' hcs' hlm
   repeat' first|refine G1 ?_|(refine G2 ?_ ?_<;>intro hc hd<;>try exact hd.elim)|fail
   exact⟨(by (repeat refine Frm.set ?_ rfl);exact hF),[(49,39)],[(49,.cells (cs++aH y) 30 true),(0,.map (mF f)),(1,.cells [.int .i64 0,.int .i64 0,.str [],.nils,.nils] 30 false)],(by (repeat (first|exact aU|refine aP (by simp[V.get, *]) ?_))),(by simp),(by simp),(by simp[*,aR,aa,aD]),(by simp[*,bc,cz,aR,aa,aD]),_,rfl,fun a2 hF2 hL2=>⟨pre++[(key,y)],r,hl2,rfl,((hL2 12 (by simp)).trans (by simp[*]<;>omega)),(hL2 4 (by simp)).trans (by rw[show gV 39 (List.map (fun x:Str×Doc=>x.2) (pre++[(key,y)]))=_ from hsn1];simp[*]),by rw[show gH aH 39 30 (List.map (fun x:Str×Doc=>x.2) (pre++[(key,y)]))=_ from hsn2];simp[bF,b9,bu,au,ig,aJ,c2]⟩⟩
end
end Go.V
end
section
set_option maxHeartbeats 4000000
namespace Go.V
open Go Go.Proofs
attribute [local irreducible] W bO WD aO yl aS bW
section
variable (Γ:Glo Tryz.prog)
attribute [local simp] veq bP ei V.del
def cW (e:Int)(bk:Bool)(w:Wlk):List Val:=[.int .i64 e,.bool bk,sls ac w.res,gR ac w.needs,.int .i64 w.err]
def plV (st:List Int)(ks:List Str):Val:=.ag [sls bv st,sls aW ks]
theorem eS (e:Int)(bk:Bool)(w:Wlk):aE (cW e bk w)=true:=by
 unfold cW
 have:(gR ac w.needs).closed=true:=by cases w.needs<;>simp[gR,Val.closed,sls]
 simp[aE,Val.closed,this]
def Mth (n:FuncId)(e:Int)(bk:Bool)(s:Lns)(st:List Int)(ks:List Str)(w:Wlk)(f:Flds)(w':Wlk)(f':Flds):Prop:=
 CallOk Tryz.prog Γ n [.pr 1 0,.mp 0,.ag (aK s),plV st ks] [(0,.map (mF f)),(1,.cells (cW e bk w) 135 false)] 2 true (.tp []) [(0,.map (mF f')),(1,.cells (cW e bk w') 135 false)] 2
theorem Bu (h:Heap)(i:Nat):bG Tryz.prog 28 1 [(0,.ag [.int .i64 0,.int .i64 0,.str [],.nils,.nils])] h i=some (.so i 0 1 (some 1),V.put h i (.cells [.int .i64 0,.int .i64 0,.str [],.nils,.nils] 30 false)):=by kernel_rfl
theorem f190 (e:Int)(bk:Bool)(s:Lns)(st:List Int)(ks:List Str)(w:Wlk)(f:Flds):Mth Γ 190 e bk s st ks w f w (gf s.a s.b f):=by
 have k1:=(f265s Γ s.a s.b f).ren [0] 10 rfl (by simp[cm,aa,aR]) (by simp) (by simp)
 simp[bF,b9,bu,au,tau] at k1
 have hcl:=eS e bk w
 unfold Mth plV
 generalize cW e bk w=W0 at *
 have hlo:=fun N=>aD (N:=N) _ hcl
 refine J4 15 Tryz.func190 rfl rfl fun a hl g0 g1 g2 g3=>?_
 repeat' first|refine G1 ?_|(refine G2 ?_ ?_<;>intro hc hd<;>try exact hd.elim)|fail
 refine av k1 ?_
 repeat' first|refine G1 ?_|(refine G2 ?_ ?_<;>intro hc hd<;>try exact hd.elim)|fail
 exact⟨by simp,by simp[Tryz.f190, *],by (repeat (first|exact aU|refine aP (by simp[V.get, *]) ?_))⟩
theorem kj {a b:Str}{f g:Flds}(hf:bl f)(hg:bl g):bl (fX a b f g).1∧bl (fX a b f g).2:=by
 unfold fX
 cases bD a f with
 |none=>exact⟨hf,hg⟩
 |some x=>exact⟨fc _ hf,bK _ _ hg⟩
theorem zb (n:Str):∀f:Flds,wF (dY n f)≤wF f
 |[]=>Nat.le_refl _
 |(k,d)::f=>by
  rw[dY]
  split
  ·
   simp only[wF];omega
  ·
   simp only[wF];have:=zb n f;omega
theorem vS {n:Str}{x:Doc}{f:Flds}(h:bD n f=some x):n.length+1+wD x≤wF f:=by
 induction f with
 |nil=>cases h
 |cons p f ih=>
  obtain⟨k,d⟩:=p
  rw[bD] at h
  split at h
  ·
   rename_i e;subst e;cases h;simp only[wF];omega
  ·
   have:=ih h;simp only[wF];omega
theorem ua (a:Str)(f g:Flds):wF (fX a a f g).1≤wF f∧wF (fX a a f g).2≤wF f+wF g:=by
 unfold fX
 cases h:bD a f with
 |none=>exact⟨Nat.le_refl _,by simp only;omega⟩
 |some x=>
  have:=vS h
  have:=vT a x g
  exact⟨zb a f,by simp only;omega⟩
theorem ku (a:Str)(f:Flds):wD (bf a f)≤wF f+1:=by
 unfold bf
 cases h:bD a f with
 |none=>show wD zeroDoc≤_;simp[zeroDoc,wD,dD,wDs]
 |some x=>have:=vS h;simp only[Option.getD_some];omega
theorem zd {d:Doc}(hk:d.keys.length≤d.kids.length):wF (ofD d)≤wD d:=by
 have h:=nO d.keys (d.kids.take d.keys.length) [] (by simp;omega)
 have e:cC [] d.keys d.kids=cC [] d.keys (d.kids.take d.keys.length):=by
  conv=>lhs;rw[←List.take_append_drop d.keys.length d.kids]
  exact kI _ _ _ _ (by simp;omega)
 have h2:∀(n:Nat) (l:List Doc),wDs (l.take n)≤wDs l:=by
  intro n l
  induction l generalizing n with
  |nil=>simp[wDs]
  |cons x l ih=>
   cases n with
   |zero=>simp[wDs]
   |succ n=>rw[List.take_succ_cons,wDs,wDs];have:=ih n;omega
 unfold ofD
 rw[e]
 have:=h2 d.keys.length d.kids
 rw[im]
 simp only[wF] at h
 omega
theorem sK (d:Doc):okK d=true↔d.keys.length≤d.kids.length:=by unfold okK;exact decide_eq_true_iff
theorem f193 (e:Int)(bk:Bool)(s:Lns)(st:List Int)(ks:List Str)(w:Wlk)(f:Flds)(hn:bl f)(hb:wF f<10000000000)(ho:okK (bf s.a f)=true) :
  Mth Γ 193 e bk s st ks w f w (aq s.a (ar (fX s.b s.b (ofD (bf s.a f)) f).1) (fX s.b s.b (ofD (bf s.a f)) f).2):=by
 have hk:=(sK _).1 ho
 have hwx:=ku s.a f
 have k0:=(f130 Γ (bf s.a f) (by unfold big;omega) hk).arg Γ (vs:=[.ag (cG s.a f)]) ⟨mJ s.a f,trivial⟩
 have hwo:=zd hk
 have hno:=cj (bf s.a f)
 generalize bf s.a f=x at *
 generalize ofD x=g at *
 have hm:=kj (a:=s.b) (b:=s.b) hno hn
 have hwm:=ua s.b g f
 have k1:=f265d Γ s.b s.b g f
 generalize fX s.b s.b g f=r at *
 obtain⟨r1,r2⟩:=r
 have k2:=f134 Γ r1 hm.1 (by simp only at hwm;omega)
 replace k0:=k0.ren [] 8 rfl (by simp[cm,aa,aR,aD,eJ]) (by simp) (by simp)
 simp[bF,b9,bu,au,tau,aJ,eJ] at k0
 replace k1:=k1.ren [8,0] 16 rfl (by simp[cm,aa,aR]) (by simp) (by simp)
 simp[bF,b9,bu,au,tau] at k1
 replace k2:=k2.ren [8] 16 rfl (by simp[cm,aa,aR]) (by simp) (by simp)
 simp[bF,b9,bu,au,tau,aJ] at k2
 have hcl:=eS e bk w
 unfold Mth plV
 generalize cW e bk w=W0 at *
 have hlo:=fun N=>aD (N:=N) _ hcl
 have hu:=fun(h:Heap) (hg:V.get h 0=some (.map (mF r2)))=>dg bY hg s.a (ar r1)
 clear hn hb ho hk hwx hwo hno hm hwm
 refine J4 26 Tryz.func193 rfl rfl fun a hl g0 g1 g2 g3=>?_
 repeat' first|refine G1 ?_|(refine G2 ?_ ?_<;>intro hc hd<;>try exact hd.elim)|fail
 refine av k0 ?_
 repeat' first|refine G1 ?_|(refine G2 ?_ ?_<;>intro hc hd<;>try exact hd.elim)|fail
 refine av k1 ?_
 repeat' first|refine G1 ?_|(refine G2 ?_ ?_<;>intro hc hd<;>try exact hd.elim)|fail
 refine gz ?_ (by intro _ _ _ _ he hq;exact⟨hq.1,(by first|exact hq.2.1|simpa[Tryz.f193] using hq.2.1),fun i b hb=>(he i).trans (hq.2.2 i b hb)⟩)
 repeat' first|refine G1 ?_|(refine G2 ?_ ?_<;>intro hc hd<;>try exact hd.elim)|fail
 refine gp k2 ?_
 repeat' first|refine G1 ?_|(refine G2 ?_ ?_<;>intro hc hd<;>try exact hd.elim)|fail
 exact⟨by simp,by simp[Tryz.f193, *],by (repeat (first|exact aU|refine aP (by simp[V.get, *]) ?_))⟩
theorem f194 (e:Int)(bk:Bool)(s:Lns)(st:List Int)(ks:List Str)(w:Wlk)(f:Flds)(hn:bl f)(hb:wF f<10000000000)(ho:okK (bf s.a f)=true) :
  Mth Γ 194 e bk s st ks w f w (aq s.a (ar (fX s.b s.b f (ofD (bf s.a f))).2) (fX s.b s.b f (ofD (bf s.a f))).1):=by
 have hk:=(sK _).1 ho
 have hwx:=ku s.a f
 have k0:=(f130 Γ (bf s.a f) (by unfold big;omega) hk).arg Γ (vs:=[.ag (cG s.a f)]) ⟨mJ s.a f,trivial⟩
 have hwo:=zd hk
 have hno:=cj (bf s.a f)
 generalize bf s.a f=x at *
 generalize ofD x=g at *
 have hm:=kj (a:=s.b) (b:=s.b) hn hno
 have hwm:=ua s.b f g
 have k1:=f265d Γ s.b s.b f g
 generalize fX s.b s.b f g=r at *
 obtain⟨r1,r2⟩:=r
 have k2:=f134 Γ r2 hm.2 (by simp only at hwm;omega)
 replace k0:=k0.ren [] 8 rfl (by simp[cm,aa,aR,aD,eJ]) (by simp) (by simp)
 simp[bF,b9,bu,au,tau,aJ,eJ] at k0
 replace k1:=k1.ren [0,8] 16 rfl (by simp[cm,aa,aR]) (by simp) (by simp)
 simp[bF,b9,bu,au,tau] at k1
 replace k2:=k2.ren [8] 16 rfl (by simp[cm,aa,aR]) (by simp) (by simp)
 simp[bF,b9,bu,au,tau,aJ] at k2
 have hcl:=eS e bk w
 unfold Mth plV
 generalize cW e bk w=W0 at *
 have hlo:=fun N=>aD (N:=N) _ hcl
 have hu:=fun(h:Heap) (hg:V.get h 0=some (.map (mF r1)))=>dg bY hg s.a (ar r2)
 clear hn hb ho hk hwx hwo hno hm hwm
 refine J4 26 Tryz.func194 rfl rfl fun a hl g0 g1 g2 g3=>?_
 repeat' first|refine G1 ?_|(refine G2 ?_ ?_<;>intro hc hd<;>try exact hd.elim)|fail
 refine av k0 ?_
 repeat' first|refine G1 ?_|(refine G2 ?_ ?_<;>intro hc hd<;>try exact hd.elim)|fail
 refine av k1 ?_
 repeat' first|refine G1 ?_|(refine G2 ?_ ?_<;>intro hc hd<;>try exact hd.elim)|fail
 refine gz ?_ (by intro _ _ _ _ he hq;exact⟨hq.1,(by first|exact hq.2.1|simpa[Tryz.f194] using hq.2.1),fun i b hb=>(he i).trans (hq.2.2 i b hb)⟩)
 repeat' first|refine G1 ?_|(refine G2 ?_ ?_<;>intro hc hd<;>try exact hd.elim)|fail
 refine gp k2 ?_
 repeat' first|refine G1 ?_|(refine G2 ?_ ?_<;>intro hc hd<;>try exact hd.elim)|fail
 exact⟨by simp,by simp[Tryz.f194, *],by (repeat (first|exact aU|refine aP (by simp[V.get, *]) ?_))⟩
theorem f195 (e:Int)(bk:Bool)(s:Lns)(st:List Int)(ks:List Str)(w:Wlk)(f:Flds)(hb:wF f<10000000000) :
  Mth Γ 195 e bk s st ks w f w (aq s.a (.mk 3 0 [] [] [bf s.a f]) f):=by
 have hwx:=ku s.a f
 have k0:=(f266 Γ [bf s.a f] (by unfold big;simp[wDs];omega)).arg (vs:=[.sl (cG s.a f) 1 (some 1)]) ⟨fun F ρ x h=>by
  have h1:=Wk.cap _ _ _ F ρ x h
  cases hm:bD s.a f with
  |none=>
   have e1:cG s.a f=zDoc:=by unfold cG;rw[hm]
   have e2:bf s.a f=zeroDoc:=by unfold bf;rw[hm];rfl
   rw[e1] at h1;rw[e2]
   exact Wk.sl (us:=zDoc) (vs:=row aH [zeroDoc]) ⟨Wk.refl _,Wk.refl _,Wk.refl _,Wk.nils,Wk.nils,trivial⟩ F ρ x h1
  |some x0=>
   have e1:cG s.a f=aH x0:=by unfold cG;rw[hm]
   have e2:bf s.a f=x0:=by unfold bf;rw[hm];rfl
   rw[e1] at h1;rw[e2]
   unfold sls
   rw[bt,eG,List.append_nil]
   exact h1,trivial⟩
 have hcx:=eJ s.a f
 have hlx:=qt s.a f
 have hbs:∀(h:Heap) (i:Nat),bG Tryz.prog 28 1 [(0,.ag (cG s.a f))] h i=some (.so i 0 1 (some 1),V.put h i (.cells (cG s.a f) 30 false)):=fun h i=>by
  cases hm:bD s.a f with
  |none=>
   have e1:cG s.a f=[.int .i64 0,.int .i64 0,.str [],.nils,.nils]:=by unfold cG;rw[hm];rfl
   rw[e1];exact Bu h i
  |some x0=>
   have e1:cG s.a f=aH x0:=by unfold cG;rw[hm]
   rw[e1];exact Bt h i x0
 have hu:=fun(h:Heap) (hg:V.get h 0=some (.map (mF f)))=>dg bY hg s.a (.mk 3 0 [] [] [bf s.a f])
 have hlk:=fun(h:Heap) (hg:V.get h 0=some (.map (mF f)))=>eV bY hg s.a false
 simp only[if_false,Bool.false_eq_true] at hlk
 generalize bf s.a f=x at *
 generalize cG s.a f=cx at *
 have hlox:=fun N=>aD (N:=N) _ hcx
 have hcl:=eS e bk w
 unfold Mth plV
 generalize cW e bk w=W0 at *
 have hlo:=fun N=>aD (N:=N) _ hcl
 clear hwx hb
 refine J4 17 Tryz.func195 rfl rfl fun a hl g0 g1 g2 g3=>?_
 repeat' first|refine G1 ?_|(refine G2 ?_ ?_<;>intro hc hd<;>try exact hd.elim)|fail
 refine gz ?_ (by intro _ _ _ _ he hq;exact⟨hq.1,(by first|exact hq.2.1|simpa[Tryz.f195] using hq.2.1),fun i b hb=>(he i).trans (hq.2.2 i b hb)⟩)
 repeat' first|refine G1 ?_|(refine G2 ?_ ?_<;>intro hc hd<;>try exact hd.elim)|fail
 have k1:=CallOk.freeze 5 k0 (vs:=[.so 4 0 1 (some 1)]) (hs:=[(4,.cells cx 30 false)]) (n:=20) (aI (dC rfl (by rw[AL,hlx]) hcx (by omega)) bR)
 refine cI k1 ?_
 repeat' first|refine G1 ?_|(refine G2 ?_ ?_<;>intro hc hd<;>try exact hd.elim)|fail
 exact⟨by simp,by simp[Tryz.f195, *],by (repeat (first|exact aU|refine aP (by simp[V.get, *]) ?_))⟩
theorem fB {n:Str}{f:Flds}{x:Doc}(h:bD n f=some x):cG n f=aH x∧bf n f=x:=by
 unfold cG bf
 rw[h]
 exact⟨rfl,rfl⟩
theorem qy {n:Str}{f:Flds}{y:Doc}{r:List Doc}(h:(bf n f).kids=y::r):∃x,bD n f=some x∧x.kids=y::r:=by
 unfold bf at h
 cases hm:bD n f with
 |none=>rw[hm] at h;cases h
 |some x=>rw[hm] at h;exact⟨x,rfl,h⟩
theorem f196 (e:Int)(bk:Bool)(s:Lns)(st:List Int)(ks:List Str)(w:Wlk)(f:Flds)(y:Doc)(r:List Doc)(hy:(bf s.a f).kids=y::r) :
  Mth Γ 196 e bk s st ks w f w (aq s.a y f):=by
 obtain⟨x,hm,hx⟩:=qy hy
 have hc:=(fB hm).1
 have hu:=fun(h:Heap) (hg:V.get h 0=some (.map (mF f)))=>dg bY hg s.a y
 have hlk:=fun(h:Heap) (hg:V.get h 0=some (.map (mF f)))=>eV bY hg s.a false
 simp only[if_false,Bool.false_eq_true,hc] at hlk
 have hd5:List.take 5 (aH y++row aH r)=aH y:=List.take_left' (bS y)
 rw[db,hx] at hlk
 unfold sls at hlk
 rw[bt,List.length_cons] at hlk
 have hlt:(0:Int)<r.length+1:=by omega
 have hcl:=eS e bk w
 unfold Mth plV
 generalize cW e bk w=W0 at *
 have hlo:=fun N=>aD (N:=N) _ hcl
 clear hy hm hx hc
 refine J4 18 Tryz.func196 rfl rfl fun a hl g0 g1 g2 g3=>?_
 repeat' first|refine G1 ?_|(refine G2 ?_ ?_<;>intro hc hd<;>try exact hd.elim)|fail
 refine gz ?_ (by intro _ _ _ _ he hq;exact⟨hq.1,(by first|exact hq.2.1|simpa[Tryz.f196] using hq.2.1),fun i b hb=>(he i).trans (hq.2.2 i b hb)⟩)
 repeat' first|refine G1 ?_|(refine G2 ?_ ?_<;>intro hc hd<;>try exact hd.elim)|fail
 exact⟨by simp,by simp[Tryz.f196, *],by (repeat (first|exact aU|refine aP (by simp[V.get, *]) ?_))⟩
theorem f197 (e:Int)(bk:Bool)(s:Lns)(st:List Int)(ks:List Str)(w:Wlk)(f:Flds)(hb:s.swaps.length<big) :
  Mth Γ 197 e bk s st ks w f w (aq s.a (.mk 4 (el (bf s.a f).num s.swaps) [] [] []) f):=by
 have k1:=f267 Γ (bf s.a f).num s.swaps hb
 have k2:=f249 Γ (el (bf s.a f).num s.swaps)
 have hu:=fun(h:Heap) (hg:V.get h 0=some (.map (mF f)))=>dg bY hg s.a (.mk 4 (el (bf s.a f).num s.swaps) [] [] [])
 have hlk:∀h:Heap,V.get h 0=some (.map (mF f))→∃q1 q2 q3 q4,i7 Tryz.prog 203 h (.mp 0) (.str s.a) false=some (.ag [q1,.int .i64 (bf s.a f).num,q2,q3,q4]):=fun h hg=>by
  rw[eV bY hg s.a false]
  cases hm:bD s.a f with
  |none=>exact⟨_,_,_,_,by unfold cG bf;rw[hm];rfl⟩
  |some x=>exact⟨_,_,_,_,by rw[(fB hm).1,(fB hm).2,db];rfl⟩
 have hlk2:∃q1 q2 q3 q4,∀h:Heap,V.get h 0=some (.map (mF f))→i7 Tryz.prog 203 h (.mp 0) (.str s.a) false=some (.ag [q1,.int .i64 (bf s.a f).num,q2,q3,q4]):=by
  cases hm:bD s.a f with
  |none=>exact⟨_,_,_,_,fun h hg=>by rw[eV bY hg s.a false];unfold cG bf;rw[hm];rfl⟩
  |some x=>exact⟨_,_,_,_,fun h hg=>by rw[eV bY hg s.a false];rw[(fB hm).1,(fB hm).2,db];rfl⟩
 obtain⟨q1,q2,q3,q4,hlk3⟩:=hlk2
 clear hlk
 generalize el (bf s.a f).num s.swaps=m at *
 generalize (bf s.a f).num=n at *
 have hcl:=eS e bk w
 unfold Mth plV
 generalize cW e bk w=W0 at *
 have hlo:=fun N=>aD (N:=N) _ hcl
 refine J4 20 Tryz.func197 rfl rfl fun a hl g0 g1 g2 g3=>?_
 repeat' first|refine G1 ?_|(refine G2 ?_ ?_<;>intro hc hd<;>try exact hd.elim)|fail
 refine gz ?_ (by intro _ _ _ _ he hq;exact⟨hq.1,(by first|exact hq.2.1|simpa[Tryz.f197] using hq.2.1),fun i b hb=>(he i).trans (hq.2.2 i b hb)⟩)
 repeat' first|refine G1 ?_|(refine G2 ?_ ?_<;>intro hc hd<;>try exact hd.elim)|fail
 refine aQ k1 ?_
 repeat' first|refine G1 ?_|(refine G2 ?_ ?_<;>intro hc hd<;>try exact hd.elim)|fail
 refine aQ k2 ?_
 repeat' first|refine G1 ?_|(refine G2 ?_ ?_<;>intro hc hd<;>try exact hd.elim)|fail
 exact⟨by simp,by simp[Tryz.f197, *],by (repeat (first|exact aU|refine aP (by simp[V.get, *]) ?_))⟩
end
end Go.V
end
section
set_option maxHeartbeats 4000000
namespace Go.V
open Go Go.Proofs
attribute [local irreducible] W bO WD aO yl aS bW
section
variable (Γ:Glo Tryz.prog)
attribute [local simp] veq bP ei V.del
theorem EM (e:Int)(c1 c2:List Val)(n1 n2:Nat)(k1 k2:Option Nat)(d0 d1 d2 d3 d4:Val):dB Tryz.prog 82 [(0,.int .i64 e),(1,.sl c1 n1 k1),(2,.sl c2 n2 k2),(3,.ag [d0,d1,d2,d3,d4])]=some [.int .i64 e,.sl c1 n1 k1,.sl c2 n2 k2,d0,d1,d2,d3,d4]:=by kernel_rfl
theorem EL (e:Int)(c1 c2:List Val)(n1 n2:Nat)(k1 k2:Option Nat)(c:List Val)(hc:c.length=5):dB Tryz.prog 82 [(0,.int .i64 e),(1,.sl c1 n1 k1),(2,.sl c2 n2 k2),(3,.ag c)]=some (.int .i64 e :: .sl c1 n1 k1 :: .sl c2 n2 k2::c):=by
 match c,hc with
 |[d0,d1,d2,d3,d4],_=>exact EM e c1 c2 n1 n2 k1 k2 d0 d1 d2 d3 d4
theorem xH (n:Str)(f:Flds):WkL (cG n f) (aH (bf n f)):=by
 unfold cG bf
 cases bD n f with
 |none=>rw[db];exact⟨Wk.refl _,Wk.refl _,Wk.refl _,Wk.nils,Wk.nils,trivial⟩
 |some x=>exact WkL.refl _
theorem f192 (X:XOk Γ)(e:Int)(bk:Bool)(s:Lns)(st:List Int)(ks:List Str)(w:Wlk)(f:Flds)(hb:wRs w.res+wF f<20000000000)(hst:st.length<1000000)(hks:ks.length<1000000) :
  Mth Γ 192 e bk s st ks w f (ga e st ks s.a w f).1 (ga e st ks s.a w f).2:=by
 unfold ga
 simp only
 have hwx:=ku s.a f
 have k1:=(f147 Γ X w.res ⟨e,st,ks,bf s.a f⟩ (by unfold big;omega) (by unfold wR big;simp only;omega)).arg (vs:=[sls ac w.res,.ag (.int .i64 e::sls bv st::sls aW ks::cG s.a f)]) ⟨Wk.refl _,Wk.ag ⟨Wk.refl _,Wk.refl _,Wk.refl _,xH s.a f⟩,trivial⟩
 have hcx:=eJ s.a f
 have hb82:=fun(c1 c2:List Val) (n1 n2:Nat) (k1 k2:Option Nat)=>EL e c1 c2 n1 n2 k1 k2 (cG s.a f) (qt s.a f)
 have hlk:=fun(h:Heap) (hg:V.get h 0=some (.map (mF f)))=>eV bY hg s.a false
 simp only[if_false,Bool.false_eq_true] at hlk
 have hdl:=fun(h:Heap) (hg:V.get h 0=some (.map (mF f)))=>pn bY hg s.a
 have hnd:(gR ac w.needs).closed=true:=by cases w.needs<;>simp[gR,Val.closed,sls]
 have hlo:∀N,aR N (gR ac w.needs)=true:=by intro N;cases w.needs<;>simp[gR,aR,sls]
 generalize j9 w.res ⟨e,st,ks,bf s.a f⟩=res2 at *
 generalize cG s.a f=cx at *
 unfold Mth plV cW
 generalize gR ac w.needs=nd at *
 clear hb hst hks hwx
 refine J4 32 Tryz.func192 rfl rfl fun a hl g0 g1 g2 g3=>?_
 repeat' first|refine G1 ?_|(refine G2 ?_ ?_<;>intro hc hd<;>try exact hd.elim)|fail
 refine aQ k1 ?_
 repeat' first|refine G1 ?_|(refine G2 ?_ ?_<;>intro hc hd<;>try exact hd.elim)|fail
 exact⟨by simp,by simp[Tryz.f192, *],by (repeat (first|exact aU|refine aP (by simp[V.get, *]) ?_))⟩
theorem A5 (x:Res)(l:List Res):gD x l≠[]:=by
 cases l with
 |nil=>simp[gD]
 |cons y r=>rw[gD];split<;>simp
theorem CJ (l:List Res)(x:Res):gR ac (j9 l x)=sls ac (j9 l x):=by
 unfold j9
 cases h:gD x (cu x.edge x.step x.at_ l) with
 |nil=>exact(A5 _ _ h).elim
 |cons y r=>rfl
theorem pO (n:Str)(x y:Doc):∀f:Flds,aq n x (aq n y f)=aq n x f
 |[]=>by simp[aq]
 |(k,d)::f=>by
  by_cases h:k=n
  ·
   simp[aq,h]
  ·
   simp[aq,h,pO n x y f]
theorem qp {e:Int}{st:List Int}{ks:List Str}:∀{pre:List Res}{x:Res}{r:List Res},(∀y∈pre,lA e st ks y=false)→lA e st ks x=true→jl e st ks (pre++x::r)=some x
 |[],x,r,_,h=>by simp[jl,h]
 |y::pre,x,r,h,hx=>by
  rw[List.cons_append,jl,if_neg (by rw[h y (by simp)];simp)]
  exact qp (fun z hz=>h z (by simp[hz])) hx
theorem tW {e:Int}{st:List Int}{ks:List Str}:∀{l:List Res},(∀y∈l,lA e st ks y=false)→jl e st ks l=none
 |[],_=>rfl
 |y::l,h=>by
  rw[jl,if_neg (by rw[h y (by simp)];simp)]
  exact tW fun z hz=>h z (by simp[hz])
theorem f191 (X:XOk Γ)(H:iO Γ)(e:Int)(bk:Bool)(s:Lns)(st:List Int)(ks:List Str)(w:Wlk)(f:Flds)(hb:wRs w.res+wRs w.needs+wF f<20000000000)(hs:wN s<40000000000)(hst:st.length<1000000)(hks:ks.length<1000000) :
  Mth Γ 191 e bk s st ks w f (jM e st ks s.a s.ty s.doc w f).1 (jM e st ks s.a s.ty s.doc w f).2:=by
 have hws:=eM s
 have h146:=f146 Γ w.res e st ks (by unfold big;omega) (by unfold big;omega) (by unfold big;omega)
 have h147:=(f147 Γ X w.needs ⟨e,st,ks,s.doc⟩ (by unfold big;omega) (by unfold wR big;simp only;omega)).arg (vs:=[gR ac w.needs,.ag (ac ⟨e,st,ks,s.doc⟩)]) ⟨qs ac _,Wk.refl _,trivial⟩
 have hpn:=CJ w.needs ⟨e,st,ks,s.doc⟩
 have hu1:=fun(h:Heap) (hg:V.get h 0=some (.map (mF f)))=>dg bY hg s.a s.doc
 have hnd:(gR ac w.needs).closed=true:=by cases w.needs<;>simp[gR,Val.closed,sls]
 have hlo:∀N,aR N (gR ac w.needs)=true:=by intro N;cases w.needs<;>simp[gR,aR,sls]
 have hcr:ac ⟨e,st,ks,s.doc⟩=.int .i64 e::sls bv st::sls aW ks::aH s.doc:=rfl
 rw[hcr] at h147
 by_cases hi:bg (lA e st ks) w.res 0=-1
 ·
  have hf:=tW (nC hi)
  unfold jM
  rw[hf]
  simp only
  rw[hi] at h146
  unfold Mth plV cW
  simp only
  rw[hpn]
  generalize j9 w.needs ⟨e,st,ks,s.doc⟩=nd2 at *
  generalize gR ac w.needs=nd at *
  clear hb hs hst hks hws hi hf hpn
  refine J4 86 Tryz.func191 rfl rfl fun a hl g0 g1 g2 g3=>?_
  repeat' first|refine G1 ?_|(refine G2 ?_ ?_<;>intro hc hd<;>try exact hd.elim)|fail
  refine aQ h146 ?_
  repeat' first|refine G1 ?_|(refine G2 ?_ ?_<;>intro hc hd<;>try exact hd.elim)|fail
  refine gz ?_ (by intro _ _ _ _ he hq;exact⟨hq.1,(by first|exact hq.2.1|simpa[Tryz.f191] using hq.2.1),fun i b hb=>(he i).trans (hq.2.2 i b hb)⟩)
  repeat' first|refine G1 ?_|(refine G2 ?_ ?_<;>intro hc hd<;>try exact hd.elim)|fail
  refine aQ h147 ?_
  repeat' first|refine G1 ?_|(refine G2 ?_ ?_<;>intro hc hd<;>try exact hd.elim)|fail
  exact⟨by simp,by simp[Tryz.f191, *],by (repeat (first|exact aU|refine aP (by simp[V.get, *]) ?_))⟩
 ·
  obtain⟨pre,x,r,hl0,hp1,hp2,hix⟩:=nD hi
  have hf:jl e st ks w.res=some x:=by rw[hl0];exact qp hp1 hp2
  have hxm:x∈w.res:=by rw[hl0];simp
  have hwx:=fQ hxm
  have h11:=H s.ty x.doc (by unfold big;omega) (by unfold big;omega)
  have h214:=f214 Γ w.res e st ks (by unfold big;omega) (by unfold big;omega) (by unfold big;omega)
  have hlen:(row ac w.res).length=w.res.length*8:=dv _
  have hlR:=iF w.res
  have hln:w.res.length=pre.length+(r.length+1):=by rw[hl0];simp
  have hrd:(row ac w.res).drop (pre.length*8)=ac x++row ac r:=by rw[hl0];exact rn pre r x
  rw[show ac x++row ac r=.int .i64 x.edge::sls bv x.step::sls aW x.at_::(aH x.doc++row ac r) by unfold ac;rfl] at hrd
  have hd5:List.take 5 (aH x.doc++row ac r)=aH x.doc:=List.take_left' (bS x.doc)
  have hlt:(pre.length:Int)<w.res.length:=by omega
  have hltN:pre.length<w.res.length:=by omega
  have hle:pre.length≤w.res.length:=by omega
  have hl8:pre.length*8≤w.res.length*8:=by omega
  have hge:(0:Int)≤pre.length:=by omega
  have hu2:=fun(h:Heap) (hg:V.get h 0=some (.map (mF (aq s.a s.doc f))))=>dg bY hg s.a x.doc
  simp only[pO] at hu2
  have hgm:bD s.a (aq s.a x.doc f)=some x.doc:=by rw[bE,if_pos rfl]
  have hlk:=fun(h:Heap) (hg:V.get h 0=some (.map (mF (aq s.a x.doc f))))=>eV bY hg s.a false
  rw[(fB hgm).1] at hlk
  simp only[if_false,Bool.false_eq_true] at hlk
  unfold jM
  rw[hf]
  simp only
  rw[hix,Nat.zero_add] at h146
  unfold Mth plV cW
  simp only
  rw[hpn]
  generalize j9 w.needs ⟨e,st,ks,s.doc⟩=nd2 at *
  generalize gR ac w.needs=nd at *
  generalize cu e st ks w.res=rs2 at *
  have hsr:sls ac w.res=.sl (row ac w.res) w.res.length none:=rfl
  rw[hsr] at h146 h214 ⊢
  have hcr2:=dz w.res
  generalize row ac w.res=R at *
  generalize w.res.length=RL at *
  clear hb hs hst hks hws hi hf hpn hl0 hp1 hp2 hix hxm hwx hlR hln hgm
  cases hv:cQ s.ty x.doc<;>rw[hv] at h11
  all_goals
   refine J4 86 Tryz.func191 rfl rfl fun a hl g0 g1 g2 g3=>?_
   repeat' first|refine G1 ?_|(refine G2 ?_ ?_<;>intro hc hd<;>try exact hd.elim)|fail
   refine aQ h146 ?_
   repeat' first|refine G1 ?_|(refine G2 ?_ ?_<;>intro hc hd<;>try exact hd.elim)|fail
   refine aC h11 ?_
   repeat' first|refine G1 ?_|(refine G2 ?_ ?_<;>intro hc hd<;>try exact hd.elim)|fail
   refine aQ h214 ?_
   repeat' first|refine G1 ?_|(refine G2 ?_ ?_<;>intro hc hd<;>try exact hd.elim)|fail
   refine gz ?_ (by intro _ _ _ _ he hq;exact⟨hq.1,(by first|exact hq.2.1|simpa[Tryz.f191] using hq.2.1),fun i b hb=>(he i).trans (hq.2.2 i b hb)⟩)
   repeat' first|refine G1 ?_|(refine G2 ?_ ?_<;>intro hc hd<;>try exact hd.elim)|fail
   refine aQ h147 ?_
   repeat' first|refine G1 ?_|(refine G2 ?_ ?_<;>intro hc hd<;>try exact hd.elim)|fail
   exact⟨by simp,by simp[Tryz.f191, *],by (repeat (first|exact aU|refine aP (by simp[V.get, *]) ?_))⟩
end
end Go.V
end
