/-
  A part of a proof: Z6 Z7 A4 A5 A6.
-/
import Derived.Test.YtkfjenbfbendhaaGreatDoorPk14
import Derived.Test.YtkfjenbfbendhaaGreatDoorPk15
import Derived.Test.YtkfjenbfbendhaaGreatDoorPk16
import Derived.Test.YtkfjenbfbendhaaGreatDoorPk21
import Derived.Test.YtkfjenbfbendhaaGreatDoorPk22
set_option linter.unusedSimpArgs false
set_option linter.unusedVariables false
section
set_option maxHeartbeats 4000000
namespace Go.V
open Go Go.Proofs
attribute [local irreducible] W bM WD aO yl aU bU
section
variable (Γ:Glo Tryz.prog)
attribute [local simp] veq bD eD V.del
theorem f201 (f:Flds):CallOk Tryz.prog Γ 201 [.mp 0] [(0,.map (mF f))] 1 true (.fn 271 [] [.pr 1 0]) [(0,.map (mF f)),(1,.cells [.mp 0] 203 false)] 2:=by
 refine Z1 4 Tryz.func201 rfl rfl fun a hl g0=>?_
 refine GG ?_;exact⟨by simp,by simp[Tryz.f201, *],fun _ _ h=>h⟩
theorem f272 (f:Flds):CallOk Tryz.prog Γ 272 [.mp 0] [(0,.map (mF f))] 1 true (.fn 314 [] [.pr 1 0]) [(0,.map (mF f)),(1,.cells [.mp 0] 202 false)] 2:=by
 refine Z1 4 Tryz.func272 rfl rfl fun a hl g0=>?_
 refine GG ?_;exact⟨by simp,by simp[Tryz.f272, *],fun _ _ h=>h⟩
theorem Jp (n:Int):cU Tryz.prog 30 [(0,.int .i64 n)]=some [.int .i64 n,.int .i64 0,.str [],.nils,.nils]:=by kernel_rfl
attribute [local simp] Jp
theorem zJ (n:Str)(x:Doc):∀f:Flds,wF (ar n x f)≤wF f+n.length+1+wD x
 |[]=>by simp[ar,wF]
 |(k,d)::f=>by
  rw[ar];split
  ·rename_i h;subst h;simp only[wF];omega
  ·simp only[wF];have:=zJ n x f;omega
theorem pQ:∀(ks:List Str)(ds:List Doc)(f:Flds),ks.length=ds.length→wF (cT f ks ds)≤wF f+cw ks+wDs ds
 |[],[],f,_=>by simp[cT,cw,wDs]
 |[],_::_,_,h=>by simp at h
 |_::_,[],_,h=>by simp at h
 |a::kp,b::dp,f,h=>by rw[cT,cw,wDs];have:=pQ kp dp (ar a b f) (by simpa using h);have:=zJ a b f;omega
theorem E5 {f:Flds}{p:Str×Doc}(h:p∈f):wD p.2<wF f:=by
 induction f with
 |nil=>cases h
 |cons q f ih=>
  obtain⟨n,x⟩:=q;rw[wF];rcases List.mem_cons.1 h with rfl|h
  ·simp only;omega
  ·have:=ih h;omega
theorem pi (p:Str×Doc):∀f:Flds,(mu p f).length=f.length+1
 |[]=>rfl
 |q::r=>by
  rw[mu];split
  ·rfl
  ·rw[List.length_cons,pi p r,List.length_cons]
theorem lH:∀f:Flds,(cQ f).length=f.length
 |[]=>rfl
 |p::r=>by rw[cQ,pi,lH r,List.length_cons]
theorem co9:Tryz.prog.cellsOf 9=1:=by kernel_rfl
theorem D9:Tryz.prog.cellsOf 30=5:=by kernel_rfl
def D4 (f:Flds):List Val:=[.int .i64 1,.int .i64 0,.str [],gR aZ (f.map (·.1)),gR aJ (f.map (·.2))]
theorem D5 (f:Flds):Wk (.ag (D4 f)) (.ag (aJ (.mk 1 0 [] (f.map (·.1)) (f.map (·.2))))):=by rw[eF];exact Wk.ag ⟨Wk.refl _,Wk.refl _,Wk.refl _,oA aZ _,oA aJ _,trivial⟩
theorem f202g (ks:List Str)(ds:List Doc)(hl0:ks.length=ds.length)(hb:cw ks+wDs ds<100000000000):PureOk Tryz.prog Γ 202 [sls aZ ks,sls aJ ds] (.ag (D4 (cQ (cT [] ks ds)))):=by
 have hbk:ds.length<100000000000:=by have:=vv ds;omega
 have e0:mF []=[]:=rfl;have hlz:(ks.length:Int)=ds.length:=by omega
 refine Y2 58 Tryz.func202 rfl rfl fun a hl g0 g1=>?_
 refine GG ?_;refine aq [(6,7),(21,31)] [20] (fun k a h=>∃kp kr dp dr,ks=kp++kr∧ds=dp++dr∧kp.length=dp.length∧k=kr.length∧lk a 20=some (.int .i64 dp.length)∧h=[(0,.cells [.int .i64 0,.int .i64 0,.str [],.nils,.nils] 30 false),(6,.map (mF (cT [] kp dp)))]) ⟨[],ks,[],ds,rfl,rfl,rfl,rfl,by simp[*],rfl⟩ ?_;intro a1 hk hk0 k a h hF hI;replace g1:=hF.a hk 1;replace g4:=hF.a hk 4;replace g5:=hF.a hk 5;replace g18:=hF.a hk 18;replace g19:=hF.a hk 19;replace hl:a.length=58:=hF.len.trans (hk0.trans (by simp[*]));clear hk hk0;obtain⟨kp,kr,dp,dr,hkk,hkd,hkl,rfl,hix,rfl⟩:=hI;cases kr with
 |nil=>
  have hdr:dr=[]:=(by rw[hkk,hkd] at hl0;simp at hl0;exact List.eq_nil_of_length_eq_zero (by omega));subst hdr;simp only[List.append_nil] at hkk hkd;subst hkk;subst hkd;obtain⟨m,hm⟩:∃m,m=cT [] ks ds:=⟨_,rfl⟩;rw[←hm];have hnm:cH m:=(by rw[hm];exact nR _ _ _ (by simp[cH]));have hwm:wF m<100000000000:=(by rw[hm];have:=pQ ks ds [] hl0;simp only[wF] at this;omega);clear hm;have j1:=(f272 Γ m).ren [6] 16 rfl (by simp[co,aV,aS]) (by simp) (by simp);simp[bJ,b9,cK,ax,tau] at j1;have j2:=(f200b Γ m hnm hwm).ren [6,16] 17 rfl (by simp[co,fg,aV,aS]) (by simp) (by simp);simp[bJ,b9,cK,ax,tau] at j2;clear hl0 hlz hb;refine GG ?_;refine aw j1 ?_;refine GG ?_;refine aw j2 ?_;refine GG ?_;have hS:∀p∈cQ m,bI p.1 m=some p.2:=fun p hp=>ig hnm (iR.1 hp)
  have hwS:∀p∈cQ m,wD p.2<big:=fun p hp=>by have:=E5 (iR.1 hp);unfold big;omega
  have hlS:(cQ m).length<100000000000:=(by rw[lH];have:=s5 m;omega);generalize cQ m=S at *
  clear j1 j2;refine lK (h':=[(0,.cells [.int .i64 0,.int .i64 0,.str [],.nils,.nils] 30 false),(6,.map (mF m)),(13,.cells [.int .i64 1,.int .i64 0,.str [],.nils,.nils] 30 false)]) (by (repeat (first|exact aP|refine aK (by simp[V.get, *]) ?_))) ?_;refine mo [(10,10),(38,56)] [37] 40 (fun k a h=>∃pre rest,S=pre++rest∧k=rest.length∧lk a 37=some (.int .i64 pre.length)∧h=gH aZ 38 9 (pre.map (·.1))++(gH aJ 39 30 (pre.map (·.2))++[(0,.cells [.int .i64 0,.int .i64 0,.str [],.nils,.nils] 30 false),(6,.map (mF m)),(13,.cells [.int .i64 1,.int .i64 0,.str [],gV 38 (pre.map (·.1)),gV 39 (pre.map (·.2))] 30 false)])) (by omega) ⟨[],S,rfl,rfl,by simp[*],rfl⟩ ?_;intro a1 hk hk0 k a h hF hI;replace g4:=hF.a hk 4;replace g5:=hF.a hk 5;replace g8:=hF.a hk 8;replace g35:=hF.a hk 35;replace g36:=hF.a hk 36;replace hl:a.length=58:=hF.len.trans (hk0.trans (by simp[*]));clear hk hk0;obtain⟨pre,rest,hl1,rfl,h37,rfl⟩:=hI;cases rest with
  |nil=>
   simp only[List.append_nil] at hl1;subst hl1;clear hS hwS;cases S with
   |nil=>simp only[List.map_nil,gH,gV,List.nil_append,D4,gR];refine GG ?_;exact⟨by simp,.ag [.int .i64 1,.int .i64 0,.str [],.nils,.nils],5,by simp[Tryz.f202,V.get, *],by simp[vw,vwL]⟩
   |cons p S=>
    have e1:gH aZ 38 9 (List.map (·.1) (p::S))=[(38,.cells (row aZ (List.map (·.1) (p::S))) 9 true)]:=rfl;have e2:gH aJ 39 30 (List.map (·.2) (p::S))=[(39,.cells (row aJ (List.map (·.2) (p::S))) 30 true)]:=rfl;have e3:gV 38 (List.map (fun x:Str×Doc=>x.1) (p::S))=.so 38 0 (S.length+1) none:=(by simp[gV]);have e4:gV 39 (List.map (fun x:Str×Doc=>x.2) (p::S))=.so 39 0 (S.length+1) none:=(by simp[gV]);have e5:gR aZ (List.map (fun x:Str×Doc=>x.1) (p::S))=.sl (row aZ (List.map (·.1) (p::S))) (S.length+1) none:=(by simp[gR,sls]);have e6:gR aJ (List.map (fun x:Str×Doc=>x.2) (p::S))=.sl (row aJ (List.map (·.2) (p::S))) (S.length+1) none:=(by simp[gR,sls]);unfold D4;rw[e1,e2,e3,e4,e5,e6];have c1:=jy (List.map (·.1) (p::S));have c2:=gl (List.map (·.2) (p::S));have n1:(row aZ (List.map (·.1) (p::S))).length=S.length+1:=(by simp);have n2:(row aJ (List.map (·.2) (p::S))).length=(S.length+1)*5:=(by simp<;>omega);simp only[List.length_cons,Int.natCast_add,Int.cast_ofNat_Int] at g36 h37;clear g35 e1 e2 e3 e4 e5 e6;generalize row aZ (List.map (·.1) (p::S))=cs at *
    generalize row aJ (List.map (·.2) (p::S))=ds at *
    simp only[List.cons_append,List.nil_append];have hge:¬((S.length:Int)+1)<S.length+1:=(by omega);refine GG ?_;exact⟨by simp,.ag [.int .i64 1,.int .i64 0,.str [],.so 38 0 (S.length+1) none,.so 39 0 (S.length+1) none],cs.length+ds.length+12,by simp[Tryz.f202,V.get, *],
     fL rfl (aI (aG rfl) (aI (aG rfl) (aI (aG rfl) (aI (dD rfl (by rw[n1,co9];omega) c1 (by omega)) (aI (dD rfl (by rw[n2,D9]) c2 (by omega)) bP)))))⟩
  |cons p r=>
   obtain⟨key,y⟩:=p;have hlt:(pre.length:Int)<S.length:=(by rw[hl1];simp<;>omega);have hltN:pre.length<S.length:=(by omega);have hle:pre.length≤S.length:=(by omega);have hw:=ac ((pre.length:Int)+1) (by omega) (by omega);have i78:=f78 Γ y (hwS (key,y) (by simp[hl1]));have hln:pre.length<100000000000:=(by omega);have hlk:∀h:Heap,V.get h 6=some (.map (mF m))→iy Tryz.prog 202 h (.mp 6) (.str key) false=some (.ag (aJ y)):=fun h hg=>by rw[fK ov hg key false];unfold cZ;rw[hS (key,y) (by simp[hl1])];rfl
   obtain⟨K,hK⟩:∃K,K=row aZ (List.map (fun x=>x.1) S):=⟨_,rfl⟩;rw[←hK] at g35;have hKl:K.length=S.length:=(by rw[hK];simp);have hrk:K.drop pre.length=.str key::row aZ (List.map (fun x=>x.1) r):=(by have:=fz (List.map (fun x:Str×Doc=>x.1) pre) (List.map (fun x:Str×Doc=>x.1) r) key;rw[List.length_map] at this;rw[hK,hl1,List.map_append,List.map_cons];exact this);have hk0:K[pre.length]?=some (.str key):=by
    have h:=congrArg (fun l:List Val=>l[0]?) hrk
    simpa using h
   have hleK:pre.length≤K.length:=(by omega);have hl2:S=(pre++[(key,y)])++r:=(by rw[hl1];simp);replace hl2:Hid S ((pre++[(key,y)])++r):=hl2;clear hS hwS hK hl1 hKl hrk;cases pre with
   |nil=>
    simp only[List.map_nil,gH,gV,List.nil_append,List.length_nil] at *
    refine GG ?_;refine gn [(44,.cells [.str key] 9 false)] ?_;refine GG ?_;refine aM i78 ?_;refine GG ?_;refine gn [(46,.cells (aJ y) 30 false)] ?_;refine GG ?_;exact⟨(by (repeat refine Frm.set ?_ rfl);exact hF),[(45,38),(47,39)],[(45,.cells [.str key] 9 true),(47,.cells (aJ y) 30 true),(0,.cells [.int .i64 0,.int .i64 0,.str [],.nils,.nils] 30 false),(6,.map (mF m)),(13,.cells [.int .i64 1,.int .i64 0,.str [],.so 45 0 1 none,.so 47 0 1 none] 30 false)],(by (repeat (first|exact aP|refine aK (by simp[V.get, *]) ?_))),(by simp),(by simp),(by simp[*,aS,aV,aD]),(by simp[*,bW,cN,aS,aV,aD]),_,rfl,fun a2 hF2 hL2=>⟨[(key,y)],r,hl2,rfl,((hL2 37 (by simp)).trans (by simp[*]<;>omega)),by simp[gV,gH,aZ]⟩⟩
   |cons q pre=>
    have e1:gH aZ 38 9 (List.map (·.1) (q::pre))=[(38,.cells (row aZ (List.map (·.1) (q::pre))) 9 true)]:=rfl;have e2:gH aJ 39 30 (List.map (·.2) (q::pre))=[(39,.cells (row aJ (List.map (·.2) (q::pre))) 30 true)]:=rfl;have e3:gV 38 (List.map (fun x:Str×Doc=>x.1) (q::pre))=.so 38 0 (pre.length+1) none:=(by simp[gV]);have e4:gV 39 (List.map (fun x:Str×Doc=>x.2) (q::pre))=.so 39 0 (pre.length+1) none:=(by simp[gV]);have e5:gH aZ 38 9 (List.map (·.1) (q::pre++[(key,y)]))=[(38,.cells (row aZ (List.map (·.1) (q::pre))++[.str key]) 9 true)]:=(by rw[List.map_append];exact ga aZ 38 9 (List.map (·.1) (q::pre)) key);have e6:gH aJ 39 30 (List.map (·.2) (q::pre++[(key,y)]))=[(39,.cells (row aJ (List.map (·.2) (q::pre))++aJ y) 30 true)]:=(by rw[List.map_append];exact ga aJ 39 30 (List.map (·.2) (q::pre)) y);have e7:gV 38 (List.map (fun x:Str×Doc=>x.1) (q::pre++[(key,y)]))=.so 38 0 (pre.length+1+1) none:=(by simp[gV]);have e8:gV 39 (List.map (fun x:Str×Doc=>x.2) (q::pre++[(key,y)]))=.so 39 0 (pre.length+1+1) none:=(by simp[gV]);rw[e1,e2,e3,e4];have c1:=jy (List.map (·.1) (q::pre));have c2:=gl (List.map (·.2) (q::pre));have b1:=yu (List.map (·.1) (q::pre));have b2:=nT (List.map (·.2) (q::pre));have n1:(row aZ (List.map (·.1) (q::pre))).length=pre.length+1:=(by simp);have n2:(row aJ (List.map (·.2) (q::pre))).length=(pre.length+1)*5:=(by simp<;>omega);replace e5:Hid (gH aZ 38 9 (List.map (·.1) (q::pre++[(key,y)]))) _:=e5;replace e6:Hid (gH aJ 39 30 (List.map (·.2) (q::pre++[(key,y)]))) _:=e6;replace e7:Hid (gV 38 (List.map (fun x:Str×Doc=>x.1) (q::pre++[(key,y)]))) _:=e7;replace e8:Hid (gV 39 (List.map (fun x:Str×Doc=>x.2) (q::pre++[(key,y)]))) _:=e8;clear e1 e2 e3 e4;generalize row aZ (List.map (·.1) (q::pre))=cs at *
    generalize row aJ (List.map (·.2) (q::pre))=dd at *
    have hlo1:=fun N=>aD (N:=N) _ c1
    have hlo2:=fun N=>aD (N:=N) _ c2
    have hta:List.take (pre.length+1) cs=cs:=List.take_of_length_le (by omega);have htb:List.take ((pre.length+1)*5) dd=dd:=List.take_of_length_le (by omega);simp only[List.cons_append,List.nil_append];simp only[List.length_cons,Int.natCast_add,Int.cast_ofNat_Int] at hlt hltN hle hw hln hk0 hleK h37;have hle1:pre.length+1≤K.length:=hleK;have z1:¬pre.length+1≤pre.length:=(by omega);have z2:(pre.length+1+1)*16≤140737488355328:=(by omega);have z3:¬(pre.length+1+1)*5≤(pre.length+1)*5:=(by omega);have z4:(pre.length+1+1)*80≤140737488355328:=(by omega);refine GG ?_;refine gn [(38,.cells cs 9 true),(44,.cells [.str key] 9 false)] ?_;refine GG ?_;refine aM i78 ?_;refine GG ?_;refine gn [(39,.cells dd 30 true),(46,.cells (aJ y) 30 false)] ?_;refine GG ?_;exact⟨(by (repeat refine Frm.set ?_ rfl);exact hF),[(45,38),(47,39)],[(45,.cells (cs++[.str key]) 9 true),(47,.cells (dd++aJ y) 30 true),(0,.cells [.int .i64 0,.int .i64 0,.str [],.nils,.nils] 30 false),(6,.map (mF m)),(13,.cells [.int .i64 1,.int .i64 0,.str [],.so 45 0 (pre.length+1+1) none,.so 47 0 (pre.length+1+1) none] 30 false)],(by (repeat (first|exact aP|refine aK (by simp[V.get, *]) ?_))),(by simp),(by simp),(by simp[*,aS,aV,aD]),(by simp[*,bW,cN,aS,aV,aD]),_,rfl,fun a2 hF2 hL2=>⟨q::pre++[(key,y)],r,hl2,rfl,((hL2 37 (by simp)).trans (by simp[*]<;>omega)),by rw[show gH aZ 38 9 (List.map (·.1) (q::pre++[(key,y)]))=_ from e5,show gH aJ 39 30 (List.map (·.2) (q::pre++[(key,y)]))=_ from e6,show gV 38 (List.map (fun x:Str×Doc=>x.1) (q::pre++[(key,y)]))=_ from e7,show gV 39 (List.map (fun x:Str×Doc=>x.2) (q::pre++[(key,y)]))=_ from e8];simp[bJ,b9,cK,ax,ik,aH,c1,c2]⟩⟩
 |cons key kr=>
  cases dr with
  |nil=>rw[hkk,hkd] at hl0;simp at hl0;omega
  |cons y dr=>
  have hltd:(dp.length:Int)<ds.length:=(by rw[hkd];simp<;>omega);have hled:dp.length≤ds.length:=(by omega);have hl5:dp.length*5≤ds.length*5:=(by omega);have hltN:dp.length<ds.length:=(by omega);have hlek:dp.length≤ks.length:=(by omega);have hltk:(dp.length:Int)<ks.length:=(by omega);have hltk2:dp.length<ks.length:=(by omega);have hrk:(row aZ ks).drop dp.length=.str key::row aZ kr:=(by rw[hkk,←hkl];exact fz kp kr key);have hrd:(row aJ ds).drop (dp.length*5)=aJ y++row aJ dr:=(by rw[hkd];exact qJ dp dr y);have hw:=ac ((dp.length:Int)+1) (by omega) (by omega);have hd5:List.take 5 (aJ y++row aJ dr)=aJ y:=List.take_left' (b8 y);have hsn:=mA key y kp dp [] hkl;have hkq:Eqn (kp++[key]).length (dp++[y]).length:=(by show(kp++[key]).length=(dp++[y]).length;simp;exact hkl);have hk2:ks=(kp++[key])++kr:=(by rw[hkk];simp);have hd2:ds=(dp++[y])++dr:=(by rw[hkd];simp);have hu:gj Tryz.prog 202 [(0,.cells [.int .i64 0,.int .i64 0,.str [],.nils,.nils] 30 false),(6,.map (mF (cT [] kp dp)))] (.mp 6) (.str key) (.ag (aJ y))=some [(0,.cells [.int .i64 0,.int .i64 0,.str [],.nils,.nils] 30 false),(6,.map (mF (cT [] (kp++[key]) (dp++[y]))))]:=(by rw[eI ov (f:=cT [] kp dp) (by simp[V.get]) key y,hsn];simp[V.put]);replace hk2:Hid ks ((kp++[key])++kr):=hk2;replace hd2:Hid ds ((dp++[y])++dr):=hd2;clear hkk hkd hkl hl0 hsn hlz;refine GG ?_;exact NX [(0,.cells [.int .i64 0,.int .i64 0,.str [],.nils,.nils] 30 false),(6,.map (mF (cT [] (kp++[key]) (dp++[y]))))] fun a2 hF2=>⟨kp++[key],kr,dp++[y],dr,hk2,hd2,hkq,rfl,(hF2.q 20),rfl⟩
end
section
variable (Γ:Glo Tryz.prog)
attribute [local simp] veq bD eD V.del
theorem xV {k:Str}{x:Doc}:∀{f:Flds},k∉f.map (·.1)→ar k x f=f++[(k,x)]
 |[],_=>rfl
 |(a,b)::f,h=>by rw[ar,if_neg (fun e=>h (by simp[e])),xV (f:=f) (fun e=>h (by simp at e ⊢;exact .inr e))];rfl
theorem uM:∀(S g:Flds),cH (g++S)→cT g (S.map (·.1)) (S.map (·.2))=g++S
 |[],g,_=>by simp[cT]
 |(k,x)::S,g,h=>by rw[List.map_cons,List.map_cons,cT];have hk:k∉g.map (·.1):=(by unfold cH at h;rw[List.map_append,List.map_cons,List.nodup_append] at h;intro hm;exact h.2.2 k hm k (by simp) rfl);rw[xV hk,uM S _ (by simpa using h)];simp
theorem uT:∀{S:Flds},mz S→cQ S=S
 |[],_=>rfl
 |p::S,h=>by
  unfold mz at h;rw[List.pairwise_cons] at h;rw[cQ,uT (S:=S) h.2];cases S with
  |nil=>rfl
  |cons q r=>rw[mu,if_pos (h.1 q (by simp))]
theorem AZ:∀f:Flds,cw (f.map (·.1))+wDs (f.map (·.2))=wF f
 |[]=>rfl
 |(n,x)::f=>by rw[List.map_cons,List.map_cons,cw,wDs,wF];have:=AZ f;simp only;omega
theorem AX (p:Str×Doc):∀f:Flds,wF (mu p f)=p.1.length+1+wD p.2+wF f
 |[]=>by obtain⟨a,b⟩:=p;simp[mu,wF]
 |(n,x)::f=>by
  rw[mu];split
  ·obtain⟨a,b⟩:=p;simp only[wF]
  ·simp only[wF];rw[AX p f];omega
theorem yB:∀f:Flds,wF (cQ f)=wF f
 |[]=>rfl
 |(n,x)::f=>by rw[cQ,AX,yB f];simp only[wF]
theorem f202 (S:Flds)(hs:mz S)(hb:wF S<100000000000):PureOk Tryz.prog Γ 202 [sls aZ (S.map (·.1)),sls aJ (S.map (·.2))] (.ag (aJ (.mk 1 0 [] (S.map (·.1)) (S.map (·.2))))):=by have h:=(f202g Γ (S.map (·.1)) (S.map (·.2)) (by simp) (by rw[AZ];exact hb)).wk (D5 _);rw[uM S [] (by exact oX hs)] at h;rw[List.nil_append,uT hs] at h;exact h
theorem f134 (f:Flds)(hn:cH f)(hb:wF f<100000000000):CallOk Tryz.prog Γ 134 [.mp 0] [(0,.map (mF f))] 1 true (.ag (aJ (ay f))) [(0,.map (mF f))] 1:=by
 have j1:=(f201 Γ f).ren [0] 3 rfl (by simp[co,aV,aS]) (by simp) (by simp);simp[bJ,b9,cK,ax,tau] at j1;have j2:=(f200a Γ f hn hb).ren [0,3] 4 rfl (by simp[co,fg,aV,aS]) (by simp) (by simp);simp[bJ,b9,cK,ax,tau] at j2;have k202:=f202 Γ (cQ f) (gG hn) (by rw[yB];exact hb);have hS:∀p∈cQ f,bI p.1 f=some p.2:=fun p hp=>ig hn (iR.1 hp)
 have hlS:(cQ f).length<100000000000:=by rw[lH];have:=s5 f;omega
 unfold ay;refine mX Tryz.func134 rfl (by simp[Tryz.f134]) (by omega) (by simp[aS]) (by simp[bW]) ?_;intro a hl ha;replace hl:a.length=26:=hl;have g0:=ha 0 _ rfl;clear ha hn hb;generalize cQ f=S at *
 refine GG ?_;refine aw j1 ?_;refine GG ?_;refine aw j2 ?_;refine GG ?_;clear j1 j2;refine lK (h':=[(0,.map (mF f)),(1,.cells [.int .i64 0,.int .i64 0,.str [],.nils,.nils] 30 false)]) (by (repeat (first|exact aP|refine aK (by simp[V.get, *]) ?_))) ?_;refine mo [(6,6),(13,22)] [12,4] 40 (fun k a h=>∃pre rest,S=pre++rest∧k=rest.length∧lk a 12=some (.int .i64 pre.length)∧lk a 4=some (gV 39 (pre.map (·.2)))∧h=gH aJ 39 30 (pre.map (·.2))++[(0,.map (mF f)),(1,.cells [.int .i64 0,.int .i64 0,.str [],.nils,.nils] 30 false)]) (by omega) ⟨[],S,rfl,rfl,by simp[*],by simp[*,gV],rfl⟩ ?_;intro a1 hk hk0 k a h hF hI;replace g0:=hF.a hk 0;replace g2:=hF.a hk 2;replace g3:=hF.a hk 3;replace g10:=hF.a hk 10;replace g11:=hF.a hk 11;replace hl:a.length=26:=hF.len.trans (hk0.trans (by simp[*]));clear hk hk0;obtain⟨pre,rest,hl1,rfl,h12,h4,rfl⟩:=hI;cases rest with
 |nil=>
  simp only[List.append_nil] at hl1;subst hl1;clear hS;simp only[sls,List.length_map] at k202;rcases cz aJ 5 kd gl nT 39 30 (List.map (fun x:Str×Doc=>x.2) S) with ⟨hp0,e1,e2,e3⟩|⟨n,cs,hn,hcs,e1,e2,e3,c1,c2,c3⟩<;>rw[e1] at h4<;>rw[e2]<;>simp only[List.cons_append,List.nil_append]
  ·have hwk:Wk .nils (.sl (row aJ (List.map (fun x:Str×Doc=>x.2) S)) S.length none):=(by have h0:S.length=0:=(by simpa using congrArg List.length hp0);rw[hp0,h0];exact Wk.nils);have k3:=k202.arg (vs:=[.sl (row aZ (S.map (·.1))) S.length none,.nils]) ⟨Wk.refl _,hwk,trivial⟩;clear k202 e1 e2 e3;refine GG ?_;refine aC k3 ?_;refine GG ?_;exact⟨by simp,by simp[Tryz.f134,V.get, *],by (repeat (first|exact aP|refine aK (by simp[V.get, *]) ?_))⟩
  ·rw[show Val.sl (row aJ (List.map (·.2) S)) S.length none=.sl cs n none by rw[show n=_ from hn,show cs=_ from hcs];simp] at k202;have k3:=CallOk.freeze 43 k202 (vs:=[.sl (row aZ (S.map (·.1))) S.length none,.so 39 0 n none]) (hs:=[(39,.cells cs 30 true)]) (n:=cs.length+10) (aI (aG (by simp[Val.closed])) (aI (dD rfl (by rw[D9];omega) c2 (by omega)) bP));clear k202 e1 e2 e3 hn hcs;have hlo:=fun N=>aD (N:=N) _ c2
   refine GG ?_;refine aw k3 ?_;refine GG ?_;exact⟨by simp,by simp[Tryz.f134,V.get, *],by (repeat (first|exact aP|refine aK (by simp[V.get, *]) ?_))⟩
 |cons p r=>
  obtain⟨key,y⟩:=p;have hlt:(pre.length:Int)<S.length:=(by rw[hl1];simp<;>omega);have hltN:pre.length<S.length:=(by omega);have hle:pre.length≤S.length:=(by omega);have hw:=ac ((pre.length:Int)+1) (by omega) (by omega);have hln:pre.length<100000000000:=(by omega);have hlk:∀h:Heap,V.get h 0=some (.map (mF f))→iy Tryz.prog 203 h (.mp 0) (.str key) false=some (.ag (aJ y)):=fun h hg=>by rw[fK bp hg key false];unfold cZ;rw[hS (key,y) (by simp[hl1])];rfl
  obtain⟨K,hK⟩:∃K,K=row aZ (List.map (fun x=>x.1) S):=⟨_,rfl⟩;rw[←hK] at g10;have hKl:K.length=S.length:=(by rw[hK];simp);have hrk:K.drop pre.length=.str key::row aZ (List.map (fun x=>x.1) r):=(by have:=fz (List.map (fun x:Str×Doc=>x.1) pre) (List.map (fun x:Str×Doc=>x.1) r) key;rw[List.length_map] at this;rw[hK,hl1,List.map_append,List.map_cons];exact this);have hk0:K[pre.length]?=some (.str key):=by
   have h:=congrArg (fun l:List Val=>l[0]?) hrk
   simpa using h
  have hleK:pre.length≤K.length:=(by omega);have hl2:S=(pre++[(key,y)])++r:=(by rw[hl1];simp);replace hl2:Hid S ((pre++[(key,y)])++r):=hl2;have hsn1:=jQ 39 (List.map (fun x:Str×Doc=>x.2) pre) y;have hsn2:=ga aJ 39 30 (List.map (fun x:Str×Doc=>x.2) pre) y;have hmp:List.map (fun x:Str×Doc=>x.2) (pre++[(key,y)])=List.map (fun x:Str×Doc=>x.2) pre++[y]:=(by simp);have hlm:(List.map (fun x:Str×Doc=>x.2) pre).length=pre.length:=(by simp);clear hS hK hl1 hKl hrk k202;generalize List.map (fun x:Str×Doc=>x.2) pre=ys at *
  rw[←hmp] at hsn1 hsn2;replace hsn1:Hid (gV 39 (List.map (fun x:Str×Doc=>x.2) (pre++[(key,y)]))) _:=hsn1;replace hsn2:Hid (gH aJ 39 30 (List.map (fun x:Str×Doc=>x.2) (pre++[(key,y)]))) _:=hsn2;clear hmp;rcases cz aJ 5 kd gl nT 39 30 ys with ⟨rfl,e1,e2,e3⟩|⟨n,cs,hn,hcs,e1,e2,e3,c1,c2,c3⟩<;>rw[e1] at h4<;>rw[e2]<;>simp only[List.cons_append,List.nil_append]
  ·clear hlm e1 e2 e3;refine GG ?_;exact⟨(by (repeat refine Frm.set ?_ rfl);exact hF),[(49,39)],[(49,.cells (aJ y) 30 true),(0,.map (mF f)),(1,.cells [.int .i64 0,.int .i64 0,.str [],.nils,.nils] 30 false)],(by (repeat (first|exact aP|refine aK (by simp[V.get, *]) ?_))),(by simp),(by simp),(by simp[*,aS,aV,aD]),(by simp[*,bW,cN,aS,aV,aD]),_,rfl,fun a2 hF2 hL2=>⟨pre++[(key,y)],r,hl2,rfl,((hL2 12 (by simp)).trans (by simp[*]<;>omega)),(hL2 4 (by simp)).trans (by rw[show gV 39 (List.map (fun x:Str×Doc=>x.2) (pre++[(key,y)]))=_ from hsn1];simp[*]),by rw[show gH aJ 39 30 (List.map (fun x:Str×Doc=>x.2) (pre++[(key,y)]))=_ from hsn2];simp[bJ,b9,cK,ax,ik,aH]⟩⟩
  ·have z1:¬(n+1)*5≤n*5:=(by omega);have z2:(n+1)*80≤140737488355328:=(by have:n=ys.length:=hn;omega);have hta:List.take (n*5) cs=cs:=List.take_of_length_le (by omega);have hlo:=fun N=>aD (N:=N) _ c2
   have hcs':row aJ ys=cs:=hcs.symm;have hn':ys.length=n:=hn.symm;rw[hcs'] at hsn2;rw[hn'] at hsn1;clear e1 e2 e3 hn hcs hn' hcs' hlm;refine GG ?_;exact⟨(by (repeat refine Frm.set ?_ rfl);exact hF),[(49,39)],[(49,.cells (cs++aJ y) 30 true),(0,.map (mF f)),(1,.cells [.int .i64 0,.int .i64 0,.str [],.nils,.nils] 30 false)],(by (repeat (first|exact aP|refine aK (by simp[V.get, *]) ?_))),(by simp),(by simp),(by simp[*,aS,aV,aD]),(by simp[*,bW,cN,aS,aV,aD]),_,rfl,fun a2 hF2 hL2=>⟨pre++[(key,y)],r,hl2,rfl,((hL2 12 (by simp)).trans (by simp[*]<;>omega)),(hL2 4 (by simp)).trans (by rw[show gV 39 (List.map (fun x:Str×Doc=>x.2) (pre++[(key,y)]))=_ from hsn1];simp[*]),by rw[show gH aJ 39 30 (List.map (fun x:Str×Doc=>x.2) (pre++[(key,y)]))=_ from hsn2];simp[bJ,b9,cK,ax,ik,aH,c2]⟩⟩
def cW (e:Int)(bk:Bool)(w:Wlk):List Val:=[.int .i64 e,.bool bk,sls ah w.res,gR ah w.needs,.int .i64 w.err]
def plV (st:List Int)(ks:List Str):Val:=.ag [sls cS st,sls aZ ks]
theorem fD (e:Int)(bk:Bool)(w:Wlk):aE (cW e bk w)=true:=by
 unfold cW;have:(gR ah w.needs).closed=true:=by cases w.needs<;>simp[gR,Val.closed,sls]
 simp[aE,Val.closed,this]
def Mth (n:FuncId)(e:Int)(bk:Bool)(s:Lns)(st:List Int)(ks:List Str)(w:Wlk)(f:Flds)(w':Wlk)(f':Flds):Prop:=
 CallOk Tryz.prog Γ n [.pr 1 0,.mp 0,.ag (aL s),plV st ks] [(0,.map (mF f)),(1,.cells (cW e bk w) 135 false)] 2 true (.tp []) [(0,.map (mF f')),(1,.cells (cW e bk w') 135 false)] 2
theorem FT (h:Heap)(i:Nat):av Tryz.prog 28 1 [(0,.ag [.int .i64 0,.int .i64 0,.str [],.nils,.nils])] h i=some (.so i 0 1 (some 1),V.put h i (.cells [.int .i64 0,.int .i64 0,.str [],.nils,.nils] 30 false)):=by kernel_rfl
theorem f190 (e:Int)(bk:Bool)(s:Lns)(st:List Int)(ks:List Str)(w:Wlk)(f:Flds):Mth Γ 190 e bk s st ks w f w (iI s.a s.b f):=by
 have k1:=(f265s Γ s.a s.b f).ren [0] 10 rfl (by simp[co,aV,aS]) (by simp) (by simp);simp[bJ,b9,cK,ax,tau] at k1;have hcl:=fD e bk w;unfold Mth plV;generalize cW e bk w=W0 at *
 have hlo:=fun N=>aD (N:=N) _ hcl
 refine J4 15 Tryz.func190 rfl rfl fun a hl g0 g1 g2 g3=>?_
 refine GG ?_;refine aw k1 ?_;refine GG ?_;exact⟨by simp,by simp[Tryz.f190, *],by (repeat (first|exact aP|refine aK (by simp[V.get, *]) ?_))⟩
theorem mg {a b:Str}{f g:Flds}(hf:cH f)(hg:cH g):cH (gX a b f g).1∧cH (gX a b f g).2:=by
 unfold gX;cases bI a f with
 |none=>exact⟨hf,hg⟩
 |some x=>exact⟨gc _ hf,bV _ _ hg⟩
theorem Cv (n:Str):∀f:Flds,wF (dq n f)≤wF f
 |[]=>Nat.le_refl _
 |(k,d)::f=>by
  rw[dq];split
  ·simp only[wF];omega
  ·simp only[wF];have:=Cv n f;omega
theorem zI {n:Str}{x:Doc}{f:Flds}(h:bI n f=some x):n.length+1+wD x≤wF f:=by
 induction f with
 |nil=>cases h
 |cons p f ih=>
  obtain⟨k,d⟩:=p;rw[bI] at h;split at h
  ·rename_i e;subst e;cases h;simp only[wF];omega
  ·have:=ih h;simp only[wF];omega
theorem yA (a:Str)(f g:Flds):wF (gX a a f g).1≤wF f∧wF (gX a a f g).2≤wF f+wF g:=by
 unfold gX;cases h:bI a f with
 |none=>exact⟨Nat.le_refl _,by simp only;omega⟩
 |some x=>have:=zI h;have:=zJ a x g;exact⟨Cv a f,by simp only;omega⟩
theorem ml (a:Str)(f:Flds):wD (bv a f)≤wF f+1:=by
 unfold bv;cases h:bI a f with
 |none=>show wD zeroDoc≤_;simp[zeroDoc,wD,cw,wDs]
 |some x=>have:=zI h;simp only[Option.getD_some];omega
theorem Cx {d:Doc}(hk:d.keys.length≤d.kids.length):wF (ofD d)≤wD d:=by
 have h:=pQ d.keys (d.kids.take d.keys.length) [] (by simp;omega);have e:cT [] d.keys d.kids=cT [] d.keys (d.kids.take d.keys.length):=by
  conv=>lhs;rw[←List.take_append_drop d.keys.length d.kids]
  exact ly _ _ _ _ (by simp;omega)
 have h2:∀(n:Nat) (l:List Doc),wDs (l.take n)≤wDs l:=by
  intro n l;induction l generalizing n with
  |nil=>simp[wDs]
  |cons x l ih=>
   cases n with
   |zero=>simp[wDs]
   |succ n=>rw[List.take_succ_cons,wDs,wDs];have:=ih n;omega
 unfold ofD;rw[e];have:=h2 d.keys.length d.kids;rw[kC];simp only[wF] at h;omega
theorem vY (d:Doc):okK d=true↔d.keys.length≤d.kids.length:=by unfold okK;exact decide_eq_true_iff
theorem f193 (e:Int)(bk:Bool)(s:Lns)(st:List Int)(ks:List Str)(w:Wlk)(f:Flds)(hn:cH f)(hb:wF f<10000000000)(ho:okK (bv s.a f)=true) :
  Mth Γ 193 e bk s st ks w f w (ar s.a (ay (gX s.b s.b (ofD (bv s.a f)) f).1) (gX s.b s.b (ofD (bv s.a f)) f).2):=by
 have hk:=(vY _).1 ho;have hwx:=ml s.a f;have k0:=(f130 Γ (bv s.a f) (by unfold big;omega) hk).arg Γ (vs:=[.ag (cZ s.a f)]) ⟨oB s.a f,trivial⟩;have hwo:=Cx hk;have hno:=dR (bv s.a f);generalize bv s.a f=x at *
 generalize ofD x=g at *
 have hm:=mg (a:=s.b) (b:=s.b) hno hn;have hwm:=yA s.b g f;have k1:=f265d Γ s.b s.b g f;generalize gX s.b s.b g f=r at *
 obtain⟨r1,r2⟩:=r;have k2:=f134 Γ r1 hm.1 (by simp only at hwm;omega);replace k0:=k0.ren [] 8 rfl (by simp[co,aV,aS,aD,ep]) (by simp) (by simp);simp[bJ,b9,cK,ax,tau,aH,ep] at k0;replace k1:=k1.ren [8,0] 16 rfl (by simp[co,aV,aS]) (by simp) (by simp);simp[bJ,b9,cK,ax,tau] at k1;replace k2:=k2.ren [8] 16 rfl (by simp[co,aV,aS]) (by simp) (by simp);simp[bJ,b9,cK,ax,tau,aH] at k2;have hcl:=fD e bk w;unfold Mth plV;generalize cW e bk w=W0 at *
 have hlo:=fun N=>aD (N:=N) _ hcl
 have hu:=fun(h:Heap) (hg:V.get h 0=some (.map (mF r2)))=>eI bp hg s.a (ay r1)
 clear hn hb ho hk hwx hwo hno hm hwm;refine J4 26 Tryz.func193 rfl rfl fun a hl g0 g1 g2 g3=>?_
 refine GG ?_;refine aw k0 ?_;refine GG ?_;refine aw k1 ?_;refine GG ?_;refine jK ?_ (by intro _ _ _ _ he hq;exact⟨hq.1,(by first|exact hq.2.1|simpa[Tryz.f193] using hq.2.1),fun i b hb=>(he i).trans (hq.2.2 i b hb)⟩);refine GG ?_;refine jB k2 ?_;refine GG ?_;exact⟨by simp,by simp[Tryz.f193, *],by (repeat (first|exact aP|refine aK (by simp[V.get, *]) ?_))⟩
theorem f194 (e:Int)(bk:Bool)(s:Lns)(st:List Int)(ks:List Str)(w:Wlk)(f:Flds)(hn:cH f)(hb:wF f<10000000000)(ho:okK (bv s.a f)=true) :
  Mth Γ 194 e bk s st ks w f w (ar s.a (ay (gX s.b s.b f (ofD (bv s.a f))).2) (gX s.b s.b f (ofD (bv s.a f))).1):=by
 have hk:=(vY _).1 ho;have hwx:=ml s.a f;have k0:=(f130 Γ (bv s.a f) (by unfold big;omega) hk).arg Γ (vs:=[.ag (cZ s.a f)]) ⟨oB s.a f,trivial⟩;have hwo:=Cx hk;have hno:=dR (bv s.a f);generalize bv s.a f=x at *
 generalize ofD x=g at *
 have hm:=mg (a:=s.b) (b:=s.b) hn hno;have hwm:=yA s.b f g;have k1:=f265d Γ s.b s.b f g;generalize gX s.b s.b f g=r at *
 obtain⟨r1,r2⟩:=r;have k2:=f134 Γ r2 hm.2 (by simp only at hwm;omega);replace k0:=k0.ren [] 8 rfl (by simp[co,aV,aS,aD,ep]) (by simp) (by simp);simp[bJ,b9,cK,ax,tau,aH,ep] at k0;replace k1:=k1.ren [0,8] 16 rfl (by simp[co,aV,aS]) (by simp) (by simp);simp[bJ,b9,cK,ax,tau] at k1;replace k2:=k2.ren [8] 16 rfl (by simp[co,aV,aS]) (by simp) (by simp);simp[bJ,b9,cK,ax,tau,aH] at k2;have hcl:=fD e bk w;unfold Mth plV;generalize cW e bk w=W0 at *
 have hlo:=fun N=>aD (N:=N) _ hcl
 have hu:=fun(h:Heap) (hg:V.get h 0=some (.map (mF r1)))=>eI bp hg s.a (ay r2)
 clear hn hb ho hk hwx hwo hno hm hwm;refine J4 26 Tryz.func194 rfl rfl fun a hl g0 g1 g2 g3=>?_
 refine GG ?_;refine aw k0 ?_;refine GG ?_;refine aw k1 ?_;refine GG ?_;refine jK ?_ (by intro _ _ _ _ he hq;exact⟨hq.1,(by first|exact hq.2.1|simpa[Tryz.f194] using hq.2.1),fun i b hb=>(he i).trans (hq.2.2 i b hb)⟩);refine GG ?_;refine jB k2 ?_;refine GG ?_;exact⟨by simp,by simp[Tryz.f194, *],by (repeat (first|exact aP|refine aK (by simp[V.get, *]) ?_))⟩
theorem f195 (e:Int)(bk:Bool)(s:Lns)(st:List Int)(ks:List Str)(w:Wlk)(f:Flds)(hb:wF f<10000000000) :
  Mth Γ 195 e bk s st ks w f w (ar s.a (.mk 3 0 [] [] [bv s.a f]) f):=by
 have hwx:=ml s.a f;have k0:=(f266 Γ [bv s.a f] (by unfold big;simp[wDs];omega)).arg (vs:=[.sl (cZ s.a f) 1 (some 1)]) ⟨fun F ρ x h=>by
  have h1:=Wk.cap _ _ _ F ρ x h;cases hm:bI s.a f with
  |none=>have e1:cZ s.a f=zDoc:=(by unfold cZ;rw[hm]);have e2:bv s.a f=zeroDoc:=(by unfold bv;rw[hm];rfl);rw[e1] at h1;rw[e2];exact Wk.sl (us:=zDoc) (vs:=row aJ [zeroDoc]) ⟨Wk.refl _,Wk.refl _,Wk.refl _,Wk.nils,Wk.nils,trivial⟩ F ρ x h1
  |some x0=>have e1:cZ s.a f=aJ x0:=(by unfold cZ;rw[hm]);have e2:bv s.a f=x0:=(by unfold bv;rw[hm];rfl);rw[e1] at h1;rw[e2];unfold sls;rw[cM,eh,List.append_nil];exact h1,trivial⟩
 have hcx:=ep s.a f;have hlx:=tv s.a f;have hbs:∀(h:Heap) (i:Nat),av Tryz.prog 28 1 [(0,.ag (cZ s.a f))] h i=some (.so i 0 1 (some 1),V.put h i (.cells (cZ s.a f) 30 false)):=fun h i=>by
  cases hm:bI s.a f with
  |none=>have e1:cZ s.a f=[.int .i64 0,.int .i64 0,.str [],.nils,.nils]:=(by unfold cZ;rw[hm];rfl);rw[e1];exact FT h i
  |some x0=>have e1:cZ s.a f=aJ x0:=(by unfold cZ;rw[hm]);rw[e1];exact XQ h i x0
 have hu:=fun(h:Heap) (hg:V.get h 0=some (.map (mF f)))=>eI bp hg s.a (.mk 3 0 [] [] [bv s.a f])
 have hlk:=fun(h:Heap) (hg:V.get h 0=some (.map (mF f)))=>fK bp hg s.a false
 simp only[if_false,Bool.false_eq_true] at hlk;generalize bv s.a f=x at *
 generalize cZ s.a f=cx at *
 have hlox:=fun N=>aD (N:=N) _ hcx
 have hcl:=fD e bk w;unfold Mth plV;generalize cW e bk w=W0 at *
 have hlo:=fun N=>aD (N:=N) _ hcl
 clear hwx hb;refine J4 17 Tryz.func195 rfl rfl fun a hl g0 g1 g2 g3=>?_
 refine GG ?_;refine jK ?_ (by intro _ _ _ _ he hq;exact⟨hq.1,(by first|exact hq.2.1|simpa[Tryz.f195] using hq.2.1),fun i b hb=>(he i).trans (hq.2.2 i b hb)⟩);refine GG ?_;have k1:=CallOk.freeze 5 k0 (vs:=[.so 4 0 1 (some 1)]) (hs:=[(4,.cells cx 30 false)]) (n:=20) (aI (dD rfl (by rw[D9,hlx]) hcx (by omega)) bP);refine bl k1 ?_;refine GG ?_;exact⟨by simp,by simp[Tryz.f195, *],by (repeat (first|exact aP|refine aK (by simp[V.get, *]) ?_))⟩
theorem fq {n:Str}{f:Flds}{x:Doc}(h:bI n f=some x):cZ n f=aJ x∧bv n f=x:=by unfold cZ bv;rw[h];exact⟨rfl,rfl⟩
theorem uF {n:Str}{f:Flds}{y:Doc}{r:List Doc}(h:(bv n f).kids=y::r):∃x,bI n f=some x∧x.kids=y::r:=by
 unfold bv at h;cases hm:bI n f with
 |none=>rw[hm] at h;cases h
 |some x=>rw[hm] at h;exact⟨x,rfl,h⟩
theorem f196 (e:Int)(bk:Bool)(s:Lns)(st:List Int)(ks:List Str)(w:Wlk)(f:Flds)(y:Doc)(r:List Doc)(hy:(bv s.a f).kids=y::r) :
  Mth Γ 196 e bk s st ks w f w (ar s.a y f):=by
 obtain⟨x,hm,hx⟩:=uF hy;have hc:=(fq hm).1;have hu:=fun(h:Heap) (hg:V.get h 0=some (.map (mF f)))=>eI bp hg s.a y
 have hlk:=fun(h:Heap) (hg:V.get h 0=some (.map (mF f)))=>fK bp hg s.a false
 simp only[if_false,Bool.false_eq_true,hc] at hlk;have hd5:List.take 5 (aJ y++row aJ r)=aJ y:=List.take_left' (b8 y);rw[eF,hx] at hlk;unfold sls at hlk;rw[cM,List.length_cons] at hlk;have hlt:(0:Int)<r.length+1:=by omega
 have hcl:=fD e bk w;unfold Mth plV;generalize cW e bk w=W0 at *
 have hlo:=fun N=>aD (N:=N) _ hcl
 clear hy hm hx hc;refine J4 18 Tryz.func196 rfl rfl fun a hl g0 g1 g2 g3=>?_
 refine GG ?_;refine jK ?_ (by intro _ _ _ _ he hq;exact⟨hq.1,(by first|exact hq.2.1|simpa[Tryz.f196] using hq.2.1),fun i b hb=>(he i).trans (hq.2.2 i b hb)⟩);refine GG ?_;exact⟨by simp,by simp[Tryz.f196, *],by (repeat (first|exact aP|refine aK (by simp[V.get, *]) ?_))⟩
theorem f197 (e:Int)(bk:Bool)(s:Lns)(st:List Int)(ks:List Str)(w:Wlk)(f:Flds)(hb:s.swaps.length<big) :
  Mth Γ 197 e bk s st ks w f w (ar s.a (.mk 4 (fP (bv s.a f).num s.swaps) [] [] []) f):=by
 have k1:=f267 Γ (bv s.a f).num s.swaps hb;have k2:=f249 Γ (fP (bv s.a f).num s.swaps);have hu:=fun(h:Heap) (hg:V.get h 0=some (.map (mF f)))=>eI bp hg s.a (.mk 4 (fP (bv s.a f).num s.swaps) [] [] [])
 have hlk:∀h:Heap,V.get h 0=some (.map (mF f))→∃q1 q2 q3 q4,iy Tryz.prog 203 h (.mp 0) (.str s.a) false=some (.ag [q1,.int .i64 (bv s.a f).num,q2,q3,q4]):=fun h hg=>by
  rw[fK bp hg s.a false];cases hm:bI s.a f with
  |none=>exact⟨_,_,_,_,by unfold cZ bv;rw[hm];rfl⟩
  |some x=>exact⟨_,_,_,_,by rw[(fq hm).1,(fq hm).2,eF];rfl⟩
 have hlk2:∃q1 q2 q3 q4,∀h:Heap,V.get h 0=some (.map (mF f))→iy Tryz.prog 203 h (.mp 0) (.str s.a) false=some (.ag [q1,.int .i64 (bv s.a f).num,q2,q3,q4]):=by
  cases hm:bI s.a f with
  |none=>exact⟨_,_,_,_,fun h hg=>by rw[fK bp hg s.a false];unfold cZ bv;rw[hm];rfl⟩
  |some x=>exact⟨_,_,_,_,fun h hg=>by rw[fK bp hg s.a false];rw[(fq hm).1,(fq hm).2,eF];rfl⟩
 obtain⟨q1,q2,q3,q4,hlk3⟩:=hlk2;clear hlk;generalize fP (bv s.a f).num s.swaps=m at *
 generalize (bv s.a f).num=n at *
 have hcl:=fD e bk w;unfold Mth plV;generalize cW e bk w=W0 at *
 have hlo:=fun N=>aD (N:=N) _ hcl
 refine J4 20 Tryz.func197 rfl rfl fun a hl g0 g1 g2 g3=>?_
 refine GG ?_;refine jK ?_ (by intro _ _ _ _ he hq;exact⟨hq.1,(by first|exact hq.2.1|simpa[Tryz.f197] using hq.2.1),fun i b hb=>(he i).trans (hq.2.2 i b hb)⟩);refine GG ?_;refine aM k1 ?_;refine GG ?_;refine aM k2 ?_;refine GG ?_;exact⟨by simp,by simp[Tryz.f197, *],by (repeat (first|exact aP|refine aK (by simp[V.get, *]) ?_))⟩
theorem I3 (e:Int)(c1 c2:List Val)(n1 n2:Nat)(k1 k2:Option Nat)(d0 d1 d2 d3 d4:Val):cU Tryz.prog 82 [(0,.int .i64 e),(1,.sl c1 n1 k1),(2,.sl c2 n2 k2),(3,.ag [d0,d1,d2,d3,d4])]=some [.int .i64 e,.sl c1 n1 k1,.sl c2 n2 k2,d0,d1,d2,d3,d4]:=by kernel_rfl
theorem I2 (e:Int)(c1 c2:List Val)(n1 n2:Nat)(k1 k2:Option Nat)(c:List Val)(hc:c.length=5):cU Tryz.prog 82 [(0,.int .i64 e),(1,.sl c1 n1 k1),(2,.sl c2 n2 k2),(3,.ag c)]=some (.int .i64 e :: .sl c1 n1 k1 :: .sl c2 n2 k2::c):=by
 match c,hc with
 |[d0,d1,d2,d3,d4],_=>exact I3 e c1 c2 n1 n2 k1 k2 d0 d1 d2 d3 d4
theorem Al (n:Str)(f:Flds):WkL (cZ n f) (aJ (bv n f)):=by
 unfold cZ bv;cases bI n f with
 |none=>rw[eF];exact⟨Wk.refl _,Wk.refl _,Wk.refl _,Wk.nils,Wk.nils,trivial⟩
 |some x=>exact WkL.refl _
theorem f192 (X:XOk Γ)(e:Int)(bk:Bool)(s:Lns)(st:List Int)(ks:List Str)(w:Wlk)(f:Flds)(hb:wRs w.res+wF f<20000000000)(hst:st.length<1000000)(hks:ks.length<1000000) :
  Mth Γ 192 e bk s st ks w f (iB e st ks s.a w f).1 (iB e st ks s.a w f).2:=by
 unfold iB;simp only;have hwx:=ml s.a f;have k1:=(f147 Γ X w.res ⟨e,st,ks,bv s.a f⟩ (by unfold big;omega) (by unfold wR big;simp only;omega)).arg (vs:=[sls ah w.res,.ag (.int .i64 e::sls cS st::sls aZ ks::cZ s.a f)]) ⟨Wk.refl _,Wk.ag ⟨Wk.refl _,Wk.refl _,Wk.refl _,Al s.a f⟩,trivial⟩;have hcx:=ep s.a f;have hb82:=fun(c1 c2:List Val) (n1 n2:Nat) (k1 k2:Option Nat)=>I2 e c1 c2 n1 n2 k1 k2 (cZ s.a f) (tv s.a f)
 have hlk:=fun(h:Heap) (hg:V.get h 0=some (.map (mF f)))=>fK bp hg s.a false
 simp only[if_false,Bool.false_eq_true] at hlk;have hdl:=fun(h:Heap) (hg:V.get h 0=some (.map (mF f)))=>sN bp hg s.a
 have hnd:(gR ah w.needs).closed=true:=by cases w.needs<;>simp[gR,Val.closed,sls]
 have hlo:∀N,aS N (gR ah w.needs)=true:=by intro N;cases w.needs<;>simp[gR,aS,sls]
 generalize jV w.res ⟨e,st,ks,bv s.a f⟩=res2 at *
 generalize cZ s.a f=cx at *
 unfold Mth plV cW;generalize gR ah w.needs=nd at *
 clear hb hst hks hwx;refine J4 32 Tryz.func192 rfl rfl fun a hl g0 g1 g2 g3=>?_
 refine GG ?_;refine aM k1 ?_;refine GG ?_;exact⟨by simp,by simp[Tryz.f192, *],by (repeat (first|exact aP|refine aK (by simp[V.get, *]) ?_))⟩
theorem Ds (x:Res)(l:List Res):iH x l≠[]:=by
 cases l with
 |nil=>simp[iH]
 |cons y r=>rw[iH];split<;>simp
theorem Fe (l:List Res)(x:Res):gR ah (jV l x)=sls ah (jV l x):=by
 unfold jV;cases h:iH x (dX x.edge x.step x.at_ l) with
 |nil=>exact(Ds _ _ h).elim
 |cons y r=>rfl
theorem re (n:Str)(x y:Doc):∀f:Flds,ar n x (ar n y f)=ar n x f
 |[]=>by simp[ar]
 |(k,d)::f=>by
  by_cases h:k=n
  ·simp[ar,h]
  ·simp[ar,h,re n x y f]
theorem tl {e:Int}{st:List Int}{ks:List Str}:∀{pre:List Res}{x:Res}{r:List Res},(∀y∈pre,kU e st ks y=false)→kU e st ks x=true→fj e st ks (pre++x::r)=some x
 |[],x,r,_,h=>by simp[fj,h]
 |y::pre,x,r,h,hx=>by rw[List.cons_append,fj,if_neg (by rw[h y (by simp)];simp)];exact tl (fun z hz=>h z (by simp[hz])) hx
theorem wv {e:Int}{st:List Int}{ks:List Str}:∀{l:List Res},(∀y∈l,kU e st ks y=false)→fj e st ks l=none
 |[],_=>rfl
 |y::l,h=>by rw[fj,if_neg (by rw[h y (by simp)];simp)];exact wv fun z hz=>h z (by simp[hz])
theorem f191 (X:XOk Γ)(H:fQ Γ)(e:Int)(bk:Bool)(s:Lns)(st:List Int)(ks:List Str)(w:Wlk)(f:Flds)(hb:wRs w.res+wRs w.needs+wF f<20000000000)(hs:wN s<40000000000)(hst:st.length<1000000)(hks:ks.length<1000000) :
  Mth Γ 191 e bk s st ks w f (kN e st ks s.a s.ty s.doc w f).1 (kN e st ks s.a s.ty s.doc w f).2:=by
 have hws:=eu s;have h146:=f146 Γ w.res e st ks (by unfold big;omega) (by unfold big;omega) (by unfold big;omega);have h147:=(f147 Γ X w.needs ⟨e,st,ks,s.doc⟩ (by unfold big;omega) (by unfold wR big;simp only;omega)).arg (vs:=[gR ah w.needs,.ag (ah ⟨e,st,ks,s.doc⟩)]) ⟨oA ah _,Wk.refl _,trivial⟩;have hpn:=Fe w.needs ⟨e,st,ks,s.doc⟩;have hu1:=fun(h:Heap) (hg:V.get h 0=some (.map (mF f)))=>eI bp hg s.a s.doc
 have hnd:(gR ah w.needs).closed=true:=by cases w.needs<;>simp[gR,Val.closed,sls]
 have hlo:∀N,aS N (gR ah w.needs)=true:=by intro N;cases w.needs<;>simp[gR,aS,sls]
 have hcr:ah ⟨e,st,ks,s.doc⟩=.int .i64 e::sls cS st::sls aZ ks::aJ s.doc:=rfl;rw[hcr] at h147;by_cases hi:bg (kU e st ks) w.res 0=-1
 ·have hf:=wv (pC hi);unfold kN;rw[hf];simp only;rw[hi] at h146;unfold Mth plV cW;simp only;rw[hpn];generalize jV w.needs ⟨e,st,ks,s.doc⟩=nd2 at *
  generalize gR ah w.needs=nd at *
  clear hb hs hst hks hws hi hf hpn;refine J4 86 Tryz.func191 rfl rfl fun a hl g0 g1 g2 g3=>?_
  refine GG ?_;refine aM h146 ?_;refine GG ?_;refine jK ?_ (by intro _ _ _ _ he hq;exact⟨hq.1,(by first|exact hq.2.1|simpa[Tryz.f191] using hq.2.1),fun i b hb=>(he i).trans (hq.2.2 i b hb)⟩);refine GG ?_;refine aM h147 ?_;refine GG ?_;exact⟨by simp,by simp[Tryz.f191, *],by (repeat (first|exact aP|refine aK (by simp[V.get, *]) ?_))⟩
 ·obtain⟨pre,x,r,hl0,hp1,hp2,hix⟩:=pD hi;have hf:fj e st ks w.res=some x:=(by rw[hl0];exact tl hp1 hp2);have hxm:x∈w.res:=(by rw[hl0];simp);have hwx:=fa hxm;have h11:=H s.ty x.doc (by unfold big;omega) (by unfold big;omega);have h214:=f214 Γ w.res e st ks (by unfold big;omega) (by unfold big;omega) (by unfold big;omega);have hlen:(row ah w.res).length=w.res.length*8:=eO _;have hlR:=gf w.res;have hln:w.res.length=pre.length+(r.length+1):=(by rw[hl0];simp);have hrd:(row ah w.res).drop (pre.length*8)=ah x++row ah r:=(by rw[hl0];exact vB pre r x);rw[show ah x++row ah r=.int .i64 x.edge::sls cS x.step::sls aZ x.at_::(aJ x.doc++row ah r) by unfold ah;rfl] at hrd;have hd5:List.take 5 (aJ x.doc++row ah r)=aJ x.doc:=List.take_left' (b8 x.doc);have hlt:(pre.length:Int)<w.res.length:=(by omega);have hltN:pre.length<w.res.length:=(by omega);have hle:pre.length≤w.res.length:=(by omega);have hl8:pre.length*8≤w.res.length*8:=(by omega);have hge:(0:Int)≤pre.length:=(by omega);have hu2:=fun(h:Heap) (hg:V.get h 0=some (.map (mF (ar s.a s.doc f))))=>eI bp hg s.a x.doc
  simp only[re] at hu2;have hgm:bI s.a (ar s.a x.doc f)=some x.doc:=(by rw[bL,if_pos rfl]);have hlk:=fun(h:Heap) (hg:V.get h 0=some (.map (mF (ar s.a x.doc f))))=>fK bp hg s.a false
  rw[(fq hgm).1] at hlk;simp only[if_false,Bool.false_eq_true] at hlk;unfold kN;rw[hf];simp only;rw[hix,Nat.zero_add] at h146;unfold Mth plV cW;simp only;rw[hpn];generalize jV w.needs ⟨e,st,ks,s.doc⟩=nd2 at *
  generalize gR ah w.needs=nd at *
  generalize dX e st ks w.res=rs2 at *
  have hsr:sls ah w.res=.sl (row ah w.res) w.res.length none:=rfl;rw[hsr] at h146 h214 ⊢;have hcr2:=eS w.res;generalize row ah w.res=R at *
  generalize w.res.length=RL at *
  clear hb hs hst hks hws hi hf hpn hl0 hp1 hp2 hix hxm hwx hlR hln hgm;cases hv:cD s.ty x.doc<;>rw[hv] at h11;all_goals
   refine J4 86 Tryz.func191 rfl rfl fun a hl g0 g1 g2 g3=>?_
   refine GG ?_;refine aM h146 ?_;refine GG ?_;refine aC h11 ?_;refine GG ?_;refine aM h214 ?_;refine GG ?_;refine jK ?_ (by intro _ _ _ _ he hq;exact⟨hq.1,(by first|exact hq.2.1|simpa[Tryz.f191] using hq.2.1),fun i b hb=>(he i).trans (hq.2.2 i b hb)⟩);refine GG ?_;refine aM h147 ?_;refine GG ?_;exact⟨by simp,by simp[Tryz.f191, *],by (repeat (first|exact aP|refine aK (by simp[V.get, *]) ?_))⟩
def qv (k:Int):Nat:=if k=1 then 190 else if k=2 then 191 else if k=3 then 192 else if k=4 then 193 else if k=5 then 194 else if k=6 then 195 else if k=7 then 196 else if k=8 then 197 else if k=9 then 198 else 199
theorem f132 (k:Int):CallOk Tryz.prog Γ 132 [.pr 0 0,.int .i64 k] [] 1 true (.fn (qv k) [.pr 0 0] []) [] 1:=by
 unfold qv;by_cases h1:k=1
 ·subst h1;refine Z2 44 Tryz.func132 rfl rfl fun a hl g0 g1=>?_
  refine GG ?_;exact⟨by simp,by simp[Tryz.f132, *],fun i b h=>by cases h⟩
 rw[if_neg h1];by_cases h2:k=2
 ·subst h2;refine Z2 44 Tryz.func132 rfl rfl fun a hl g0 g1=>?_
  refine GG ?_;exact⟨by simp,by simp[Tryz.f132, *],fun i b h=>by cases h⟩
 rw[if_neg h2];by_cases h3:k=3
 ·subst h3;refine Z2 44 Tryz.func132 rfl rfl fun a hl g0 g1=>?_
  refine GG ?_;exact⟨by simp,by simp[Tryz.f132, *],fun i b h=>by cases h⟩
 rw[if_neg h3];by_cases h4:k=4
 ·subst h4;refine Z2 44 Tryz.func132 rfl rfl fun a hl g0 g1=>?_
  refine GG ?_;exact⟨by simp,by simp[Tryz.f132, *],fun i b h=>by cases h⟩
 rw[if_neg h4];by_cases h5:k=5
 ·subst h5;refine Z2 44 Tryz.func132 rfl rfl fun a hl g0 g1=>?_
  refine GG ?_;exact⟨by simp,by simp[Tryz.f132, *],fun i b h=>by cases h⟩
 rw[if_neg h5];by_cases h6:k=6
 ·subst h6;refine Z2 44 Tryz.func132 rfl rfl fun a hl g0 g1=>?_
  refine GG ?_;exact⟨by simp,by simp[Tryz.f132, *],fun i b h=>by cases h⟩
 rw[if_neg h6];by_cases h7:k=7
 ·subst h7;refine Z2 44 Tryz.func132 rfl rfl fun a hl g0 g1=>?_
  refine GG ?_;exact⟨by simp,by simp[Tryz.f132, *],fun i b h=>by cases h⟩
 rw[if_neg h7];by_cases h8:k=8
 ·subst h8;refine Z2 44 Tryz.func132 rfl rfl fun a hl g0 g1=>?_
  refine GG ?_;exact⟨by simp,by simp[Tryz.f132, *],fun i b h=>by cases h⟩
 rw[if_neg h8];by_cases h9:k=9
 ·subst h9;refine Z2 44 Tryz.func132 rfl rfl fun a hl g0 g1=>?_
  refine GG ?_;exact⟨by simp,by simp[Tryz.f132, *],fun i b h=>by cases h⟩
 rw[if_neg h9];refine Z2 44 Tryz.func132 rfl rfl fun a hl g0 g1=>?_
 refine GG ?_;exact⟨by simp,by simp[Tryz.f132, *],fun i b h=>by cases h⟩
def pT (l:List Lns):Prop:=∀(e:Int)(bk:Bool)(st:List Int)(ks:List Str)(w:Wlk)(d:Doc)(w':Wlk)(f':Flds),
 okK d=true→wD d<big→st.length+ak l<1000000→ks.length+ak l<1000000→eb e bk l 0 st ks w (ofD d)=some (w',f')→
 cH f'∧CallOk Tryz.prog Γ 76 [.pr 0 0,sls aL l,.ag (aJ d),plV st ks] [(0,.cells (cW e bk w) 135 false)] 1 true (.ag (aJ (ay f'))) [(0,.cells (cW e bk w') 135 false)] 1
theorem f198 (e:Int)(bk:Bool)(s:Lns)(st:List Int)(ks:List Str)(w:Wlk)(f:Flds)(w':Wlk)(f':Flds)(hR:pT Γ s.subs)(hb:wF f<10000000000)(ho:okK (bv s.a f)=true)(hst:st.length+ak s.subs<1000000)(hks:ks.length+ak s.subs<1000000)(hr:eb e bk s.subs 0 st ks w (ofD (bv s.a f))=some (w',f')) :
  Mth Γ 198 e bk s st ks w f w' (ar s.a (ay f') f):=by
 have hwx:=ml s.a f;have k0:=(hR e bk st ks w (bv s.a f) w' f' ho (by unfold big;omega) hst hks hr).2;replace k0:=CallOk.arg Γ k0 (vs:=[.pr 0 0,sls aL s.subs,.ag (cZ s.a f),plV st ks]) ⟨Wk.refl _,Wk.refl _,oB s.a f,Wk.refl _,trivial⟩;have hcl:=fD e bk w;have hcl':=fD e bk w';have hcx:=ep s.a f;have hlk:=fun(h:Heap) (hg:V.get h 0=some (.map (mF f)))=>fK bp hg s.a false
 simp only[if_false,Bool.false_eq_true] at hlk;have hu:=fun(h:Heap) (hg:V.get h 0=some (.map (mF f)))=>eI bp hg s.a (ay f')
 unfold Mth;unfold plV at k0 ⊢;generalize cW e bk w=W0 at *
 generalize cW e bk w'=W1 at *
 generalize cZ s.a f=cx at *
 have hlo:=fun N=>aD (N:=N) _ hcl
 have hlo':=fun N=>aD (N:=N) _ hcl'
 have hlox:=fun N=>aD (N:=N) _ hcx
 have k1:=k0.ren [1] 4 rfl (by simp[co,fg,aV,aS,aD, *]) (by simp) (by simp);simp[bJ,b9,cK,ax,tau,aH,hcl,hcl',hcx] at k1;clear k0 hR hb ho hst hks hr hwx;refine J4 20 Tryz.func198 rfl rfl fun a hl g0 g1 g2 g3=>?_
 refine GG ?_;refine jK ?_ (by intro _ _ _ _ he hq;exact⟨hq.1,(by first|exact hq.2.1|simpa[Tryz.f198] using hq.2.1),fun i b hb=>(he i).trans (hq.2.2 i b hb)⟩);refine GG ?_;refine bl k1 ?_;refine GG ?_;exact⟨by simp,by simp[Tryz.f198, *],by (repeat (first|exact aP|refine aK (by simp[V.get, *]) ?_))⟩
end
end Go.V
end
