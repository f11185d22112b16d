/-
  A part of a proof: Y5 P6.
-/
import Derived.Test.YtkfjenbfbendhaaGreatDoorPk17
import Derived.Test.YtkfjenbfbendhaaGreatDoorPk18
set_option linter.unusedSimpArgs false
set_option linter.unusedVariables false
section
set_option maxHeartbeats 4000000
namespace Go.V
open Go Go.Proofs
attribute [local irreducible] W bM WD aO yl aU bU
section
variable (Γ:Glo Tryz.prog)
attribute [local simp] veq bD eD V.del yt AB rI vP
section
variable {o:Nat} {fs:List Flt} {r:Heap}
@[local simp] theorem Bp (h:o≠0):V.get (Hc o fs++r) 0=some (.cells [.fn 210 [] [.pr 3 0,.pr 2 0,.pr 0 0,.pr 1 0]] 255 false):=by unfold Hc;rw[List.append_assoc,fc dm h];rfl
@[local simp] theorem Bq (h:o≠1):V.get (Hc o fs++r) 1=some (.cells [.fn 207 [] []] 256 false):=by unfold Hc;rw[List.append_assoc,fc dm h];rfl
@[local simp] theorem Br (h:o≠2):V.get (Hc o fs++r) 2=some (.cells [.fn 208 [] [.pr 0 0,.pr 1 0,.pr 3 0]] 255 false):=by unfold Hc;rw[List.append_assoc,fc dm h];rfl
@[local simp] theorem Bs (h:o≠3):V.get (Hc o fs++r) 3=some (.cells [.fn 142 [] [.pr 4 0]] 213 false):=by unfold Hc;rw[List.append_assoc,fc dm h];rfl
theorem iW {H:Heap}:∀i b,V.get H i=some b→V.get (H++r) i=some b:=by intro i b hb;rw[eY,hb];rfl
theorem kV (h:5≤o):∀i,i<5→(V.get (Hc o fs) i).isSome:=by
 intro i hi;unfold Hc;rw[fc dm (by omega)]
 match i,hi with
 |0,_|1,_|2,_|3,_|4,_=>simp[BxY,V.get]
theorem zt:∀{H:Heap}{p:Nat×Blk},p∈H→(V.get H p.1).isSome
 |q::H,p,h=>by
  obtain⟨k,c⟩:=q;rw[V.get];split
  ·rfl
  ·rename_i hne;rcases List.mem_cons.1 h with rfl|h
   ·exact(hne rfl).elim
   ·exact zt h
theorem oO {H R:Heap}(h:∀p∈r,V.get H p.1=none):over (H++r) H R=R++r:=by
 unfold over;rw[List.filter_append];have h1:H.filter (fun p=>!(V.get H p.1).isSome)=[]:=List.filter_eq_nil_iff.2 fun p hp=>by simp[zt hp]
 have h2:r.filter (fun p=>!(V.get H p.1).isSome)=r:=List.filter_eq_self.2 fun p hp=>by simp[h p hp]
 rw[h1,h2,List.nil_append]
end
attribute [local simp] Bp Bq Br Bs
theorem gw (g:Doc→List Str→List Flt)(p:List Str):∀(ks:List Str)(ds:List Doc)(ks':List Str)(ds':List Doc),ks.length=ds.length→cn g (ks++ks') (ds++ds') p=cn g ks ds p++cn g ks' ds' p
 |[],[],ks',ds',_=>by simp[cn]
 |[],_::_,_,_,h=>by simp at h
 |_::_,[],_,_,h=>by simp at h
 |k::ks,d::ds,ks',ds',h=>by rw[List.cons_append,List.cons_append,cn,gw g p ks ds ks' ds' (by simpa using h),cn,List.append_assoc]
theorem gx (it:Nat→Str)(g:Doc→List Str→List Flt)(p:List Str):∀(ds ds':List Doc)(i:Nat),dE it g (ds++ds') i p=dE it g ds i p++dE it g ds' (i+ds.length) p
 |[],ds',i=>by simp[dE]
 |d::ds,ds',i=>by rw[List.cons_append,dE,gx it g p ds ds' (i+1),dE,List.append_assoc,List.length_cons,show i+1+ds.length=i+(ds.length+1) by omega]
theorem f210t (t:Ty)(d:Doc)(p:List Str)(fs:List Flt)(ht:wT t<big)(hf:d7 t d=7)(hb:fs.length<1000000000) :
  CallOk Tryz.prog Γ 210 [.ag (cTy t),.ag (aJ d),sls aZ p,.pr 3 0,.pr 2 0,.pr 0 0,.pr 1 0] (Hc 5 fs) 6 true (.tp []) (Hc 6 (fs++[(p,7)])) 7:=by
 have h211:=f211 Γ t d ht;rw[hf] at h211;have k2:=(f142h Γ fs p 7 hb).hc Γ (by simp[aV,aS]) rfl 5 16 (by omega) (by omega);obtain⟨R,hR⟩:∃R,R=Hc 16 (fs++[(p,7)]):=⟨_,rfl⟩;rw[←hR] at k2;replace hR:Hid R (Hc 16 (fs++[(p,7)])):=hR;clear hf;refine bc Tryz.func210 rfl (by simp[Tryz.f210]) (by omega) (by simp[aS,aV]) (ic (by omega) (by omega) _) ?_;intro a hl ha;replace hl:a.length=89:=hl;have g0:=ha 0 _ rfl;have g1:=ha 1 _ rfl;have g2:=ha 2 _ rfl;have g3:=ha 3 _ rfl;have g4:=ha 4 _ rfl;have g5:=ha 5 _ rfl;have g6:=ha 6 _ rfl;clear ha;refine GG ?_;all_goals (try (refine aC h211 ?_))
 refine GG ?_;refine aw k2 ?_ (hsub:=iW) (hkeys:=by rw[show R=_ from hR];exact fU (by omega) (kV (by omega))) (hh:=oO (by simp));refine GG ?_;exact⟨by simp,[(16,6)],.tp [],R,.tp [],R,by simp,(by rw[show R=_ from hR];exact eC (by omega) _),by simp[Tryz.f210],by simp[ax,cK],(by rw[show R=_ from hR,bK fun i hi=>bY (by omega) (by omega),bX]),iW,Clo.refl _ _⟩
theorem f210r (t:Ty)(d:Doc)(p:List Str)(fs:List Flt)(X:List Flt)(ht:wT t<big)(hf:d7 t d=0)(hk:t.kind=1)(h208:CallOk Tryz.prog Γ 208 [.ag (cTy t),.ag (aJ d),sls aZ p,.pr 0 0,.pr 1 0,.pr 3 0] (Hc 5 fs) 6 true (.tp []) (Hc 6 (fs++X)) 7) :
  CallOk Tryz.prog Γ 210 [.ag (cTy t),.ag (aJ d),sls aZ p,.pr 3 0,.pr 2 0,.pr 0 0,.pr 1 0] (Hc 5 fs) 6 true (.tp []) (Hc 6 (fs++X)) 7:=by
 have h211:=f211 Γ t d ht;rw[hf] at h211;have k2:=h208.hc Γ (by simp[aV,aS,aD]) rfl 5 24 (by omega) (by omega);obtain⟨R,hR⟩:∃R,R=Hc 24 (fs++X):=⟨_,rfl⟩;rw[←hR] at k2;replace hR:Hid R (Hc 24 (fs++X)):=hR;have ht6:List.take 6 (cTy t)=cTy t:=List.take_of_length_le (by rw[bG];omega);have hd5:List.take 5 (aJ d)=aJ d:=List.take_of_length_le (by rw[b8];omega);clear hf h208;refine bc Tryz.func210 rfl (by simp[Tryz.f210]) (by omega) (by simp[aS,aV]) (ic (by omega) (by omega) _) ?_;intro a hl ha;replace hl:a.length=89:=hl;have g0:=ha 0 _ rfl;have g1:=ha 1 _ rfl;have g2:=ha 2 _ rfl;have g3:=ha 3 _ rfl;have g4:=ha 4 _ rfl;have g5:=ha 5 _ rfl;have g6:=ha 6 _ rfl;clear ha;refine GG ?_;all_goals (try (refine aC h211 ?_))
 refine GG ?_;refine aw k2 ?_ (hsub:=iW) (hkeys:=by rw[show R=_ from hR];exact fU (by omega) (kV (by omega))) (hh:=oO (by simp));refine GG ?_;exact⟨by simp,[(24,6)],.tp [],R,.tp [],R,by simp,(by rw[show R=_ from hR];exact eC (by omega) _),by simp[Tryz.f210],by simp[ax,cK],(by rw[show R=_ from hR,bK fun i hi=>bY (by omega) (by omega),bX]),iW,Clo.refl _ _⟩
theorem f210n (t:Ty)(d:Doc)(p:List Str)(fs:List Flt)(ht:wT t<big)(hf:d7 t d=0)(k1:¬t.kind=1)(k2:¬t.kind=2)(k3:¬t.kind=3) :
  CallOk Tryz.prog Γ 210 [.ag (cTy t),.ag (aJ d),sls aZ p,.pr 3 0,.pr 2 0,.pr 0 0,.pr 1 0] (Hc 5 fs) 6 true (.tp []) (Hc 6 (fs)) 7:=by
 have h211:=f211 Γ t d ht;rw[hf] at h211;clear hf;refine bc Tryz.func210 rfl (by simp[Tryz.f210]) (by omega) (by simp[aS,aV]) (ic (by omega) (by omega) _) ?_;intro a hl ha;replace hl:a.length=89:=hl;have g0:=ha 0 _ rfl;have g1:=ha 1 _ rfl;have g2:=ha 2 _ rfl;have g3:=ha 3 _ rfl;have g4:=ha 4 _ rfl;have g5:=ha 5 _ rfl;have g6:=ha 6 _ rfl;clear ha;refine GG ?_;all_goals (try (refine aC h211 ?_))
 refine GG ?_;exact⟨by simp,[(5,6)],.tp [],Hc 5 fs,.tp [],Hc 5 fs,by simp,eC (by omega) _,by simp[Tryz.f210],by simp[ax,cK],(by rw[bK fun i hi=>bY (by omega) (by omega),bX]),iW,Clo.refl _ _⟩
theorem f210e (t:Ty)(d:Doc)(p:List Str)(fs:List Flt)(ht:wT t<big)(hf:d7 t d=8)(k1:¬t.kind=1)(k2:¬t.kind=2)(k3:¬t.kind=3)(hb:fs.length<1000000000) :
  CallOk Tryz.prog Γ 210 [.ag (cTy t),.ag (aJ d),sls aZ p,.pr 3 0,.pr 2 0,.pr 0 0,.pr 1 0] (Hc 5 fs) 6 true (.tp []) (Hc 6 (fs++[(p,8)])) 7:=by
 have h211:=f211 Γ t d ht;rw[hf] at h211;have k4:=(f142h Γ fs p 8 hb).hc Γ (by simp[aV,aS]) rfl 5 16 (by omega) (by omega);obtain⟨R,hR⟩:∃R,R=Hc 16 (fs++[(p,8)]):=⟨_,rfl⟩;rw[←hR] at k4;replace hR:Hid R (Hc 16 (fs++[(p,8)])):=hR;clear hf;refine bc Tryz.func210 rfl (by simp[Tryz.f210]) (by omega) (by simp[aS,aV]) (ic (by omega) (by omega) _) ?_;intro a hl ha;replace hl:a.length=89:=hl;have g0:=ha 0 _ rfl;have g1:=ha 1 _ rfl;have g2:=ha 2 _ rfl;have g3:=ha 3 _ rfl;have g4:=ha 4 _ rfl;have g5:=ha 5 _ rfl;have g6:=ha 6 _ rfl;clear ha;refine GG ?_;all_goals (try (refine aC h211 ?_))
 refine GG ?_;refine aw k4 ?_ (hsub:=iW) (hkeys:=by rw[show R=_ from hR];exact fU (by omega) (kV (by omega))) (hh:=oO (by simp));have g6R:∀r,V.get (R++[(6,.cells (cTy t) 26 false),(7,.cells (aJ d) 30 false)]) 6=some (.cells (cTy t) 26 false):=fun r=>by rw[show R=_ from hR,rI (by omega) (by omega)];rfl
 have g7R:∀r,V.get (R++[(6,.cells (cTy t) 26 false),(7,.cells (aJ d) 30 false)]) 7=some (.cells (aJ d) 30 false):=fun r=>by rw[show R=_ from hR,rI (by omega) (by omega)];rfl
 rw[show R=_ from hR];refine GG ?_;exact⟨by simp,[(16,6)],.tp [],Hc 16 (fs++[(p,8)]),.tp [],Hc 16 (fs++[(p,8)]),by simp,eC (by omega) _,by simp[Tryz.f210],by simp[ax,cK],(by rw[bK fun i hi=>bY (by omega) (by omega),bX]),iW,Clo.refl _ _⟩
theorem f210k2z (t:Ty)(d:Doc)(p:List Str)(fs:List Flt)(it:Nat→Str)(u:Ty)(ht:wT t<big)(hd:wD d<1000000000)(hf:d7 t d=0)(hk:t.kind=2)(hu:t.of=[u])(hp:p.length+dK u+1<1000000)(hkids:∀x∈d.kids,rightD x=true)(hX:(fs++cn (fun x q=>aX it u x q) d.keys d.kids p).length<1000000000)(hA:A7 Γ it u)(hlen:d.keys.length=d.kids.length) :
  CallOk Tryz.prog Γ 210 [.ag (cTy t),.ag (aJ d),sls aZ p,.pr 3 0,.pr 2 0,.pr 0 0,.pr 1 0] (Hc 5 fs) 6 true (.tp []) (Hc 6 (fs++cn (fun x q=>aX it u x q) d.keys d.kids p)) 7:=by
 have h211:=f211 Γ t d ht;rw[hf] at h211;have hbk:d.kids.length<100000000000:=by have:=gJ d;omega
 clear hf;obtain⟨acc0,hacc0⟩:∃acc0,acc0=fs:=⟨_,rfl⟩;rw[←hacc0] at hX ⊢;replace hacc0:Hid acc0 fs:=hacc0;refine bc Tryz.func210 rfl (by simp[Tryz.f210]) (by omega) (by simp[aS,aV]) (ic (by omega) (by omega) _) ?_;intro a hl ha;replace hl:a.length=89:=hl;have g0:=ha 0 _ rfl;have g1:=ha 1 _ rfl;have g2:=ha 2 _ rfl;have g3:=ha 3 _ rfl;have g4:=ha 4 _ rfl;have g5:=ha 5 _ rfl;have g6:=ha 6 _ rfl;clear ha;refine GG ?_;all_goals (try (refine aC h211 ?_))
 refine GG ?_;refine mq 5 28 [(11,12),(44,63)] [43] 29 (fun k a h=>∃kp kr dp dr,d.keys=kp++kr∧d.kids=dp++dr∧kp.length=dp.length∧k=dr.length∧lk a 43=some (.int .i64 dp.length)∧h=Hc 28 (acc0++cn (fun x q=>aX it u x q) kp dp p)++[(6,.cells (cTy t) 26 false),(7,.cells (aJ d) 30 false)]) (by omega) (bR (by simp) (by omega) (by simp)) ⟨[],d.keys,[],d.kids,rfl,rfl,rfl,rfl,by simp[*],(by rw[ai,bK (fun i hi=>by unfold to1;rw[if_neg (by omega)])];simp[bJ,b9,aH,to1,cn])⟩ ?_;intro a1 hk hk0 k a h hF hI;replace g2:=hF.a hk 2;replace g5:=hF.a hk 5;replace g6:=hF.a hk 6;replace g7:=hF.a hk 7;replace g8:=hF.a hk 8;replace g41:=hF.a hk 41;replace g42:=hF.a hk 42;replace hl:a.length=89:=hF.len.trans (hk0.trans (by simp[*]));clear hk hk0;obtain⟨kp,kr,dp,dr,hkk,hl0,hkl,rfl,hix,rfl⟩:=hI;rw[hl0] at hlen;have hWD:∀y∈d.kids,wD y<1000000000:=fun y hy=>by have:=mn hy;have:=kC d;omega
 clear hd;generalize d.kids=KD at *
 subst hl0;cases dr with
 |nil=>
  have hkr:kr=[]:=(by rw[hkk] at hlen;simp at hlen;exact List.eq_nil_of_length_eq_zero (by omega));subst hkr;simp only[List.append_nil] at *
  rw[hkk];clear hA hkids hX;refine GG ?_;exact⟨by simp,[(28,6)],.tp [],Hc 28 (acc0++cn (fun x q=>aX it u x q) kp dp p),.tp [],Hc 28 (acc0++cn (fun x q=>aX it u x q) kp dp p),by simp,eC (by omega) _,by simp[Tryz.f210],by simp[ax,cK],by rw[bK fun i hi=>bY (by omega) (by omega),bX],iW,Clo.refl _ _⟩
 |cons y dr=>
  have hlt:(dp.length:Int)<dp.length+(dr.length+1):=(by omega);have hw:=ac ((dp.length:Int)+1) (by omega) (by simp at hbk;omega);have hbl':dp.length<100000000000:=(by simp at hbk;omega);obtain⟨key,kr',rfl⟩:∃key kr',kr=key::kr':=by
   cases kr with
   |nil=>rw[hkk] at hlen;simp at hlen;omega
   |cons x y=>exact⟨x,y,rfl⟩
  have hkey:(row aZ (kp++key::kr')).drop dp.length=.str key::row aZ kr':=(by rw[←hkl];exact fz kp kr' key);have hlt2:(dp.length:Int)<kp.length+(kr'.length+1):=(by omega);have hle2:dp.length≤kp.length+(kr'.length+1):=(by omega);have hle3:dp.length≤(row aZ (kp++key::kr')).length:=(by rw[gq];simp;omega);have hsn:=gw (fun x q=>aX it u x q) p kp dp [key] [y] hkl;have hone:cn (fun x q=>aX it u x q) [key] [y] p=aX it u y (p++[key]):=(by simp[cn]);have hbf:(acc0++cn (fun x q=>aX it u x q) kp dp p++aX it u y (p++[key])).length<1000000000:=(by rw[hkk,show kp++key::kr'=(kp++[key])++kr' by simp,show dp++y::dr=(dp++[y])++dr by simp,gw _ p (kp++[key]) (dp++[y]) kr' dr (by simp[hkl]),hsn,hone] at hX;simp only[List.length_append] at hX ⊢;omega);have hnext:acc0++cn (fun x q=>aX it u x q) (kp++[key]) (dp++[y]) p=acc0++cn (fun x q=>aX it u x q) kp dp p++aX it u y (p++[key]):=(by rw[hsn,hone,List.append_assoc]);have h207:=f207 Γ p key (by unfold big;omega);have htu:List.take 6 (row cTy [u])=cTy u:=(by rw[cM,eh,List.append_nil];exact List.take_of_length_le (by rw[bG];omega));have hru:row cTy [u]=cTy u:=(by rw[cM,eh,List.append_nil]);have hlu:(row cTy [u]).length=6:=(by rw[hru];exact bG u);have hsl:sls cTy [u]=.sl (row cTy [u]) 1 none:=rfl;have hd5:List.take 5 (aJ y)=aJ y:=List.take_of_length_le (by rw[b8];omega);obtain⟨acc,hacc⟩:∃acc,acc=acc0++cn (fun x q=>aX it u x q) kp dp p:=⟨_,rfl⟩;rw[←hacc] at hbf hnext ⊢;replace hacc:Hid acc (acc0++cn (fun x q=>aX it u x q) kp dp p):=hacc;have k1:=(hA y (p++[key]) acc (hkids y (by simp)) (hWD y (by simp)) (by simp;omega) hbf).hc Γ (by simp[aV,aS,aD]) rfl 28 36 (by omega) (by omega);obtain⟨R,hR⟩:∃R,R=Hc 36 (acc++aX it u y (p++[key])):=⟨_,rfl⟩;rw[←hR] at k1;replace hR:Hid R (Hc 36 (acc++aX it u y (p++[key]))):=hR;generalize p++[key]=q at *
  clear hA hkids hX hsn hone hbf hWD;replace hkl:Hid kp.length dp.length:=hkl;have hkq:kp.length+1=dp.length+1:=congrArg (· + 1) hkl;replace hkq:Eqn (kp++[key]).length (dp++[y]).length:=(by show(kp++[key]).length=(dp++[y]).length;simp;exact hkl);clear hlen;unfold Hc BxY at k1 ⊢;rcases cz dm 2 dx cG fW 28 77 acc with ⟨_,e1,e2,_⟩|⟨n,cs,hn,hcs,e1,e2,_,c1,c2,c3⟩<;>rw[e1,e2] at k1 ⊢ <;> clear e1 e2<;>simp only[List.cons_append,List.nil_append] at k1 ⊢
  ·refine GG ?_;refine aM h207 ?_;refine GG ?_;refine bl k1 ?_ (hkeys:=by rw[show R=_ from hR];exact fU (by omega) (o0 (by simp[V.get]) (by simp[V.get]) (by simp[V.get]) (by simp[V.get]) (by simp[V.get])));refine GG ?_;exact⟨(by (repeat refine Frm.set ?_ rfl);exact hF),[(36,28)],R++[(6,.cells (cTy t) 26 false),(7,.cells (aJ d) 30 false)],(by exact ez (by (repeat (first|exact aP|refine aK (by simp[V.get, *]) ?_)))),(by simp),(by rw[show R=_ from hR];exact bR (by simp) (by omega) (by simp)),(by simp[*,aS,aV,aD,ax]),(by rw[show R=_ from hR,ai,bK fun i hi=>bY (by omega) (by omega),bX];exact eM (by omega) (by omega) (by simp[bJ,b9,aH,bW,cN])),dr.length,rfl,fun a2 hF2 hL2=>⟨kp++[key],kr',dp++[y],dr,by rw[hkk];simp,by simp,hkq,rfl,((hL2 43 (by simp)).trans (by simp[*]<;>omega)),by rw[show R=_ from hR,ai,bK fun i hi=>bY (by omega) (by omega),bX,hnext];simp[bJ,b9,aH,Hc,BxY]⟩⟩
  ·have hlo:=fun N=>aD (N:=N) _ c2
   refine GG ?_;refine aM h207 ?_;refine GG ?_;refine bl k1 ?_ (hkeys:=by rw[show R=_ from hR];exact fU (by omega) (o0 (by simp[V.get]) (by simp[V.get]) (by simp[V.get]) (by simp[V.get]) (by simp[V.get])));refine GG ?_;exact⟨(by (repeat refine Frm.set ?_ rfl);exact hF),[(36,28)],R++[(6,.cells (cTy t) 26 false),(7,.cells (aJ d) 30 false)],(by exact ez (by (repeat (first|exact aP|refine aK (by simp[V.get, *]) ?_)))),(by simp),(by rw[show R=_ from hR];exact bR (by simp) (by omega) (by simp)),(by simp[*,aS,aV,aD,ax]),(by rw[show R=_ from hR,ai,bK fun i hi=>bY (by omega) (by omega),bX];exact eM (by omega) (by omega) (by simp[bJ,b9,aH,bW,cN])),dr.length,rfl,fun a2 hF2 hL2=>⟨kp++[key],kr',dp++[y],dr,by rw[hkk];simp,by simp,hkq,rfl,((hL2 43 (by simp)).trans (by simp[*]<;>omega)),by rw[show R=_ from hR,ai,bK fun i hi=>bY (by omega) (by omega),bX,hnext];simp[bJ,b9,aH,Hc,BxY]⟩⟩
theorem f210k2e (t:Ty)(d:Doc)(p:List Str)(fs:List Flt)(it:Nat→Str)(u:Ty)(ht:wT t<big)(hd:wD d<1000000000)(hf:d7 t d=8)(hk:t.kind=2)(hu:t.of=[u])(hp:p.length+dK u+1<1000000)(hkids:∀x∈d.kids,rightD x=true)(hX:((fs++[(p,8)])++cn (fun x q=>aX it u x q) d.keys d.kids p).length<1000000000)(hA:A7 Γ it u)(hlen:d.keys.length=d.kids.length) :
  CallOk Tryz.prog Γ 210 [.ag (cTy t),.ag (aJ d),sls aZ p,.pr 3 0,.pr 2 0,.pr 0 0,.pr 1 0] (Hc 5 fs) 6 true (.tp []) (Hc 6 ((fs++[(p,8)])++cn (fun x q=>aX it u x q) d.keys d.kids p)) 7:=by
 have h211:=f211 Γ t d ht;rw[hf] at h211;have hbk:d.kids.length<100000000000:=by have:=gJ d;omega
 have k4:=(f142h Γ fs p 8 (by simp only[List.length_append,List.length_cons,List.length_nil] at hX;omega)).hc Γ (by simp[aV,aS]) rfl 5 16 (by omega) (by omega);obtain⟨R,hR⟩:∃R,R=Hc 16 (fs++[(p,8)]):=⟨_,rfl⟩;rw[←hR] at k4;replace hR:Hid R (Hc 16 (fs++[(p,8)])):=hR;clear hf;obtain⟨acc0,hacc0⟩:∃acc0,acc0=(fs++[(p,8)]):=⟨_,rfl⟩;rw[←hacc0] at hX ⊢;replace hacc0:Hid acc0 (fs++[(p,8)]):=hacc0;refine bc Tryz.func210 rfl (by simp[Tryz.f210]) (by omega) (by simp[aS,aV]) (ic (by omega) (by omega) _) ?_;intro a hl ha;replace hl:a.length=89:=hl;have g0:=ha 0 _ rfl;have g1:=ha 1 _ rfl;have g2:=ha 2 _ rfl;have g3:=ha 3 _ rfl;have g4:=ha 4 _ rfl;have g5:=ha 5 _ rfl;have g6:=ha 6 _ rfl;clear ha;refine GG ?_;all_goals (try (refine aC h211 ?_))
 refine GG ?_;refine aw k4 ?_ (hsub:=iW) (hkeys:=by rw[show R=_ from hR];exact fU (by omega) (kV (by omega))) (hh:=oO (by simp));rw[show R=_ from hR];clear k4 hR R;rw[←show acc0=fs++[(p,8)] from hacc0];refine GG ?_;refine mq 16 32 [(11,12),(44,63)] [43] 33 (fun k a h=>∃kp kr dp dr,d.keys=kp++kr∧d.kids=dp++dr∧kp.length=dp.length∧k=dr.length∧lk a 43=some (.int .i64 dp.length)∧h=Hc 32 (acc0++cn (fun x q=>aX it u x q) kp dp p)++[(6,.cells (cTy t) 26 false),(7,.cells (aJ d) 30 false)]) (by omega) (bR (by simp) (by omega) (by simp)) ⟨[],d.keys,[],d.kids,rfl,rfl,rfl,rfl,by simp[*],(by rw[ai,bK (fun i hi=>by unfold to1;rw[if_neg (by omega)])];simp[bJ,b9,aH,to1,cn])⟩ ?_;intro a1 hk hk0 k a h hF hI;replace g2:=hF.a hk 2;replace g5:=hF.a hk 5;replace g6:=hF.a hk 6;replace g7:=hF.a hk 7;replace g8:=hF.a hk 8;replace g41:=hF.a hk 41;replace g42:=hF.a hk 42;replace hl:a.length=89:=hF.len.trans (hk0.trans (by simp[*]));clear hk hk0;obtain⟨kp,kr,dp,dr,hkk,hl0,hkl,rfl,hix,rfl⟩:=hI;rw[hl0] at hlen;have hWD:∀y∈d.kids,wD y<1000000000:=fun y hy=>by have:=mn hy;have:=kC d;omega
 clear hd;generalize d.kids=KD at *
 subst hl0;cases dr with
 |nil=>
  have hkr:kr=[]:=(by rw[hkk] at hlen;simp at hlen;exact List.eq_nil_of_length_eq_zero (by omega));subst hkr;simp only[List.append_nil] at *
  rw[hkk];clear hA hkids hX;refine GG ?_;exact⟨by simp,[(32,6)],.tp [],Hc 32 (acc0++cn (fun x q=>aX it u x q) kp dp p),.tp [],Hc 32 (acc0++cn (fun x q=>aX it u x q) kp dp p),by simp,eC (by omega) _,by simp[Tryz.f210],by simp[ax,cK],by rw[bK fun i hi=>bY (by omega) (by omega),bX],iW,Clo.refl _ _⟩
 |cons y dr=>
  have hlt:(dp.length:Int)<dp.length+(dr.length+1):=(by omega);have hw:=ac ((dp.length:Int)+1) (by omega) (by simp at hbk;omega);have hbl':dp.length<100000000000:=(by simp at hbk;omega);obtain⟨key,kr',rfl⟩:∃key kr',kr=key::kr':=by
   cases kr with
   |nil=>rw[hkk] at hlen;simp at hlen;omega
   |cons x y=>exact⟨x,y,rfl⟩
  have hkey:(row aZ (kp++key::kr')).drop dp.length=.str key::row aZ kr':=(by rw[←hkl];exact fz kp kr' key);have hlt2:(dp.length:Int)<kp.length+(kr'.length+1):=(by omega);have hle2:dp.length≤kp.length+(kr'.length+1):=(by omega);have hle3:dp.length≤(row aZ (kp++key::kr')).length:=(by rw[gq];simp;omega);have hsn:=gw (fun x q=>aX it u x q) p kp dp [key] [y] hkl;have hone:cn (fun x q=>aX it u x q) [key] [y] p=aX it u y (p++[key]):=(by simp[cn]);have hbf:(acc0++cn (fun x q=>aX it u x q) kp dp p++aX it u y (p++[key])).length<1000000000:=(by rw[hkk,show kp++key::kr'=(kp++[key])++kr' by simp,show dp++y::dr=(dp++[y])++dr by simp,gw _ p (kp++[key]) (dp++[y]) kr' dr (by simp[hkl]),hsn,hone] at hX;simp only[List.length_append] at hX ⊢;omega);have hnext:acc0++cn (fun x q=>aX it u x q) (kp++[key]) (dp++[y]) p=acc0++cn (fun x q=>aX it u x q) kp dp p++aX it u y (p++[key]):=(by rw[hsn,hone,List.append_assoc]);have h207:=f207 Γ p key (by unfold big;omega);have htu:List.take 6 (row cTy [u])=cTy u:=(by rw[cM,eh,List.append_nil];exact List.take_of_length_le (by rw[bG];omega));have hru:row cTy [u]=cTy u:=(by rw[cM,eh,List.append_nil]);have hlu:(row cTy [u]).length=6:=(by rw[hru];exact bG u);have hsl:sls cTy [u]=.sl (row cTy [u]) 1 none:=rfl;have hd5:List.take 5 (aJ y)=aJ y:=List.take_of_length_le (by rw[b8];omega);obtain⟨acc,hacc⟩:∃acc,acc=acc0++cn (fun x q=>aX it u x q) kp dp p:=⟨_,rfl⟩;rw[←hacc] at hbf hnext ⊢;replace hacc:Hid acc (acc0++cn (fun x q=>aX it u x q) kp dp p):=hacc;have k1:=(hA y (p++[key]) acc (hkids y (by simp)) (hWD y (by simp)) (by simp;omega) hbf).hc Γ (by simp[aV,aS,aD]) rfl 32 40 (by omega) (by omega);obtain⟨R,hR⟩:∃R,R=Hc 40 (acc++aX it u y (p++[key])):=⟨_,rfl⟩;rw[←hR] at k1;replace hR:Hid R (Hc 40 (acc++aX it u y (p++[key]))):=hR;generalize p++[key]=q at *
  clear hA hkids hX hsn hone hbf hWD;replace hkl:Hid kp.length dp.length:=hkl;have hkq:kp.length+1=dp.length+1:=congrArg (· + 1) hkl;replace hkq:Eqn (kp++[key]).length (dp++[y]).length:=(by show(kp++[key]).length=(dp++[y]).length;simp;exact hkl);clear hlen;unfold Hc BxY at k1 ⊢;rcases cz dm 2 dx cG fW 32 77 acc with ⟨_,e1,e2,_⟩|⟨n,cs,hn,hcs,e1,e2,_,c1,c2,c3⟩<;>rw[e1,e2] at k1 ⊢ <;> clear e1 e2<;>simp only[List.cons_append,List.nil_append] at k1 ⊢
  ·refine GG ?_;refine aM h207 ?_;refine GG ?_;refine bl k1 ?_ (hkeys:=by rw[show R=_ from hR];exact fU (by omega) (o0 (by simp[V.get]) (by simp[V.get]) (by simp[V.get]) (by simp[V.get]) (by simp[V.get])));refine GG ?_;exact⟨(by (repeat refine Frm.set ?_ rfl);exact hF),[(40,32)],R++[(6,.cells (cTy t) 26 false),(7,.cells (aJ d) 30 false)],(by exact ez (by (repeat (first|exact aP|refine aK (by simp[V.get, *]) ?_)))),(by simp),(by rw[show R=_ from hR];exact bR (by simp) (by omega) (by simp)),(by simp[*,aS,aV,aD,ax]),(by rw[show R=_ from hR,ai,bK fun i hi=>bY (by omega) (by omega),bX];exact eM (by omega) (by omega) (by simp[bJ,b9,aH,bW,cN])),dr.length,rfl,fun a2 hF2 hL2=>⟨kp++[key],kr',dp++[y],dr,by rw[hkk];simp,by simp,hkq,rfl,((hL2 43 (by simp)).trans (by simp[*]<;>omega)),by rw[show R=_ from hR,ai,bK fun i hi=>bY (by omega) (by omega),bX,hnext];simp[bJ,b9,aH,Hc,BxY]⟩⟩
  ·have hlo:=fun N=>aD (N:=N) _ c2
   refine GG ?_;refine aM h207 ?_;refine GG ?_;refine bl k1 ?_ (hkeys:=by rw[show R=_ from hR];exact fU (by omega) (o0 (by simp[V.get]) (by simp[V.get]) (by simp[V.get]) (by simp[V.get]) (by simp[V.get])));refine GG ?_;exact⟨(by (repeat refine Frm.set ?_ rfl);exact hF),[(40,32)],R++[(6,.cells (cTy t) 26 false),(7,.cells (aJ d) 30 false)],(by exact ez (by (repeat (first|exact aP|refine aK (by simp[V.get, *]) ?_)))),(by simp),(by rw[show R=_ from hR];exact bR (by simp) (by omega) (by simp)),(by simp[*,aS,aV,aD,ax]),(by rw[show R=_ from hR,ai,bK fun i hi=>bY (by omega) (by omega),bX];exact eM (by omega) (by omega) (by simp[bJ,b9,aH,bW,cN])),dr.length,rfl,fun a2 hF2 hL2=>⟨kp++[key],kr',dp++[y],dr,by rw[hkk];simp,by simp,hkq,rfl,((hL2 43 (by simp)).trans (by simp[*]<;>omega)),by rw[show R=_ from hR,ai,bK fun i hi=>bY (by omega) (by omega),bX,hnext];simp[bJ,b9,aH,Hc,BxY]⟩⟩
theorem f210k3z (t:Ty)(d:Doc)(p:List Str)(fs:List Flt)(it:Nat→Str)(u:Ty)(ht:wT t<big)(hd:wD d<1000000000)(hf:d7 t d=0)(hk:t.kind=3)(hu:t.of=[u])(hp:p.length+dK u+1<1000000)(hkids:∀x∈d.kids,rightD x=true)(hX:(fs++dE it (fun x q=>aX it u x q) d.kids 0 p).length<1000000000)(hA:A7 Γ it u)(hit:∀k:Nat,k<d.kids.length→PureOk Tryz.prog Γ 65 [.int .i64 k] (.str (it k))) :
  CallOk Tryz.prog Γ 210 [.ag (cTy t),.ag (aJ d),sls aZ p,.pr 3 0,.pr 2 0,.pr 0 0,.pr 1 0] (Hc 5 fs) 6 true (.tp []) (Hc 6 (fs++dE it (fun x q=>aX it u x q) d.kids 0 p)) 7:=by
 have h211:=f211 Γ t d ht;rw[hf] at h211;have hbk:d.kids.length<100000000000:=by have:=gJ d;omega
 clear hf;obtain⟨acc0,hacc0⟩:∃acc0,acc0=fs:=⟨_,rfl⟩;rw[←hacc0] at hX ⊢;replace hacc0:Hid acc0 fs:=hacc0;refine bc Tryz.func210 rfl (by simp[Tryz.f210]) (by omega) (by simp[aS,aV]) (ic (by omega) (by omega) _) ?_;intro a hl ha;replace hl:a.length=89:=hl;have g0:=ha 0 _ rfl;have g1:=ha 1 _ rfl;have g2:=ha 2 _ rfl;have g3:=ha 3 _ rfl;have g4:=ha 4 _ rfl;have g5:=ha 5 _ rfl;have g6:=ha 6 _ rfl;clear ha;refine GG ?_;all_goals (try (refine aC h211 ?_))
 refine GG ?_;refine mq 5 32 [(13,14),(72,88)] [71] 33 (fun k a h=>∃dp dr,d.kids=dp++dr∧k=dr.length∧lk a 71=some (.int .i64 dp.length)∧h=Hc 32 (acc0++dE it (fun x q=>aX it u x q) dp 0 p)++[(6,.cells (cTy t) 26 false),(7,.cells (aJ d) 30 false)]) (by omega) (bR (by simp) (by omega) (by simp)) ⟨[],d.kids,rfl,rfl,by simp[*],(by rw[ai,bK (fun i hi=>by unfold to1;rw[if_neg (by omega)])];simp[bJ,b9,aH,to1,dE])⟩ ?_;intro a1 hk hk0 k a h hF hI;replace g2:=hF.a hk 2;replace g5:=hF.a hk 5;replace g6:=hF.a hk 6;replace g7:=hF.a hk 7;replace g69:=hF.a hk 69;replace g70:=hF.a hk 70;replace hl:a.length=89:=hF.len.trans (hk0.trans (by simp[*]));clear hk hk0;obtain⟨dp,dr,hl0,rfl,hix,rfl⟩:=hI;have hWD:∀y∈d.kids,wD y<1000000000:=fun y hy=>by have:=mn hy;have:=kC d;omega
 clear hd;generalize d.kids=KD at *
 subst hl0;cases dr with
 |nil=>
  simp only[List.append_nil] at *
  clear hA hkids hX hit;refine GG ?_;exact⟨by simp,[(32,6)],.tp [],Hc 32 (acc0++dE it (fun x q=>aX it u x q) dp 0 p),.tp [],Hc 32 (acc0++dE it (fun x q=>aX it u x q) dp 0 p),by simp,eC (by omega) _,by simp[Tryz.f210],by simp[ax,cK],by rw[bK fun i hi=>bY (by omega) (by omega),bX],iW,Clo.refl _ _⟩
 |cons y dr=>
  have hlt:(dp.length:Int)<dp.length+(dr.length+1):=(by omega);have hw:=ac ((dp.length:Int)+1) (by omega) (by simp at hbk;omega);have hbl':dp.length<100000000000:=(by simp at hbk;omega);obtain⟨key,hkey⟩:∃key,key=it dp.length:=⟨_,rfl⟩;have h65:=hit dp.length (by simp);rw[←hkey] at h65;have hsn:=gx it (fun x q=>aX it u x q) p dp [y] 0;have hone:dE it (fun x q=>aX it u x q) [y] (0+dp.length) p=aX it u y (p++[key]):=(by simp[dE,hkey]);have hbf:(acc0++dE it (fun x q=>aX it u x q) dp 0 p++aX it u y (p++[key])).length<1000000000:=(by rw[show dp++y::dr=(dp++[y])++dr by simp,gx it _ p (dp++[y]) dr,hsn,hone] at hX;simp only[List.length_append] at hX ⊢;omega);have hnext:acc0++dE it (fun x q=>aX it u x q) (dp++[y]) 0 p=acc0++dE it (fun x q=>aX it u x q) dp 0 p++aX it u y (p++[key]):=(by rw[hsn,hone,List.append_assoc]);clear hkey hit;have h207:=f207 Γ p key (by unfold big;omega);have htu:List.take 6 (row cTy [u])=cTy u:=(by rw[cM,eh,List.append_nil];exact List.take_of_length_le (by rw[bG];omega));have hru:row cTy [u]=cTy u:=(by rw[cM,eh,List.append_nil]);have hlu:(row cTy [u]).length=6:=(by rw[hru];exact bG u);have hsl:sls cTy [u]=.sl (row cTy [u]) 1 none:=rfl;have hd5:List.take 5 (aJ y)=aJ y:=List.take_of_length_le (by rw[b8];omega);obtain⟨acc,hacc⟩:∃acc,acc=acc0++dE it (fun x q=>aX it u x q) dp 0 p:=⟨_,rfl⟩;rw[←hacc] at hbf hnext ⊢;replace hacc:Hid acc (acc0++dE it (fun x q=>aX it u x q) dp 0 p):=hacc;have k1:=(hA y (p++[key]) acc (hkids y (by simp)) (hWD y (by simp)) (by simp;omega) hbf).hc Γ (by simp[aV,aS,aD]) rfl 32 40 (by omega) (by omega);obtain⟨R,hR⟩:∃R,R=Hc 40 (acc++aX it u y (p++[key])):=⟨_,rfl⟩;rw[←hR] at k1;replace hR:Hid R (Hc 40 (acc++aX it u y (p++[key]))):=hR;generalize p++[key]=q at *
  clear hA hkids hX hsn hone hbf hWD;unfold Hc BxY at k1 ⊢;rcases cz dm 2 dx cG fW 32 77 acc with ⟨_,e1,e2,_⟩|⟨n,cs,hn,hcs,e1,e2,_,c1,c2,c3⟩<;>rw[e1,e2] at k1 ⊢ <;> clear e1 e2<;>simp only[List.cons_append,List.nil_append] at k1 ⊢
  ·refine GG ?_;refine aM h65 ?_;refine GG ?_;refine aM h207 ?_;refine GG ?_;refine bl k1 ?_ (hkeys:=by rw[show R=_ from hR];exact fU (by omega) (o0 (by simp[V.get]) (by simp[V.get]) (by simp[V.get]) (by simp[V.get]) (by simp[V.get])));refine GG ?_;exact⟨(by (repeat refine Frm.set ?_ rfl);exact hF),[(40,32)],R++[(6,.cells (cTy t) 26 false),(7,.cells (aJ d) 30 false)],(by exact ez (by (repeat (first|exact aP|refine aK (by simp[V.get, *]) ?_)))),(by simp),(by rw[show R=_ from hR];exact bR (by simp) (by omega) (by simp)),(by simp[*,aS,aV,aD,ax]),(by rw[show R=_ from hR,ai,bK fun i hi=>bY (by omega) (by omega),bX];exact eM (by omega) (by omega) (by simp[bJ,b9,aH,bW,cN])),dr.length,rfl,fun a2 hF2 hL2=>⟨dp++[y],dr,by simp,rfl,((hL2 71 (by simp)).trans (by simp[*]<;>omega)),by rw[show R=_ from hR,ai,bK fun i hi=>bY (by omega) (by omega),bX,hnext];simp[bJ,b9,aH,Hc,BxY]⟩⟩
  ·have hlo:=fun N=>aD (N:=N) _ c2
   refine GG ?_;refine aM h65 ?_;refine GG ?_;refine aM h207 ?_;refine GG ?_;refine bl k1 ?_ (hkeys:=by rw[show R=_ from hR];exact fU (by omega) (o0 (by simp[V.get]) (by simp[V.get]) (by simp[V.get]) (by simp[V.get]) (by simp[V.get])));refine GG ?_;exact⟨(by (repeat refine Frm.set ?_ rfl);exact hF),[(40,32)],R++[(6,.cells (cTy t) 26 false),(7,.cells (aJ d) 30 false)],(by exact ez (by (repeat (first|exact aP|refine aK (by simp[V.get, *]) ?_)))),(by simp),(by rw[show R=_ from hR];exact bR (by simp) (by omega) (by simp)),(by simp[*,aS,aV,aD,ax]),(by rw[show R=_ from hR,ai,bK fun i hi=>bY (by omega) (by omega),bX];exact eM (by omega) (by omega) (by simp[bJ,b9,aH,bW,cN])),dr.length,rfl,fun a2 hF2 hL2=>⟨dp++[y],dr,by simp,rfl,((hL2 71 (by simp)).trans (by simp[*]<;>omega)),by rw[show R=_ from hR,ai,bK fun i hi=>bY (by omega) (by omega),bX,hnext];simp[bJ,b9,aH,Hc,BxY]⟩⟩
theorem f210k3e (t:Ty)(d:Doc)(p:List Str)(fs:List Flt)(it:Nat→Str)(u:Ty)(ht:wT t<big)(hd:wD d<1000000000)(hf:d7 t d=8)(hk:t.kind=3)(hu:t.of=[u])(hp:p.length+dK u+1<1000000)(hkids:∀x∈d.kids,rightD x=true)(hX:((fs++[(p,8)])++dE it (fun x q=>aX it u x q) d.kids 0 p).length<1000000000)(hA:A7 Γ it u)(hit:∀k:Nat,k<d.kids.length→PureOk Tryz.prog Γ 65 [.int .i64 k] (.str (it k))) :
  CallOk Tryz.prog Γ 210 [.ag (cTy t),.ag (aJ d),sls aZ p,.pr 3 0,.pr 2 0,.pr 0 0,.pr 1 0] (Hc 5 fs) 6 true (.tp []) (Hc 6 ((fs++[(p,8)])++dE it (fun x q=>aX it u x q) d.kids 0 p)) 7:=by
 have h211:=f211 Γ t d ht;rw[hf] at h211;have hbk:d.kids.length<100000000000:=by have:=gJ d;omega
 have k4:=(f142h Γ fs p 8 (by simp only[List.length_append,List.length_cons,List.length_nil] at hX;omega)).hc Γ (by simp[aV,aS]) rfl 5 16 (by omega) (by omega);obtain⟨R,hR⟩:∃R,R=Hc 16 (fs++[(p,8)]):=⟨_,rfl⟩;rw[←hR] at k4;replace hR:Hid R (Hc 16 (fs++[(p,8)])):=hR;clear hf;obtain⟨acc0,hacc0⟩:∃acc0,acc0=(fs++[(p,8)]):=⟨_,rfl⟩;rw[←hacc0] at hX ⊢;replace hacc0:Hid acc0 (fs++[(p,8)]):=hacc0;refine bc Tryz.func210 rfl (by simp[Tryz.f210]) (by omega) (by simp[aS,aV]) (ic (by omega) (by omega) _) ?_;intro a hl ha;replace hl:a.length=89:=hl;have g0:=ha 0 _ rfl;have g1:=ha 1 _ rfl;have g2:=ha 2 _ rfl;have g3:=ha 3 _ rfl;have g4:=ha 4 _ rfl;have g5:=ha 5 _ rfl;have g6:=ha 6 _ rfl;clear ha;refine GG ?_;all_goals (try (refine aC h211 ?_))
 refine GG ?_;refine aw k4 ?_ (hsub:=iW) (hkeys:=by rw[show R=_ from hR];exact fU (by omega) (kV (by omega))) (hh:=oO (by simp));rw[show R=_ from hR];clear k4 hR R;rw[←show acc0=fs++[(p,8)] from hacc0];refine GG ?_;refine mq 16 36 [(13,14),(72,88)] [71] 37 (fun k a h=>∃dp dr,d.kids=dp++dr∧k=dr.length∧lk a 71=some (.int .i64 dp.length)∧h=Hc 36 (acc0++dE it (fun x q=>aX it u x q) dp 0 p)++[(6,.cells (cTy t) 26 false),(7,.cells (aJ d) 30 false)]) (by omega) (bR (by simp) (by omega) (by simp)) ⟨[],d.kids,rfl,rfl,by simp[*],(by rw[ai,bK (fun i hi=>by unfold to1;rw[if_neg (by omega)])];simp[bJ,b9,aH,to1,dE])⟩ ?_;intro a1 hk hk0 k a h hF hI;replace g2:=hF.a hk 2;replace g5:=hF.a hk 5;replace g6:=hF.a hk 6;replace g7:=hF.a hk 7;replace g69:=hF.a hk 69;replace g70:=hF.a hk 70;replace hl:a.length=89:=hF.len.trans (hk0.trans (by simp[*]));clear hk hk0;obtain⟨dp,dr,hl0,rfl,hix,rfl⟩:=hI;have hWD:∀y∈d.kids,wD y<1000000000:=fun y hy=>by have:=mn hy;have:=kC d;omega
 clear hd;generalize d.kids=KD at *
 subst hl0;cases dr with
 |nil=>
  simp only[List.append_nil] at *
  clear hA hkids hX hit;refine GG ?_;exact⟨by simp,[(36,6)],.tp [],Hc 36 (acc0++dE it (fun x q=>aX it u x q) dp 0 p),.tp [],Hc 36 (acc0++dE it (fun x q=>aX it u x q) dp 0 p),by simp,eC (by omega) _,by simp[Tryz.f210],by simp[ax,cK],by rw[bK fun i hi=>bY (by omega) (by omega),bX],iW,Clo.refl _ _⟩
 |cons y dr=>
  have hlt:(dp.length:Int)<dp.length+(dr.length+1):=(by omega);have hw:=ac ((dp.length:Int)+1) (by omega) (by simp at hbk;omega);have hbl':dp.length<100000000000:=(by simp at hbk;omega);obtain⟨key,hkey⟩:∃key,key=it dp.length:=⟨_,rfl⟩;have h65:=hit dp.length (by simp);rw[←hkey] at h65;have hsn:=gx it (fun x q=>aX it u x q) p dp [y] 0;have hone:dE it (fun x q=>aX it u x q) [y] (0+dp.length) p=aX it u y (p++[key]):=(by simp[dE,hkey]);have hbf:(acc0++dE it (fun x q=>aX it u x q) dp 0 p++aX it u y (p++[key])).length<1000000000:=(by rw[show dp++y::dr=(dp++[y])++dr by simp,gx it _ p (dp++[y]) dr,hsn,hone] at hX;simp only[List.length_append] at hX ⊢;omega);have hnext:acc0++dE it (fun x q=>aX it u x q) (dp++[y]) 0 p=acc0++dE it (fun x q=>aX it u x q) dp 0 p++aX it u y (p++[key]):=(by rw[hsn,hone,List.append_assoc]);clear hkey hit;have h207:=f207 Γ p key (by unfold big;omega);have htu:List.take 6 (row cTy [u])=cTy u:=(by rw[cM,eh,List.append_nil];exact List.take_of_length_le (by rw[bG];omega));have hru:row cTy [u]=cTy u:=(by rw[cM,eh,List.append_nil]);have hlu:(row cTy [u]).length=6:=(by rw[hru];exact bG u);have hsl:sls cTy [u]=.sl (row cTy [u]) 1 none:=rfl;have hd5:List.take 5 (aJ y)=aJ y:=List.take_of_length_le (by rw[b8];omega);obtain⟨acc,hacc⟩:∃acc,acc=acc0++dE it (fun x q=>aX it u x q) dp 0 p:=⟨_,rfl⟩;rw[←hacc] at hbf hnext ⊢;replace hacc:Hid acc (acc0++dE it (fun x q=>aX it u x q) dp 0 p):=hacc;have k1:=(hA y (p++[key]) acc (hkids y (by simp)) (hWD y (by simp)) (by simp;omega) hbf).hc Γ (by simp[aV,aS,aD]) rfl 36 44 (by omega) (by omega);obtain⟨R,hR⟩:∃R,R=Hc 44 (acc++aX it u y (p++[key])):=⟨_,rfl⟩;rw[←hR] at k1;replace hR:Hid R (Hc 44 (acc++aX it u y (p++[key]))):=hR;generalize p++[key]=q at *
  clear hA hkids hX hsn hone hbf hWD;unfold Hc BxY at k1 ⊢;rcases cz dm 2 dx cG fW 36 77 acc with ⟨_,e1,e2,_⟩|⟨n,cs,hn,hcs,e1,e2,_,c1,c2,c3⟩<;>rw[e1,e2] at k1 ⊢ <;> clear e1 e2<;>simp only[List.cons_append,List.nil_append] at k1 ⊢
  ·refine GG ?_;refine aM h65 ?_;refine GG ?_;refine aM h207 ?_;refine GG ?_;refine bl k1 ?_ (hkeys:=by rw[show R=_ from hR];exact fU (by omega) (o0 (by simp[V.get]) (by simp[V.get]) (by simp[V.get]) (by simp[V.get]) (by simp[V.get])));refine GG ?_;exact⟨(by (repeat refine Frm.set ?_ rfl);exact hF),[(44,36)],R++[(6,.cells (cTy t) 26 false),(7,.cells (aJ d) 30 false)],(by exact ez (by (repeat (first|exact aP|refine aK (by simp[V.get, *]) ?_)))),(by simp),(by rw[show R=_ from hR];exact bR (by simp) (by omega) (by simp)),(by simp[*,aS,aV,aD,ax]),(by rw[show R=_ from hR,ai,bK fun i hi=>bY (by omega) (by omega),bX];exact eM (by omega) (by omega) (by simp[bJ,b9,aH,bW,cN])),dr.length,rfl,fun a2 hF2 hL2=>⟨dp++[y],dr,by simp,rfl,((hL2 71 (by simp)).trans (by simp[*]<;>omega)),by rw[show R=_ from hR,ai,bK fun i hi=>bY (by omega) (by omega),bX,hnext];simp[bJ,b9,aH,Hc,BxY]⟩⟩
  ·have hlo:=fun N=>aD (N:=N) _ c2
   refine GG ?_;refine aM h65 ?_;refine GG ?_;refine aM h207 ?_;refine GG ?_;refine bl k1 ?_ (hkeys:=by rw[show R=_ from hR];exact fU (by omega) (o0 (by simp[V.get]) (by simp[V.get]) (by simp[V.get]) (by simp[V.get]) (by simp[V.get])));refine GG ?_;exact⟨(by (repeat refine Frm.set ?_ rfl);exact hF),[(44,36)],R++[(6,.cells (cTy t) 26 false),(7,.cells (aJ d) 30 false)],(by exact ez (by (repeat (first|exact aP|refine aK (by simp[V.get, *]) ?_)))),(by simp),(by rw[show R=_ from hR];exact bR (by simp) (by omega) (by simp)),(by simp[*,aS,aV,aD,ax]),(by rw[show R=_ from hR,ai,bK fun i hi=>bY (by omega) (by omega),bX];exact eM (by omega) (by omega) (by simp[bJ,b9,aH,bW,cN])),dr.length,rfl,fun a2 hF2 hL2=>⟨dp++[y],dr,by simp,rfl,((hL2 71 (by simp)).trans (by simp[*]<;>omega)),by rw[show R=_ from hR,ai,bK fun i hi=>bY (by omega) (by omega),bX,hnext];simp[bJ,b9,aH,Hc,BxY]⟩⟩
end
end Go.V
end
section
namespace Go.V
theorem vy (p:Plc):∀l:List Res,wRs (drp p l)≤wRs l
 |[]=>Nat.le_refl _
 |x::l=>by
  have:=vy p l;rw[qw];split
  ·simp only[wRs];omega
  ·simp only[wRs];omega
theorem yD (x:Res):∀l:List Res,wRs (iH x l)=x.step.length+x.at_.length+wD x.doc+wRs l
 |[]=>rfl
 |y::l=>by
  rw[iH];split
  ·rfl
  ·simp only[wRs,yD x l];omega
theorem og (l:List Res)(x:Res):wRs (jV l x)≤wRs l+(x.step.length+x.at_.length+wD x.doc):=by rw[va,yD];have:=vy (plc x) l;omega
def pd (p:Plc)(l:List Res):Option Doc:=(fnd p l).map (·.doc)
theorem CJ (p q:Plc)(l:List Res):pd q (drp p l)=if q=p then none else pd q l:=by unfold pd;rw[vM];split<;>rfl
theorem qT (q:Plc)(x:Res)(l:List Res):pd q (jV l x)=if q=plc x then some x.doc else pd q l:=by unfold pd;rw[Bk];split<;>rfl
theorem yp {l m:List Res}(hl:srt l)(hm:srt m)(h:∀p,pd p l=pd p m):l=m:=by
 refine AJ hl hm fun p=>?_
 have:=h p;unfold pd at this;cases h1:fnd p l with
 |none=>
  rw[h1] at this;cases h2:fnd p m with
  |none=>rfl
  |some y=>rw[h2] at this;cases this
 |some x=>
  rw[h1] at this;cases h2:fnd p m with
  |none=>rw[h2] at this;cases this
  |some y=>rw[h2] at this;have e1:=(nw h1).1;have e2:=(nw h2).1;simp only[Option.map_some,Option.some.injEq] at this;rw[←e2] at e1;unfold plc at e1;simp only[Prod.mk.injEq] at e1;obtain⟨a1,b1,c1,d1⟩:=x;obtain⟨a2,b2,c2,d2⟩:=y;simp only at e1 this;obtain⟨rfl,rfl,rfl⟩:=e1;subst this;rfl
def rS (e:Int)(st:List Int)(ks:List Str)(p:Plc):Prop:=p.1=e∧st <+: p.2.1∧ks <+: p.2.2
def rL (e:Int)(st:List Int)(ks:List Str)(k:Nat)(p:Plc):Prop:=∃j:Nat,k≤j∧rS e (st++[(j:Int)]) ks p
theorem rh (e:Int)(st:List Int)(ks:List Str):rS e st ks (e,st,ks):=⟨rfl,List.prefix_refl _,List.prefix_refl _⟩
theorem IL {e:Int}{st st':List Int}{ks:List Str}{p:Plc}(h:rS e (st++st') ks p):rS e st ks p:=⟨h.1,(List.prefix_append _ _).trans h.2.1,h.2.2⟩
theorem IK {e:Int}{st:List Int}{ks ks':List Str}{p:Plc}(h:rS e st (ks++ks') p):rS e st ks p:=⟨h.1,h.2.1,(List.prefix_append _ _).trans h.2.2⟩
theorem CM {e:Int}{st:List Int}{ks:List Str}{k:Nat}{p:Plc}(h:rL e st ks k p):rS e st ks p:=by obtain⟨j,_,h⟩:=h;exact IL h
theorem AC {e:Int}{st:List Int}{ks:List Str}{k:Nat}{p:Plc}:rL e st ks k p↔rS e (st++[(k:Int)]) ks p∨rL e st ks (k+1) p:=by
 constructor
 ·rintro⟨j,h1,h2⟩;by_cases e:j=k
  ·subst e;exact .inl h2
  ·exact .inr ⟨j,by omega,h2⟩
 ·rintro(h|⟨j,h1,h2⟩)
  ·exact⟨k,Nat.le_refl _,h⟩
  ·exact⟨j,by omega,h2⟩
theorem zz {α:Type}{a l:List α}{x y:α}(h:a++[x] <+: l)(h':a++[y] <+: l):x=y:=by obtain⟨t1,h1⟩:=h;obtain⟨t2,h2⟩:=h';have:=h1.trans h2.symm;simp only[List.append_assoc,List.append_cancel_left_eq] at this;simp only[List.cons_append,List.nil_append,List.cons.injEq] at this;exact this.1
theorem CL {e:Int}{st:List Int}{ks:List Str}{k:Nat}{p:Plc}(h:rS e (st++[(k:Int)]) ks p)(h':rL e st ks (k+1) p):False:=by obtain⟨j,h1,h2⟩:=h';have:=zz h.2.1 h2.2.1;omega
theorem Am {e:Int}{st:List Int}{ks:List Str}{s s':Str}{p:Plc}(h:rS e st (ks++[s]) p)(h':rS e st (ks++[s']) p):s=s':=zz h.2.2 h'.2.2
def wW (w:Wlk):Nat:=wRs w.res+wRs w.needs
def nd (N:Plc→Option Doc)(w w':Wlk):Prop:=srt w.needs→srt w'.needs∧∀p,pd p w'.needs=(N p).or (pd p w.needs)
theorem vW (w:Wlk):nd (fun _=>none) w w:=fun h=>⟨h,fun _=>rfl⟩
theorem nd.trans {N M:Plc→Option Doc}{w w1 w2:Wlk}(h:nd N w w1)(k:nd M w1 w2):nd (fun p=>(M p).or (N p)) w w2:=fun h0=>by obtain⟨h1,h2⟩:=h h0;obtain⟨k1,k2⟩:=k h1;refine⟨k1,fun p=>?_⟩;rw[k2,h2];exact(Option.or_assoc).symm
def Act (reg:Plc→Prop)(C:Nat)(run:Wlk→Flds→Option (Wlk×Flds))(f:Flds)(A:Plc→Option Doc)(f':Flds)(B N:Plc→Option Doc):Prop:=
 ∀w g,cH g→eqM g f→srt w.res→(∀p,reg p→pd p w.res=A p)→wW w+wF g+C<lim→
  ∃w' g',run w g=some (w',g')∧cH g'∧eqM g' f'∧srt w'.res∧(∀p,reg p→pd p w'.res=B p)∧(∀p,¬reg p→pd p w'.res=pd p w.res)∧w'.err=w.err∧wW w'+wF g'≤wW w+wF g+C∧nd N w w'
def non:Plc→Option Doc:=fun _=>none
def orP (A B:Plc→Option Doc):Plc→Option Doc:=fun p=>(A p).or (B p)
section
variable {reg reg':Plc→Prop} {C C':Nat} {run run':Wlk→Flds→Option (Wlk×Flds)} {f f1 f':Flds} {A A' B B' N N':Plc→Option Doc}
theorem Act.mono (h:Act reg C run f A f' B N)(hC:C≤C'):Act reg C' run f A f' B N:=by intro w g h1 h2 h3 h4 h5;obtain⟨w',g',k1,k2,k3,k4,k5,k6,k7,k8,k9⟩:=h w g h1 h2 h3 h4 (by omega);exact⟨w',g',k1,k2,k3,k4,k5,k6,k7,by omega,k9⟩
theorem Act.ab (h:Act reg C run f A f' B N)(hA:∀p,reg p→A p=A' p)(hB:∀p,reg p→B p=B' p):Act reg C run f A' f' B' N:=by intro w g h1 h2 h3 h4 h5;obtain⟨w',g',k1,k2,k3,k4,k5,k6⟩:=h w g h1 h2 h3 (fun p hp=>(h4 p hp).trans (hA p hp).symm) h5;exact⟨w',g',k1,k2,k3,k4,fun p hp=>(k5 p hp).trans (hB p hp),k6⟩
theorem Act.wide (h:Act reg C run f A f' B N)(hr:∀p,reg p→reg' p)(hn:∀p,reg' p→¬reg p→A p=B p):Act reg' C run f A f' B N:=by
 intro w g h1 h2 h3 h4 h5;obtain⟨w',g',k1,k2,k3,k4,k5,k6,k7⟩:=h w g h1 h2 h3 (fun p hp=>h4 p (hr p hp)) h5;refine⟨w',g',k1,k2,k3,k4,fun p hp=>?_,fun p hp=>k6 p fun hq=>hp (hr p hq),k7⟩;by_cases hq:reg p
 ·exact k5 p hq
 ·rw[k6 p hq,h4 p hp,hn p hp hq]
theorem Act.iff (h:Act reg C run f A f' B N)(hr:∀p,reg p↔reg' p):Act reg' C run f A f' B N:=h.wide (fun p hp=>(hr p).1 hp) (fun p hp hq=>(hq ((hr p).2 hp)).elim)
theorem Act.runs (h:Act reg C run f A f' B N)(hr:∀w g,cH g→eqM g f→wW w+wF g+C<lim→(∀w' g',run w g=some (w',g')→wW w'+wF g'≤wW w+wF g+C→run' w g=some (w',g'))):Act reg C run' f A f' B N:=by intro w g h1 h2 h3 h4 h5;obtain⟨w',g',k1,k2,k3,k4,k5,k6,k7,k8,k9⟩:=h w g h1 h2 h3 h4 h5;exact⟨w',g',hr w g h1 h2 h5 w' g' k1 k8,k2,k3,k4,k5,k6,k7,k8,k9⟩
def sE (run run':Wlk→Flds→Option (Wlk×Flds))(w:Wlk)(g:Flds):Option (Wlk×Flds):=match run w g with|some (w',g')=>run' w' g'|none=>none
theorem Act.seq (h:Act reg C run f A f1 B N)(k:Act reg' C' run' f1 A f' B N')(hd:∀p,reg p→reg' p→False) :
  Act (fun p=>reg p∨reg' p) (C+C') (sE run run') f A f' B (orP N' N):=by
 intro w g h1 h2 h3 h4 h5;obtain⟨w',g',k1,k2,k3,k4,k5,k6,k7,k8,k9⟩:=h w g h1 h2 h3 (fun p hp=>h4 p (.inl hp)) (by omega);obtain⟨w2,g2,l1,l2,l3,l4,l5,l6,l7,l8,l9⟩:=k w' g' k2 k3 k4 (fun p hp=>by rw[k6 p (fun hq=>hd p hq hp)];exact h4 p (.inr hp)) (by omega);refine⟨w2,g2,by simp only[sE,k1];exact l1,l2,l3,l4,?_,?_,l7.trans k7,by omega,k9.trans l9⟩
 ·rintro p (hp|hp)
  ·rw[l6 p (fun hq=>hd p hp hq)];exact k5 p hp
  ·exact l5 p hp
 ·intro p hp;rw[l6 p (fun hq=>hp (.inr hq)),k6 p (fun hq=>hp (.inl hq))]
theorem Act.fld (F:Flds→Flds)(hr:∀w g,cH g→eqM g f→run w g=some (w,F g))(hF:∀g,cH g→eqM g f→cH (F g)∧eqM (F g) f'∧wF (F g)≤wF g+C):Act reg C run f A f' A non:=by intro w g h1 h2 h3 h4 h5;obtain⟨k1,k2,k3⟩:=hF g h1 h2;exact⟨w,F g,hr w g h1 h2,k1,k2,h3,h4,fun _ _=>rfl,rfl,by omega,vW w⟩
end
structure Way (reg:Plc→Prop)(C:Nat)(fw bw:Wlk→Flds→Option (Wlk×Flds))(f f':Flds)(A B:Plc→Option Doc):Prop where
 supA:∀p,¬reg p→A p=none
 supB:∀p,¬reg p→B p=none
 first:Act reg C fw f non f' B A
 again:Act reg C fw f A f' B A
 back:∃N,Act reg C bw f' B f A N
theorem Way.mono {reg:Plc→Prop}{C C':Nat}{fw bw:Wlk→Flds→Option (Wlk×Flds)}{f f':Flds}{A B:Plc→Option Doc}(h:Way reg C fw bw f f' A B)(hC:C≤C'):Way reg C' fw bw f f' A B:=
 ⟨h.supA,h.supB,h.first.mono hC,h.again.mono hC,h.back.imp fun _ h=>h.mono hC⟩
theorem Way.runs {reg:Plc→Prop}{C:Nat}{fw bw fw' bw':Wlk→Flds→Option (Wlk×Flds)}{f f':Flds}{A B:Plc→Option Doc}(h:Way reg C fw bw f f' A B)
  (hf:∀w g,wW w+wF g+C<lim→(∀w' g',fw w g=some (w',g')→wW w'+wF g'≤wW w+wF g+C→fw' w g=some (w',g')))
  (hb:∀w g,wW w+wF g+C<lim→(∀w' g',bw w g=some (w',g')→wW w'+wF g'≤wW w+wF g+C→bw' w g=some (w',g'))):Way reg C fw' bw' f f' A B:=
 ⟨h.supA,h.supB,h.first.runs fun w g _ _=>hf w g,h.again.runs fun w g _ _=>hf w g,h.back.imp fun _ h=>h.runs fun w g _ _=>hb w g⟩
theorem Way.seq {reg reg':Plc→Prop}{C C':Nat}{fw bw fw' bw':Wlk→Flds→Option (Wlk×Flds)}{f f1 f':Flds}{A B A' B':Plc→Option Doc}(h:Way reg C fw bw f f1 A B)(k:Way reg' C' fw' bw' f1 f' A' B')(hd:∀p,reg p→reg' p→False) :
  Way (fun p=>reg p∨reg' p) (C+C') (sE fw fw') (sE bw' bw) f f' (orP A' A) (orP B' B):=by
 have a1:∀p,reg p→A p=orP A' A p:=fun p hp=>by unfold orP;rw[k.supA p fun hq=>hd p hp hq];rfl
 have b1:∀p,reg p→B p=orP B' B p:=fun p hp=>by unfold orP;rw[k.supB p fun hq=>hd p hp hq];rfl
 have a2:∀p,reg' p→A' p=orP A' A p:=fun p hp=>by unfold orP;rw[h.supA p fun hq=>hd p hq hp];cases A' p<;>rfl
 have b2:∀p,reg' p→B' p=orP B' B p:=fun p hp=>by unfold orP;rw[h.supB p fun hq=>hd p hq hp];cases B' p<;>rfl
 obtain⟨N,hb⟩:=h.back;obtain⟨N',kb⟩:=k.back;refine⟨fun p hp=>?_,fun p hp=>?_,?_,?_,⟨orP N N',?_⟩⟩
 ·unfold orP;rw[h.supA p fun hq=>hp (.inl hq),k.supA p fun hq=>hp (.inr hq)];rfl
 ·unfold orP;rw[h.supB p fun hq=>hp (.inl hq),k.supB p fun hq=>hp (.inr hq)];rfl
 ·exact(h.first.ab (fun _ _=>rfl) b1).seq (k.first.ab (fun _ _=>rfl) b2) hd
 ·exact(h.again.ab a1 b1).seq (k.again.ab a2 b2) hd
 ·have:=(kb.ab b2 a2).seq (hb.ab b1 a1) fun p h1 h2=>hd p h2 h1
  rw[Nat.add_comm] at this;exact this.iff fun p=>Or.comm
theorem jw {f g:Flds}(h:eqM g f)(a:Str)(x:Doc):eqM (ar a x g) (ar a x f):=fun n=>by rw[bL,bL,h n]
theorem zi {f g:Flds}(h:eqM g f)(hg:cH g)(hf:cH f)(a:Str):eqM (dq a g) (dq a f):=fun n=>by rw[dh _ _ hg,dh _ _ hf,h n]
theorem fG {a:Str}{x:Doc}{f:Flds}(h:bI a f=some x):bv a f=x:=by unfold bv;rw[h];rfl
theorem mb (a b n:Str){g:Flds}(hg:cH g)(hab:a≠b)(hb:bI b g=none):bI n (iI a b g)=if b=n then bI a g else if a=n then none else bI n g:=by
 unfold iI;cases ha:bI a g with
 |none=>
  simp only;by_cases e:b=n
  ·subst e;simp[hb]
  ·by_cases e2:a=n
   ·subst e2;simp[ha]
   ·simp[e,e2]
 |some x=>simp only;rw[bL,dh _ _ hg]
theorem lw (a b:Str){g:Flds}(hg:cH g):cH (iI a b g):=by
 unfold iI;split
 ·exact bV _ _ (gc _ hg)
 ·exact hg
theorem pK (h:Str→Doc→Nat)(a b:Str){g:Flds}(hg:cH g)(hab:a≠b)(hb:bI b g=none):iX h (iI a b g)+(match bI a g with|some x=>h a x|none=>0)=iX h g+(match bI a g with|some x=>h b x|none=>0):=by
 unfold iI;cases ha:bI a g with
 |none=>rfl
 |some x=>simp only;rw[eA h (by rw[dh _ _ hg,if_neg hab,hb])];have:=iD h ha;omega
theorem kZ {s:Str}(h:dA s=true):s.length≤16:=by unfold dA at h;simp only[Bool.and_eq_true,decide_eq_true_eq] at h;omega
end Go.V
end
