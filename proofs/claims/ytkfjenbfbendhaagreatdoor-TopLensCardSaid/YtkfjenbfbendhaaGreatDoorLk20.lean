/-
  A part of a proof: Y5 P6.
-/
import Derived.Test.YtkfjenbfbendhaaGreatDoorLk18
import Derived.Test.YtkfjenbfbendhaaGreatDoorLk19
set_option linter.unusedSimpArgs false
set_option linter.unusedVariables false
section
set_option maxHeartbeats 4000000
namespace Go.V
open Go Go.Proofs
attribute [local irreducible] W bO WD aO yl aS bW
section
variable (Γ:Glo Tryz.prog)
attribute [local simp] veq bP ei V.del vG wV oz sC
section
variable {o:Nat} {fs:List Flt} {r:Heap}
@[local simp] theorem yM (h:o≠0):V.get (Hc o fs++r) 0=some (.cells [.fn 210 [] [.pr 3 0,.pr 2 0,.pr 0 0,.pr 1 0]] 255 false):=by
 unfold Hc;rw[List.append_assoc,em dM h];rfl
@[local simp] theorem yN (h:o≠1):V.get (Hc o fs++r) 1=some (.cells [.fn 207 [] []] 256 false):=by
 unfold Hc;rw[List.append_assoc,em dM h];rfl
@[local simp] theorem yO (h:o≠2):V.get (Hc o fs++r) 2=some (.cells [.fn 208 [] [.pr 0 0,.pr 1 0,.pr 3 0]] 255 false):=by
 unfold Hc;rw[List.append_assoc,em dM h];rfl
@[local simp] theorem yP (h:o≠3):V.get (Hc o fs++r) 3=some (.cells [.fn 142 [] [.pr 4 0]] 213 false):=by
 unfold Hc;rw[List.append_assoc,em dM h];rfl
theorem gP {H:Heap}:∀i b,V.get H i=some b→V.get (H++r) i=some b:=by
 intro i b hb
 rw[eC,hb];rfl
theorem jG (h:5≤o):∀i,i<5→(V.get (Hc o fs) i).isSome:=by
 intro i hi
 unfold Hc
 rw[em dM (by omega)]
 match i,hi with
 |0,_|1,_|2,_|3,_|4,_=>simp[Bx,V.get]
theorem wL:∀{H:Heap}{p:Nat×Blk},p∈H→(V.get H p.1).isSome
 |q::H,p,h=>by
  obtain⟨k,c⟩:=q
  rw[V.get]
  split
  ·
   rfl
  ·
   rename_i hne
   rcases List.mem_cons.1 h with rfl|h
   ·
    exact(hne rfl).elim
   ·
    exact wL h
theorem mT {H R:Heap}(h:∀p∈r,V.get H p.1=none):nE (H++r) H R=R++r:=by
 unfold nE
 rw[List.filter_append]
 have h1:H.filter (fun p=>!(V.get H p.1).isSome)=[]:=List.filter_eq_nil_iff.2 fun p hp=>by simp[wL hp]
 have h2:r.filter (fun p=>!(V.get H p.1).isSome)=r:=List.filter_eq_self.2 fun p hp=>by simp[h p hp]
 rw[h1,h2,List.nil_append]
end
attribute [local simp] yM yN yO yP
theorem fq (g:Doc→List Str→List Flt)(p:List Str):∀(ks:List Str)(ds:List Doc)(ks':List Str)(ds':List Doc),ks.length=ds.length→cM g (ks++ks') (ds++ds') p=cM g ks ds p++cM g ks' ds' p
 |[],[],ks',ds',_=>by simp[cM]
 |[],_::_,_,_,h=>by simp at h
 |_::_,[],_,_,h=>by simp at h
 |k::ks,d::ds,ks',ds',h=>by
  rw[List.cons_append,List.cons_append,cM,fq g p ks ds ks' ds' (by simpa using h),cM,List.append_assoc]
theorem ft (it:Nat→Str)(g:Doc→List Str→List Flt)(p:List Str):∀(ds ds':List Doc)(i:Nat),cU it g (ds++ds') i p=cU it g ds i p++cU it g ds' (i+ds.length) p
 |[],ds',i=>by simp[cU]
 |d::ds,ds',i=>by
  rw[List.cons_append,cU,ft it g p ds ds' (i+1),cU,List.append_assoc,List.length_cons,show i+1+ds.length=i+(ds.length+1) by omega]
theorem f210t (t:Ty)(d:Doc)(p:List Str)(fs:List Flt)(ht:wT t<big)(hf:cy t d=7)(hb:fs.length<1000000000) :
  CallOk Tryz.prog Γ 210 [.ag (cTy t),.ag (aH d),sls aW p,.pr 3 0,.pr 2 0,.pr 0 0,.pr 1 0] (Hc 5 fs) 6 true (.tp []) (Hc 6 (fs++[(p,7)])) 7:=by
 have h211:=f211 Γ t d ht
 rw[hf] at h211
 have k2:=(f142h Γ fs p 7 hb).hc Γ (by simp[aa,aR]) rfl 5 16 (by omega) (by omega)
 obtain⟨R,hR⟩:∃R,R=Hc 16 (fs++[(p,7)]):=⟨_,rfl⟩
 rw[←hR] at k2
 replace hR:Hid R (Hc 16 (fs++[(p,7)])):=hR
 clear hf
 refine ba Tryz.func210 rfl (by simp[Tryz.f210]) (by omega) (by simp[aR,aa]) (gZ (by omega) (by omega) _) ?_
 intro a hl ha
 replace hl:a.length=89:=hl
 have g0:=ha 0 _ rfl
 have g1:=ha 1 _ rfl
 have g2:=ha 2 _ rfl
 have g3:=ha 3 _ rfl
 have g4:=ha 4 _ rfl
 have g5:=ha 5 _ rfl
 have g6:=ha 6 _ rfl
 clear ha
 repeat' first|refine G1 ?_|(refine G2 ?_ ?_<;>intro hc hd<;>try exact hd.elim)|fail
 all_goals (try (refine aC h211 ?_))
 repeat' first|refine G1 ?_|(refine G2 ?_ ?_<;>intro hc hd<;>try exact hd.elim)|fail
 refine av k2 ?_ (hsub:=gP) (hkeys:=by rw[show R=_ from hR];exact ec (by omega) (jG (by omega))) (hh:=mT (by simp))
 repeat' first|refine G1 ?_|(refine G2 ?_ ?_<;>intro hc hd<;>try exact hd.elim)|fail
 exact⟨by simp,[(16,6)],.tp [],R,.tp [],R,by simp,(by rw[show R=_ from hR];exact d7 (by omega) _),by simp[Tryz.f210],by simp[au,bu],(by rw[show R=_ from hR,ay fun i hi=>bN (by omega) (by omega),bM]),gP,Clo.refl _ _⟩
theorem f210r (t:Ty)(d:Doc)(p:List Str)(fs:List Flt)(X:List Flt)(ht:wT t<big)(hf:cy t d=0)(hk:t.kind=1)(h208:CallOk Tryz.prog Γ 208 [.ag (cTy t),.ag (aH d),sls aW p,.pr 0 0,.pr 1 0,.pr 3 0] (Hc 5 fs) 6 true (.tp []) (Hc 6 (fs++X)) 7) :
  CallOk Tryz.prog Γ 210 [.ag (cTy t),.ag (aH d),sls aW p,.pr 3 0,.pr 2 0,.pr 0 0,.pr 1 0] (Hc 5 fs) 6 true (.tp []) (Hc 6 (fs++X)) 7:=by
 have h211:=f211 Γ t d ht
 rw[hf] at h211
 have k2:=h208.hc Γ (by simp[aa,aR,aD]) rfl 5 24 (by omega) (by omega)
 obtain⟨R,hR⟩:∃R,R=Hc 24 (fs++X):=⟨_,rfl⟩
 rw[←hR] at k2
 replace hR:Hid R (Hc 24 (fs++X)):=hR
 have ht6:List.take 6 (cTy t)=cTy t:=List.take_of_length_le (by rw[bH];omega)
 have hd5:List.take 5 (aH d)=aH d:=List.take_of_length_le (by rw[bS];omega)
 clear hf h208
 refine ba Tryz.func210 rfl (by simp[Tryz.f210]) (by omega) (by simp[aR,aa]) (gZ (by omega) (by omega) _) ?_
 intro a hl ha
 replace hl:a.length=89:=hl
 have g0:=ha 0 _ rfl
 have g1:=ha 1 _ rfl
 have g2:=ha 2 _ rfl
 have g3:=ha 3 _ rfl
 have g4:=ha 4 _ rfl
 have g5:=ha 5 _ rfl
 have g6:=ha 6 _ rfl
 clear ha
 repeat' first|refine G1 ?_|(refine G2 ?_ ?_<;>intro hc hd<;>try exact hd.elim)|fail
 all_goals (try (refine aC h211 ?_))
 repeat' first|refine G1 ?_|(refine G2 ?_ ?_<;>intro hc hd<;>try exact hd.elim)|fail
 refine av k2 ?_ (hsub:=gP) (hkeys:=by rw[show R=_ from hR];exact ec (by omega) (jG (by omega))) (hh:=mT (by simp))
 repeat' first|refine G1 ?_|(refine G2 ?_ ?_<;>intro hc hd<;>try exact hd.elim)|fail
 exact⟨by simp,[(24,6)],.tp [],R,.tp [],R,by simp,(by rw[show R=_ from hR];exact d7 (by omega) _),by simp[Tryz.f210],by simp[au,bu],(by rw[show R=_ from hR,ay fun i hi=>bN (by omega) (by omega),bM]),gP,Clo.refl _ _⟩
theorem f210n (t:Ty)(d:Doc)(p:List Str)(fs:List Flt)(ht:wT t<big)(hf:cy t d=0)(k1:¬t.kind=1)(k2:¬t.kind=2)(k3:¬t.kind=3) :
  CallOk Tryz.prog Γ 210 [.ag (cTy t),.ag (aH d),sls aW p,.pr 3 0,.pr 2 0,.pr 0 0,.pr 1 0] (Hc 5 fs) 6 true (.tp []) (Hc 6 (fs)) 7:=by
 have h211:=f211 Γ t d ht
 rw[hf] at h211
 clear hf
 refine ba Tryz.func210 rfl (by simp[Tryz.f210]) (by omega) (by simp[aR,aa]) (gZ (by omega) (by omega) _) ?_
 intro a hl ha
 replace hl:a.length=89:=hl
 have g0:=ha 0 _ rfl
 have g1:=ha 1 _ rfl
 have g2:=ha 2 _ rfl
 have g3:=ha 3 _ rfl
 have g4:=ha 4 _ rfl
 have g5:=ha 5 _ rfl
 have g6:=ha 6 _ rfl
 clear ha
 repeat' first|refine G1 ?_|(refine G2 ?_ ?_<;>intro hc hd<;>try exact hd.elim)|fail
 all_goals (try (refine aC h211 ?_))
 repeat' first|refine G1 ?_|(refine G2 ?_ ?_<;>intro hc hd<;>try exact hd.elim)|fail
 exact⟨by simp,[(5,6)],.tp [],Hc 5 fs,.tp [],Hc 5 fs,by simp,d7 (by omega) _,by simp[Tryz.f210],by simp[au,bu],(by rw[ay fun i hi=>bN (by omega) (by omega),bM]),gP,Clo.refl _ _⟩
theorem f210e (t:Ty)(d:Doc)(p:List Str)(fs:List Flt)(ht:wT t<big)(hf:cy t d=8)(k1:¬t.kind=1)(k2:¬t.kind=2)(k3:¬t.kind=3)(hb:fs.length<1000000000) :
  CallOk Tryz.prog Γ 210 [.ag (cTy t),.ag (aH d),sls aW p,.pr 3 0,.pr 2 0,.pr 0 0,.pr 1 0] (Hc 5 fs) 6 true (.tp []) (Hc 6 (fs++[(p,8)])) 7:=by
 have h211:=f211 Γ t d ht
 rw[hf] at h211
 have k4:=(f142h Γ fs p 8 hb).hc Γ (by simp[aa,aR]) rfl 5 16 (by omega) (by omega)
 obtain⟨R,hR⟩:∃R,R=Hc 16 (fs++[(p,8)]):=⟨_,rfl⟩
 rw[←hR] at k4
 replace hR:Hid R (Hc 16 (fs++[(p,8)])):=hR
 clear hf
 refine ba Tryz.func210 rfl (by simp[Tryz.f210]) (by omega) (by simp[aR,aa]) (gZ (by omega) (by omega) _) ?_
 intro a hl ha
 replace hl:a.length=89:=hl
 have g0:=ha 0 _ rfl
 have g1:=ha 1 _ rfl
 have g2:=ha 2 _ rfl
 have g3:=ha 3 _ rfl
 have g4:=ha 4 _ rfl
 have g5:=ha 5 _ rfl
 have g6:=ha 6 _ rfl
 clear ha
 repeat' first|refine G1 ?_|(refine G2 ?_ ?_<;>intro hc hd<;>try exact hd.elim)|fail
 all_goals (try (refine aC h211 ?_))
 repeat' first|refine G1 ?_|(refine G2 ?_ ?_<;>intro hc hd<;>try exact hd.elim)|fail
 refine av k4 ?_ (hsub:=gP) (hkeys:=by rw[show R=_ from hR];exact ec (by omega) (jG (by omega))) (hh:=mT (by simp))
 have g6R:∀r,V.get (R++[(6,.cells (cTy t) 26 false),(7,.cells (aH d) 30 false)]) 6=some (.cells (cTy t) 26 false):=fun r=>by rw[show R=_ from hR,oz (by omega) (by omega)];rfl
 have g7R:∀r,V.get (R++[(6,.cells (cTy t) 26 false),(7,.cells (aH d) 30 false)]) 7=some (.cells (aH d) 30 false):=fun r=>by rw[show R=_ from hR,oz (by omega) (by omega)];rfl
 rw[show R=_ from hR]
 repeat' first|refine G1 ?_|(refine G2 ?_ ?_<;>intro hc hd<;>try exact hd.elim)|fail
 exact⟨by simp,[(16,6)],.tp [],Hc 16 (fs++[(p,8)]),.tp [],Hc 16 (fs++[(p,8)]),by simp,d7 (by omega) _,by simp[Tryz.f210],by simp[au,bu],(by rw[ay fun i hi=>bN (by omega) (by omega),bM]),gP,Clo.refl _ _⟩
theorem f210k2z (t:Ty)(d:Doc)(p:List Str)(fs:List Flt)(it:Nat→Str)(u:Ty)(ht:wT t<big)(hd:wD d<1000000000)(hf:cy t d=0)(hk:t.kind=2)(hu:t.of=[u])(hp:p.length+cZ u+1<1000000)(hkids:∀x∈d.kids,rightD x=true)(hX:(fs++cM (fun x q=>aV it u x q) d.keys d.kids p).length<1000000000)(hA:wv Γ it u)(hlen:d.keys.length=d.kids.length) :
  CallOk Tryz.prog Γ 210 [.ag (cTy t),.ag (aH d),sls aW p,.pr 3 0,.pr 2 0,.pr 0 0,.pr 1 0] (Hc 5 fs) 6 true (.tp []) (Hc 6 (fs++cM (fun x q=>aV it u x q) d.keys d.kids p)) 7:=by
 have h211:=f211 Γ t d ht
 rw[hf] at h211
 have hbk:d.kids.length<100000000000:=by have:=fP d;omega
 clear hf
 obtain⟨acc0,hacc0⟩:∃acc0,acc0=fs:=⟨_,rfl⟩
 rw[←hacc0] at hX ⊢
 replace hacc0:Hid acc0 fs:=hacc0
 refine ba Tryz.func210 rfl (by simp[Tryz.f210]) (by omega) (by simp[aR,aa]) (gZ (by omega) (by omega) _) ?_
 intro a hl ha
 replace hl:a.length=89:=hl
 have g0:=ha 0 _ rfl
 have g1:=ha 1 _ rfl
 have g2:=ha 2 _ rfl
 have g3:=ha 3 _ rfl
 have g4:=ha 4 _ rfl
 have g5:=ha 5 _ rfl
 have g6:=ha 6 _ rfl
 clear ha
 repeat' first|refine G1 ?_|(refine G2 ?_ ?_<;>intro hc hd<;>try exact hd.elim)|fail
 all_goals (try (refine aC h211 ?_))
 repeat' first|refine G1 ?_|(refine G2 ?_ ?_<;>intro hc hd<;>try exact hd.elim)|fail
 refine kw 5 28 [(11,12),(44,63)] [43] 29 (fun k a h=>∃kp kr dp dr,d.keys=kp++kr∧d.kids=dp++dr∧kp.length=dp.length∧k=dr.length∧lk a 43=some (.int .i64 dp.length)∧h=Hc 28 (acc0++cM (fun x q=>aV it u x q) kp dp p)++[(6,.cells (cTy t) 26 false),(7,.cells (aH d) 30 false)]) (by omega) (bI (by simp) (by omega) (by simp)) ⟨[],d.keys,[],d.kids,rfl,rfl,rfl,rfl,by simp[*],(by rw[ae,ay (fun i hi=>by unfold to1;rw[if_neg (by omega)])];simp[bF,b9,aJ,to1,cM])⟩ ?_
 intro a1 hk hk0 k a h hF hI
 replace g2:=hF.a hk 2
 replace g5:=hF.a hk 5
 replace g6:=hF.a hk 6
 replace g7:=hF.a hk 7
 replace g8:=hF.a hk 8
 replace g41:=hF.a hk 41
 replace g42:=hF.a hk 42
 replace hl:a.length=89:=hF.len.trans (hk0.trans (by simp[*]))
 clear hk hk0
 obtain⟨kp,kr,dp,dr,hkk,hl0,hkl,rfl,hix,rfl⟩:=hI
 rw[hl0] at hlen
 have hWD:∀y∈d.kids,wD y<1000000000:=fun y hy=>by have:=kv hy;have:=im d;omega
 clear hd
 generalize d.kids=KD at *
 subst hl0
 cases dr with
 |nil=>
  have hkr:kr=[]:=by
   rw[hkk] at hlen
   simp at hlen
   exact List.eq_nil_of_length_eq_zero (by omega)
  subst hkr
  simp only[List.append_nil] at *
  rw[hkk]
  clear hA hkids hX
  repeat' first|refine G1 ?_|(refine G2 ?_ ?_<;>intro hc hd<;>try exact hd.elim)|fail
  exact⟨by simp,[(28,6)],.tp [],Hc 28 (acc0++cM (fun x q=>aV it u x q) kp dp p),.tp [],Hc 28 (acc0++cM (fun x q=>aV it u x q) kp dp p),by simp,d7 (by omega) _,by simp[Tryz.f210],by simp[au,bu],by rw[ay fun i hi=>bN (by omega) (by omega),bM],gP,Clo.refl _ _⟩
 |cons y dr=>
  have hlt:(dp.length:Int)<dp.length+(dr.length+1):=by omega
  have hw:=ad ((dp.length:Int)+1) (by omega) (by simp at hbk;omega)
  have hbl':dp.length<100000000000:=by simp at hbk;omega
  obtain⟨key,kr',rfl⟩:∃key kr',kr=key::kr':=by
   cases kr with
   |nil=>rw[hkk] at hlen;simp at hlen;omega
   |cons x y=>exact⟨x,y,rfl⟩
  have hkey:(row aW (kp++key::kr')).drop dp.length=.str key::row aW kr':=by rw[←hkl];exact fH kp kr' key
  have hlt2:(dp.length:Int)<kp.length+(kr'.length+1):=by omega
  have hle2:dp.length≤kp.length+(kr'.length+1):=by omega
  have hle3:dp.length≤(row aW (kp++key::kr')).length:=by rw[fl];simp;omega
  have hsn:=fq (fun x q=>aV it u x q) p kp dp [key] [y] hkl
  have hone:cM (fun x q=>aV it u x q) [key] [y] p=aV it u y (p++[key]):=by simp[cM]
  have hbf:(acc0++cM (fun x q=>aV it u x q) kp dp p++aV it u y (p++[key])).length<1000000000:=by
   rw[hkk,show kp++key::kr'=(kp++[key])++kr' by simp,show dp++y::dr=(dp++[y])++dr by simp,fq _ p (kp++[key]) (dp++[y]) kr' dr (by simp[hkl]),hsn,hone] at hX
   simp only[List.length_append] at hX ⊢
   omega
  have hnext:acc0++cM (fun x q=>aV it u x q) (kp++[key]) (dp++[y]) p=acc0++cM (fun x q=>aV it u x q) kp dp p++aV it u y (p++[key]):=by rw[hsn,hone,List.append_assoc]
  have h207:=f207 Γ p key (by unfold big;omega)
  have htu:List.take 6 (row cTy [u])=cTy u:=by rw[bt,eG,List.append_nil];exact List.take_of_length_le (by rw[bH];omega)
  have hru:row cTy [u]=cTy u:=by rw[bt,eG,List.append_nil]
  have hlu:(row cTy [u]).length=6:=by rw[hru];exact bH u
  have hsl:sls cTy [u]=.sl (row cTy [u]) 1 none:=rfl
  have hd5:List.take 5 (aH y)=aH y:=List.take_of_length_le (by rw[bS];omega)
  obtain⟨acc,hacc⟩:∃acc,acc=acc0++cM (fun x q=>aV it u x q) kp dp p:=⟨_,rfl⟩
  rw[←hacc] at hbf hnext ⊢
  replace hacc:Hid acc (acc0++cM (fun x q=>aV it u x q) kp dp p):=hacc
  have k1:=(hA y (p++[key]) acc (hkids y (by simp)) (hWD y (by simp)) (by simp;omega) hbf).hc Γ (by simp[aa,aR,aD]) rfl 28 36 (by omega) (by omega)
  obtain⟨R,hR⟩:∃R,R=Hc 36 (acc++aV it u y (p++[key])):=⟨_,rfl⟩
  rw[←hR] at k1
  replace hR:Hid R (Hc 36 (acc++aV it u y (p++[key]))):=hR
  generalize p++[key]=q at *
  clear hA hkids hX hsn hone hbf hWD
  replace hkl:Hid kp.length dp.length:=hkl
  have hkq:kp.length+1=dp.length+1:=congrArg (· + 1) hkl
  replace hkq:Eqn (kp++[key]).length (dp++[y]).length:=by show(kp++[key]).length=(dp++[y]).length;simp;exact hkl
  clear hlen
  unfold Hc Bx at k1 ⊢
  rcases eO dM 2 dS bh ef 28 77 acc with ⟨_,e1,e2,_⟩|⟨n,cs,hn,hcs,e1,e2,_,c1,c2,c3⟩<;>rw[e1,e2] at k1 ⊢ <;> clear e1 e2<;>simp only[List.cons_append,List.nil_append] at k1 ⊢
  ·
   repeat' first|refine G1 ?_|(refine G2 ?_ ?_<;>intro hc hd<;>try exact hd.elim)|fail
   refine aQ h207 ?_
   repeat' first|refine G1 ?_|(refine G2 ?_ ?_<;>intro hc hd<;>try exact hd.elim)|fail
   refine cI k1 ?_ (hkeys:=by rw[show R=_ from hR];exact ec (by omega) (mc (by simp[V.get]) (by simp[V.get]) (by simp[V.get]) (by simp[V.get]) (by simp[V.get])))
   repeat' first|refine G1 ?_|(refine G2 ?_ ?_<;>intro hc hd<;>try exact hd.elim)|fail
   exact⟨(by (repeat refine Frm.set ?_ rfl);exact hF),[(36,28)],R++[(6,.cells (cTy t) 26 false),(7,.cells (aH d) 30 false)],(by exact eP (by (repeat (first|exact aU|refine aP (by simp[V.get, *]) ?_)))),(by simp),(by rw[show R=_ from hR];exact bI (by simp) (by omega) (by simp)),(by simp[*,aR,aa,aD,au]),(by rw[show R=_ from hR,ae,ay fun i hi=>bN (by omega) (by omega),bM];exact dm (by omega) (by omega) (by simp[bF,b9,aJ,bc,cz])),dr.length,rfl,fun a2 hF2 hL2=>⟨kp++[key],kr',dp++[y],dr,by rw[hkk];simp,by simp,hkq,rfl,((hL2 43 (by simp)).trans (by simp[*]<;>omega)),by rw[show R=_ from hR,ae,ay fun i hi=>bN (by omega) (by omega),bM,hnext];simp[bF,b9,aJ,Hc,Bx]⟩⟩
  ·
   have hlo:=fun N=>aD (N:=N) _ c2
   repeat' first|refine G1 ?_|(refine G2 ?_ ?_<;>intro hc hd<;>try exact hd.elim)|fail
   refine aQ h207 ?_
   repeat' first|refine G1 ?_|(refine G2 ?_ ?_<;>intro hc hd<;>try exact hd.elim)|fail
   refine cI k1 ?_ (hkeys:=by rw[show R=_ from hR];exact ec (by omega) (mc (by simp[V.get]) (by simp[V.get]) (by simp[V.get]) (by simp[V.get]) (by simp[V.get])))
   repeat' first|refine G1 ?_|(refine G2 ?_ ?_<;>intro hc hd<;>try exact hd.elim)|fail
   exact⟨(by (repeat refine Frm.set ?_ rfl);exact hF),[(36,28)],R++[(6,.cells (cTy t) 26 false),(7,.cells (aH d) 30 false)],(by exact eP (by (repeat (first|exact aU|refine aP (by simp[V.get, *]) ?_)))),(by simp),(by rw[show R=_ from hR];exact bI (by simp) (by omega) (by simp)),(by simp[*,aR,aa,aD,au]),(by rw[show R=_ from hR,ae,ay fun i hi=>bN (by omega) (by omega),bM];exact dm (by omega) (by omega) (by simp[bF,b9,aJ,bc,cz])),dr.length,rfl,fun a2 hF2 hL2=>⟨kp++[key],kr',dp++[y],dr,by rw[hkk];simp,by simp,hkq,rfl,((hL2 43 (by simp)).trans (by simp[*]<;>omega)),by rw[show R=_ from hR,ae,ay fun i hi=>bN (by omega) (by omega),bM,hnext];simp[bF,b9,aJ,Hc,Bx]⟩⟩
theorem f210k2e (t:Ty)(d:Doc)(p:List Str)(fs:List Flt)(it:Nat→Str)(u:Ty)(ht:wT t<big)(hd:wD d<1000000000)(hf:cy t d=8)(hk:t.kind=2)(hu:t.of=[u])(hp:p.length+cZ u+1<1000000)(hkids:∀x∈d.kids,rightD x=true)(hX:((fs++[(p,8)])++cM (fun x q=>aV it u x q) d.keys d.kids p).length<1000000000)(hA:wv Γ it u)(hlen:d.keys.length=d.kids.length) :
  CallOk Tryz.prog Γ 210 [.ag (cTy t),.ag (aH d),sls aW p,.pr 3 0,.pr 2 0,.pr 0 0,.pr 1 0] (Hc 5 fs) 6 true (.tp []) (Hc 6 ((fs++[(p,8)])++cM (fun x q=>aV it u x q) d.keys d.kids p)) 7:=by
 have h211:=f211 Γ t d ht
 rw[hf] at h211
 have hbk:d.kids.length<100000000000:=by have:=fP d;omega
 have k4:=(f142h Γ fs p 8 (by simp only[List.length_append,List.length_cons,List.length_nil] at hX;omega)).hc Γ (by simp[aa,aR]) rfl 5 16 (by omega) (by omega)
 obtain⟨R,hR⟩:∃R,R=Hc 16 (fs++[(p,8)]):=⟨_,rfl⟩
 rw[←hR] at k4
 replace hR:Hid R (Hc 16 (fs++[(p,8)])):=hR
 clear hf
 obtain⟨acc0,hacc0⟩:∃acc0,acc0=(fs++[(p,8)]):=⟨_,rfl⟩
 rw[←hacc0] at hX ⊢
 replace hacc0:Hid acc0 (fs++[(p,8)]):=hacc0
 refine ba Tryz.func210 rfl (by simp[Tryz.f210]) (by omega) (by simp[aR,aa]) (gZ (by omega) (by omega) _) ?_
 intro a hl ha
 replace hl:a.length=89:=hl
 have g0:=ha 0 _ rfl
 have g1:=ha 1 _ rfl
 have g2:=ha 2 _ rfl
 have g3:=ha 3 _ rfl
 have g4:=ha 4 _ rfl
 have g5:=ha 5 _ rfl
 have g6:=ha 6 _ rfl
 clear ha
 repeat' first|refine G1 ?_|(refine G2 ?_ ?_<;>intro hc hd<;>try exact hd.elim)|fail
 all_goals (try (refine aC h211 ?_))
 repeat' first|refine G1 ?_|(refine G2 ?_ ?_<;>intro hc hd<;>try exact hd.elim)|fail
 refine av k4 ?_ (hsub:=gP) (hkeys:=by rw[show R=_ from hR];exact ec (by omega) (jG (by omega))) (hh:=mT (by simp))
 rw[show R=_ from hR]
 clear k4 hR R
 rw[←show acc0=fs++[(p,8)] from hacc0]
 repeat' first|refine G1 ?_|(refine G2 ?_ ?_<;>intro hc hd<;>try exact hd.elim)|fail
 refine kw 16 32 [(11,12),(44,63)] [43] 33 (fun k a h=>∃kp kr dp dr,d.keys=kp++kr∧d.kids=dp++dr∧kp.length=dp.length∧k=dr.length∧lk a 43=some (.int .i64 dp.length)∧h=Hc 32 (acc0++cM (fun x q=>aV it u x q) kp dp p)++[(6,.cells (cTy t) 26 false),(7,.cells (aH d) 30 false)]) (by omega) (bI (by simp) (by omega) (by simp)) ⟨[],d.keys,[],d.kids,rfl,rfl,rfl,rfl,by simp[*],(by rw[ae,ay (fun i hi=>by unfold to1;rw[if_neg (by omega)])];simp[bF,b9,aJ,to1,cM])⟩ ?_
 intro a1 hk hk0 k a h hF hI
 replace g2:=hF.a hk 2
 replace g5:=hF.a hk 5
 replace g6:=hF.a hk 6
 replace g7:=hF.a hk 7
 replace g8:=hF.a hk 8
 replace g41:=hF.a hk 41
 replace g42:=hF.a hk 42
 replace hl:a.length=89:=hF.len.trans (hk0.trans (by simp[*]))
 clear hk hk0
 obtain⟨kp,kr,dp,dr,hkk,hl0,hkl,rfl,hix,rfl⟩:=hI
 rw[hl0] at hlen
 have hWD:∀y∈d.kids,wD y<1000000000:=fun y hy=>by have:=kv hy;have:=im d;omega
 clear hd
 generalize d.kids=KD at *
 subst hl0
 cases dr with
 |nil=>
  have hkr:kr=[]:=by
   rw[hkk] at hlen
   simp at hlen
   exact List.eq_nil_of_length_eq_zero (by omega)
  subst hkr
  simp only[List.append_nil] at *
  rw[hkk]
  clear hA hkids hX
  repeat' first|refine G1 ?_|(refine G2 ?_ ?_<;>intro hc hd<;>try exact hd.elim)|fail
  exact⟨by simp,[(32,6)],.tp [],Hc 32 (acc0++cM (fun x q=>aV it u x q) kp dp p),.tp [],Hc 32 (acc0++cM (fun x q=>aV it u x q) kp dp p),by simp,d7 (by omega) _,by simp[Tryz.f210],by simp[au,bu],by rw[ay fun i hi=>bN (by omega) (by omega),bM],gP,Clo.refl _ _⟩
 |cons y dr=>
  have hlt:(dp.length:Int)<dp.length+(dr.length+1):=by omega
  have hw:=ad ((dp.length:Int)+1) (by omega) (by simp at hbk;omega)
  have hbl':dp.length<100000000000:=by simp at hbk;omega
  obtain⟨key,kr',rfl⟩:∃key kr',kr=key::kr':=by
   cases kr with
   |nil=>rw[hkk] at hlen;simp at hlen;omega
   |cons x y=>exact⟨x,y,rfl⟩
  have hkey:(row aW (kp++key::kr')).drop dp.length=.str key::row aW kr':=by rw[←hkl];exact fH kp kr' key
  have hlt2:(dp.length:Int)<kp.length+(kr'.length+1):=by omega
  have hle2:dp.length≤kp.length+(kr'.length+1):=by omega
  have hle3:dp.length≤(row aW (kp++key::kr')).length:=by rw[fl];simp;omega
  have hsn:=fq (fun x q=>aV it u x q) p kp dp [key] [y] hkl
  have hone:cM (fun x q=>aV it u x q) [key] [y] p=aV it u y (p++[key]):=by simp[cM]
  have hbf:(acc0++cM (fun x q=>aV it u x q) kp dp p++aV it u y (p++[key])).length<1000000000:=by
   rw[hkk,show kp++key::kr'=(kp++[key])++kr' by simp,show dp++y::dr=(dp++[y])++dr by simp,fq _ p (kp++[key]) (dp++[y]) kr' dr (by simp[hkl]),hsn,hone] at hX
   simp only[List.length_append] at hX ⊢
   omega
  have hnext:acc0++cM (fun x q=>aV it u x q) (kp++[key]) (dp++[y]) p=acc0++cM (fun x q=>aV it u x q) kp dp p++aV it u y (p++[key]):=by rw[hsn,hone,List.append_assoc]
  have h207:=f207 Γ p key (by unfold big;omega)
  have htu:List.take 6 (row cTy [u])=cTy u:=by rw[bt,eG,List.append_nil];exact List.take_of_length_le (by rw[bH];omega)
  have hru:row cTy [u]=cTy u:=by rw[bt,eG,List.append_nil]
  have hlu:(row cTy [u]).length=6:=by rw[hru];exact bH u
  have hsl:sls cTy [u]=.sl (row cTy [u]) 1 none:=rfl
  have hd5:List.take 5 (aH y)=aH y:=List.take_of_length_le (by rw[bS];omega)
  obtain⟨acc,hacc⟩:∃acc,acc=acc0++cM (fun x q=>aV it u x q) kp dp p:=⟨_,rfl⟩
  rw[←hacc] at hbf hnext ⊢
  replace hacc:Hid acc (acc0++cM (fun x q=>aV it u x q) kp dp p):=hacc
  have k1:=(hA y (p++[key]) acc (hkids y (by simp)) (hWD y (by simp)) (by simp;omega) hbf).hc Γ (by simp[aa,aR,aD]) rfl 32 40 (by omega) (by omega)
  obtain⟨R,hR⟩:∃R,R=Hc 40 (acc++aV it u y (p++[key])):=⟨_,rfl⟩
  rw[←hR] at k1
  replace hR:Hid R (Hc 40 (acc++aV it u y (p++[key]))):=hR
  generalize p++[key]=q at *
  clear hA hkids hX hsn hone hbf hWD
  replace hkl:Hid kp.length dp.length:=hkl
  have hkq:kp.length+1=dp.length+1:=congrArg (· + 1) hkl
  replace hkq:Eqn (kp++[key]).length (dp++[y]).length:=by show(kp++[key]).length=(dp++[y]).length;simp;exact hkl
  clear hlen
  unfold Hc Bx at k1 ⊢
  rcases eO dM 2 dS bh ef 32 77 acc with ⟨_,e1,e2,_⟩|⟨n,cs,hn,hcs,e1,e2,_,c1,c2,c3⟩<;>rw[e1,e2] at k1 ⊢ <;> clear e1 e2<;>simp only[List.cons_append,List.nil_append] at k1 ⊢
  ·
   repeat' first|refine G1 ?_|(refine G2 ?_ ?_<;>intro hc hd<;>try exact hd.elim)|fail
   refine aQ h207 ?_
   repeat' first|refine G1 ?_|(refine G2 ?_ ?_<;>intro hc hd<;>try exact hd.elim)|fail
   refine cI k1 ?_ (hkeys:=by rw[show R=_ from hR];exact ec (by omega) (mc (by simp[V.get]) (by simp[V.get]) (by simp[V.get]) (by simp[V.get]) (by simp[V.get])))
   repeat' first|refine G1 ?_|(refine G2 ?_ ?_<;>intro hc hd<;>try exact hd.elim)|fail
   exact⟨(by (repeat refine Frm.set ?_ rfl);exact hF),[(40,32)],R++[(6,.cells (cTy t) 26 false),(7,.cells (aH d) 30 false)],(by exact eP (by (repeat (first|exact aU|refine aP (by simp[V.get, *]) ?_)))),(by simp),(by rw[show R=_ from hR];exact bI (by simp) (by omega) (by simp)),(by simp[*,aR,aa,aD,au]),(by rw[show R=_ from hR,ae,ay fun i hi=>bN (by omega) (by omega),bM];exact dm (by omega) (by omega) (by simp[bF,b9,aJ,bc,cz])),dr.length,rfl,fun a2 hF2 hL2=>⟨kp++[key],kr',dp++[y],dr,by rw[hkk];simp,by simp,hkq,rfl,((hL2 43 (by simp)).trans (by simp[*]<;>omega)),by rw[show R=_ from hR,ae,ay fun i hi=>bN (by omega) (by omega),bM,hnext];simp[bF,b9,aJ,Hc,Bx]⟩⟩
  ·
   have hlo:=fun N=>aD (N:=N) _ c2
   repeat' first|refine G1 ?_|(refine G2 ?_ ?_<;>intro hc hd<;>try exact hd.elim)|fail
   refine aQ h207 ?_
   repeat' first|refine G1 ?_|(refine G2 ?_ ?_<;>intro hc hd<;>try exact hd.elim)|fail
   refine cI k1 ?_ (hkeys:=by rw[show R=_ from hR];exact ec (by omega) (mc (by simp[V.get]) (by simp[V.get]) (by simp[V.get]) (by simp[V.get]) (by simp[V.get])))
   repeat' first|refine G1 ?_|(refine G2 ?_ ?_<;>intro hc hd<;>try exact hd.elim)|fail
   exact⟨(by (repeat refine Frm.set ?_ rfl);exact hF),[(40,32)],R++[(6,.cells (cTy t) 26 false),(7,.cells (aH d) 30 false)],(by exact eP (by (repeat (first|exact aU|refine aP (by simp[V.get, *]) ?_)))),(by simp),(by rw[show R=_ from hR];exact bI (by simp) (by omega) (by simp)),(by simp[*,aR,aa,aD,au]),(by rw[show R=_ from hR,ae,ay fun i hi=>bN (by omega) (by omega),bM];exact dm (by omega) (by omega) (by simp[bF,b9,aJ,bc,cz])),dr.length,rfl,fun a2 hF2 hL2=>⟨kp++[key],kr',dp++[y],dr,by rw[hkk];simp,by simp,hkq,rfl,((hL2 43 (by simp)).trans (by simp[*]<;>omega)),by rw[show R=_ from hR,ae,ay fun i hi=>bN (by omega) (by omega),bM,hnext];simp[bF,b9,aJ,Hc,Bx]⟩⟩
theorem f210k3z (t:Ty)(d:Doc)(p:List Str)(fs:List Flt)(it:Nat→Str)(u:Ty)(ht:wT t<big)(hd:wD d<1000000000)(hf:cy t d=0)(hk:t.kind=3)(hu:t.of=[u])(hp:p.length+cZ u+1<1000000)(hkids:∀x∈d.kids,rightD x=true)(hX:(fs++cU it (fun x q=>aV it u x q) d.kids 0 p).length<1000000000)(hA:wv Γ it u)(hit:∀k:Nat,k<d.kids.length→PureOk Tryz.prog Γ 65 [.int .i64 k] (.str (it k))) :
  CallOk Tryz.prog Γ 210 [.ag (cTy t),.ag (aH d),sls aW p,.pr 3 0,.pr 2 0,.pr 0 0,.pr 1 0] (Hc 5 fs) 6 true (.tp []) (Hc 6 (fs++cU it (fun x q=>aV it u x q) d.kids 0 p)) 7:=by
 have h211:=f211 Γ t d ht
 rw[hf] at h211
 have hbk:d.kids.length<100000000000:=by have:=fP d;omega
 clear hf
 obtain⟨acc0,hacc0⟩:∃acc0,acc0=fs:=⟨_,rfl⟩
 rw[←hacc0] at hX ⊢
 replace hacc0:Hid acc0 fs:=hacc0
 refine ba Tryz.func210 rfl (by simp[Tryz.f210]) (by omega) (by simp[aR,aa]) (gZ (by omega) (by omega) _) ?_
 intro a hl ha
 replace hl:a.length=89:=hl
 have g0:=ha 0 _ rfl
 have g1:=ha 1 _ rfl
 have g2:=ha 2 _ rfl
 have g3:=ha 3 _ rfl
 have g4:=ha 4 _ rfl
 have g5:=ha 5 _ rfl
 have g6:=ha 6 _ rfl
 clear ha
 repeat' first|refine G1 ?_|(refine G2 ?_ ?_<;>intro hc hd<;>try exact hd.elim)|fail
 all_goals (try (refine aC h211 ?_))
 repeat' first|refine G1 ?_|(refine G2 ?_ ?_<;>intro hc hd<;>try exact hd.elim)|fail
 refine kw 5 32 [(13,14),(72,88)] [71] 33 (fun k a h=>∃dp dr,d.kids=dp++dr∧k=dr.length∧lk a 71=some (.int .i64 dp.length)∧h=Hc 32 (acc0++cU it (fun x q=>aV it u x q) dp 0 p)++[(6,.cells (cTy t) 26 false),(7,.cells (aH d) 30 false)]) (by omega) (bI (by simp) (by omega) (by simp)) ⟨[],d.kids,rfl,rfl,by simp[*],(by rw[ae,ay (fun i hi=>by unfold to1;rw[if_neg (by omega)])];simp[bF,b9,aJ,to1,cU])⟩ ?_
 intro a1 hk hk0 k a h hF hI
 replace g2:=hF.a hk 2
 replace g5:=hF.a hk 5
 replace g6:=hF.a hk 6
 replace g7:=hF.a hk 7
 replace g69:=hF.a hk 69
 replace g70:=hF.a hk 70
 replace hl:a.length=89:=hF.len.trans (hk0.trans (by simp[*]))
 clear hk hk0
 obtain⟨dp,dr,hl0,rfl,hix,rfl⟩:=hI
 have hWD:∀y∈d.kids,wD y<1000000000:=fun y hy=>by have:=kv hy;have:=im d;omega
 clear hd
 generalize d.kids=KD at *
 subst hl0
 cases dr with
 |nil=>
  simp only[List.append_nil] at *
  clear hA hkids hX hit
  repeat' first|refine G1 ?_|(refine G2 ?_ ?_<;>intro hc hd<;>try exact hd.elim)|fail
  exact⟨by simp,[(32,6)],.tp [],Hc 32 (acc0++cU it (fun x q=>aV it u x q) dp 0 p),.tp [],Hc 32 (acc0++cU it (fun x q=>aV it u x q) dp 0 p),by simp,d7 (by omega) _,by simp[Tryz.f210],by simp[au,bu],by rw[ay fun i hi=>bN (by omega) (by omega),bM],gP,Clo.refl _ _⟩
 |cons y dr=>
  have hlt:(dp.length:Int)<dp.length+(dr.length+1):=by omega
  have hw:=ad ((dp.length:Int)+1) (by omega) (by simp at hbk;omega)
  have hbl':dp.length<100000000000:=by simp at hbk;omega
  obtain⟨key,hkey⟩:∃key,key=it dp.length:=⟨_,rfl⟩
  have h65:=hit dp.length (by simp)
  rw[←hkey] at h65
  have hsn:=ft it (fun x q=>aV it u x q) p dp [y] 0
  have hone:cU it (fun x q=>aV it u x q) [y] (0+dp.length) p=aV it u y (p++[key]):=by simp[cU,hkey]
  have hbf:(acc0++cU it (fun x q=>aV it u x q) dp 0 p++aV it u y (p++[key])).length<1000000000:=by
   rw[show dp++y::dr=(dp++[y])++dr by simp,ft it _ p (dp++[y]) dr,hsn,hone] at hX
   simp only[List.length_append] at hX ⊢
   omega
  have hnext:acc0++cU it (fun x q=>aV it u x q) (dp++[y]) 0 p=acc0++cU it (fun x q=>aV it u x q) dp 0 p++aV it u y (p++[key]):=by rw[hsn,hone,List.append_assoc]
  clear hkey hit
  have h207:=f207 Γ p key (by unfold big;omega)
  have htu:List.take 6 (row cTy [u])=cTy u:=by rw[bt,eG,List.append_nil];exact List.take_of_length_le (by rw[bH];omega)
  have hru:row cTy [u]=cTy u:=by rw[bt,eG,List.append_nil]
  have hlu:(row cTy [u]).length=6:=by rw[hru];exact bH u
  have hsl:sls cTy [u]=.sl (row cTy [u]) 1 none:=rfl
  have hd5:List.take 5 (aH y)=aH y:=List.take_of_length_le (by rw[bS];omega)
  obtain⟨acc,hacc⟩:∃acc,acc=acc0++cU it (fun x q=>aV it u x q) dp 0 p:=⟨_,rfl⟩
  rw[←hacc] at hbf hnext ⊢
  replace hacc:Hid acc (acc0++cU it (fun x q=>aV it u x q) dp 0 p):=hacc
  have k1:=(hA y (p++[key]) acc (hkids y (by simp)) (hWD y (by simp)) (by simp;omega) hbf).hc Γ (by simp[aa,aR,aD]) rfl 32 40 (by omega) (by omega)
  obtain⟨R,hR⟩:∃R,R=Hc 40 (acc++aV it u y (p++[key])):=⟨_,rfl⟩
  rw[←hR] at k1
  replace hR:Hid R (Hc 40 (acc++aV it u y (p++[key]))):=hR
  generalize p++[key]=q at *
  clear hA hkids hX hsn hone hbf hWD
  unfold Hc Bx at k1 ⊢
  rcases eO dM 2 dS bh ef 32 77 acc with ⟨_,e1,e2,_⟩|⟨n,cs,hn,hcs,e1,e2,_,c1,c2,c3⟩<;>rw[e1,e2] at k1 ⊢ <;> clear e1 e2<;>simp only[List.cons_append,List.nil_append] at k1 ⊢
  ·
   repeat' first|refine G1 ?_|(refine G2 ?_ ?_<;>intro hc hd<;>try exact hd.elim)|fail
   refine aQ h65 ?_
   repeat' first|refine G1 ?_|(refine G2 ?_ ?_<;>intro hc hd<;>try exact hd.elim)|fail
   refine aQ h207 ?_
   repeat' first|refine G1 ?_|(refine G2 ?_ ?_<;>intro hc hd<;>try exact hd.elim)|fail
   refine cI k1 ?_ (hkeys:=by rw[show R=_ from hR];exact ec (by omega) (mc (by simp[V.get]) (by simp[V.get]) (by simp[V.get]) (by simp[V.get]) (by simp[V.get])))
   repeat' first|refine G1 ?_|(refine G2 ?_ ?_<;>intro hc hd<;>try exact hd.elim)|fail
   exact⟨(by (repeat refine Frm.set ?_ rfl);exact hF),[(40,32)],R++[(6,.cells (cTy t) 26 false),(7,.cells (aH d) 30 false)],(by exact eP (by (repeat (first|exact aU|refine aP (by simp[V.get, *]) ?_)))),(by simp),(by rw[show R=_ from hR];exact bI (by simp) (by omega) (by simp)),(by simp[*,aR,aa,aD,au]),(by rw[show R=_ from hR,ae,ay fun i hi=>bN (by omega) (by omega),bM];exact dm (by omega) (by omega) (by simp[bF,b9,aJ,bc,cz])),dr.length,rfl,fun a2 hF2 hL2=>⟨dp++[y],dr,by simp,rfl,((hL2 71 (by simp)).trans (by simp[*]<;>omega)),by rw[show R=_ from hR,ae,ay fun i hi=>bN (by omega) (by omega),bM,hnext];simp[bF,b9,aJ,Hc,Bx]⟩⟩
  ·
   have hlo:=fun N=>aD (N:=N) _ c2
   repeat' first|refine G1 ?_|(refine G2 ?_ ?_<;>intro hc hd<;>try exact hd.elim)|fail
   refine aQ h65 ?_
   repeat' first|refine G1 ?_|(refine G2 ?_ ?_<;>intro hc hd<;>try exact hd.elim)|fail
   refine aQ h207 ?_
   repeat' first|refine G1 ?_|(refine G2 ?_ ?_<;>intro hc hd<;>try exact hd.elim)|fail
   refine cI k1 ?_ (hkeys:=by rw[show R=_ from hR];exact ec (by omega) (mc (by simp[V.get]) (by simp[V.get]) (by simp[V.get]) (by simp[V.get]) (by simp[V.get])))
   repeat' first|refine G1 ?_|(refine G2 ?_ ?_<;>intro hc hd<;>try exact hd.elim)|fail
   exact⟨(by (repeat refine Frm.set ?_ rfl);exact hF),[(40,32)],R++[(6,.cells (cTy t) 26 false),(7,.cells (aH d) 30 false)],(by exact eP (by (repeat (first|exact aU|refine aP (by simp[V.get, *]) ?_)))),(by simp),(by rw[show R=_ from hR];exact bI (by simp) (by omega) (by simp)),(by simp[*,aR,aa,aD,au]),(by rw[show R=_ from hR,ae,ay fun i hi=>bN (by omega) (by omega),bM];exact dm (by omega) (by omega) (by simp[bF,b9,aJ,bc,cz])),dr.length,rfl,fun a2 hF2 hL2=>⟨dp++[y],dr,by simp,rfl,((hL2 71 (by simp)).trans (by simp[*]<;>omega)),by rw[show R=_ from hR,ae,ay fun i hi=>bN (by omega) (by omega),bM,hnext];simp[bF,b9,aJ,Hc,Bx]⟩⟩
theorem f210k3e (t:Ty)(d:Doc)(p:List Str)(fs:List Flt)(it:Nat→Str)(u:Ty)(ht:wT t<big)(hd:wD d<1000000000)(hf:cy t d=8)(hk:t.kind=3)(hu:t.of=[u])(hp:p.length+cZ u+1<1000000)(hkids:∀x∈d.kids,rightD x=true)(hX:((fs++[(p,8)])++cU it (fun x q=>aV it u x q) d.kids 0 p).length<1000000000)(hA:wv Γ it u)(hit:∀k:Nat,k<d.kids.length→PureOk Tryz.prog Γ 65 [.int .i64 k] (.str (it k))) :
  CallOk Tryz.prog Γ 210 [.ag (cTy t),.ag (aH d),sls aW p,.pr 3 0,.pr 2 0,.pr 0 0,.pr 1 0] (Hc 5 fs) 6 true (.tp []) (Hc 6 ((fs++[(p,8)])++cU it (fun x q=>aV it u x q) d.kids 0 p)) 7:=by
 have h211:=f211 Γ t d ht
 rw[hf] at h211
 have hbk:d.kids.length<100000000000:=by have:=fP d;omega
 have k4:=(f142h Γ fs p 8 (by simp only[List.length_append,List.length_cons,List.length_nil] at hX;omega)).hc Γ (by simp[aa,aR]) rfl 5 16 (by omega) (by omega)
 obtain⟨R,hR⟩:∃R,R=Hc 16 (fs++[(p,8)]):=⟨_,rfl⟩
 rw[←hR] at k4
 replace hR:Hid R (Hc 16 (fs++[(p,8)])):=hR
 clear hf
 obtain⟨acc0,hacc0⟩:∃acc0,acc0=(fs++[(p,8)]):=⟨_,rfl⟩
 rw[←hacc0] at hX ⊢
 replace hacc0:Hid acc0 (fs++[(p,8)]):=hacc0
 refine ba Tryz.func210 rfl (by simp[Tryz.f210]) (by omega) (by simp[aR,aa]) (gZ (by omega) (by omega) _) ?_
 intro a hl ha
 replace hl:a.length=89:=hl
 have g0:=ha 0 _ rfl
 have g1:=ha 1 _ rfl
 have g2:=ha 2 _ rfl
 have g3:=ha 3 _ rfl
 have g4:=ha 4 _ rfl
 have g5:=ha 5 _ rfl
 have g6:=ha 6 _ rfl
 clear ha
 repeat' first|refine G1 ?_|(refine G2 ?_ ?_<;>intro hc hd<;>try exact hd.elim)|fail
 all_goals (try (refine aC h211 ?_))
 repeat' first|refine G1 ?_|(refine G2 ?_ ?_<;>intro hc hd<;>try exact hd.elim)|fail
 refine av k4 ?_ (hsub:=gP) (hkeys:=by rw[show R=_ from hR];exact ec (by omega) (jG (by omega))) (hh:=mT (by simp))
 rw[show R=_ from hR]
 clear k4 hR R
 rw[←show acc0=fs++[(p,8)] from hacc0]
 repeat' first|refine G1 ?_|(refine G2 ?_ ?_<;>intro hc hd<;>try exact hd.elim)|fail
 refine kw 16 36 [(13,14),(72,88)] [71] 37 (fun k a h=>∃dp dr,d.kids=dp++dr∧k=dr.length∧lk a 71=some (.int .i64 dp.length)∧h=Hc 36 (acc0++cU it (fun x q=>aV it u x q) dp 0 p)++[(6,.cells (cTy t) 26 false),(7,.cells (aH d) 30 false)]) (by omega) (bI (by simp) (by omega) (by simp)) ⟨[],d.kids,rfl,rfl,by simp[*],(by rw[ae,ay (fun i hi=>by unfold to1;rw[if_neg (by omega)])];simp[bF,b9,aJ,to1,cU])⟩ ?_
 intro a1 hk hk0 k a h hF hI
 replace g2:=hF.a hk 2
 replace g5:=hF.a hk 5
 replace g6:=hF.a hk 6
 replace g7:=hF.a hk 7
 replace g69:=hF.a hk 69
 replace g70:=hF.a hk 70
 replace hl:a.length=89:=hF.len.trans (hk0.trans (by simp[*]))
 clear hk hk0
 obtain⟨dp,dr,hl0,rfl,hix,rfl⟩:=hI
 have hWD:∀y∈d.kids,wD y<1000000000:=fun y hy=>by have:=kv hy;have:=im d;omega
 clear hd
 generalize d.kids=KD at *
 subst hl0
 cases dr with
 |nil=>
  simp only[List.append_nil] at *
  clear hA hkids hX hit
  repeat' first|refine G1 ?_|(refine G2 ?_ ?_<;>intro hc hd<;>try exact hd.elim)|fail
  exact⟨by simp,[(36,6)],.tp [],Hc 36 (acc0++cU it (fun x q=>aV it u x q) dp 0 p),.tp [],Hc 36 (acc0++cU it (fun x q=>aV it u x q) dp 0 p),by simp,d7 (by omega) _,by simp[Tryz.f210],by simp[au,bu],by rw[ay fun i hi=>bN (by omega) (by omega),bM],gP,Clo.refl _ _⟩
 |cons y dr=>
  have hlt:(dp.length:Int)<dp.length+(dr.length+1):=by omega
  have hw:=ad ((dp.length:Int)+1) (by omega) (by simp at hbk;omega)
  have hbl':dp.length<100000000000:=by simp at hbk;omega
  obtain⟨key,hkey⟩:∃key,key=it dp.length:=⟨_,rfl⟩
  have h65:=hit dp.length (by simp)
  rw[←hkey] at h65
  have hsn:=ft it (fun x q=>aV it u x q) p dp [y] 0
  have hone:cU it (fun x q=>aV it u x q) [y] (0+dp.length) p=aV it u y (p++[key]):=by simp[cU,hkey]
  have hbf:(acc0++cU it (fun x q=>aV it u x q) dp 0 p++aV it u y (p++[key])).length<1000000000:=by
   rw[show dp++y::dr=(dp++[y])++dr by simp,ft it _ p (dp++[y]) dr,hsn,hone] at hX
   simp only[List.length_append] at hX ⊢
   omega
  have hnext:acc0++cU it (fun x q=>aV it u x q) (dp++[y]) 0 p=acc0++cU it (fun x q=>aV it u x q) dp 0 p++aV it u y (p++[key]):=by rw[hsn,hone,List.append_assoc]
  clear hkey hit
  have h207:=f207 Γ p key (by unfold big;omega)
  have htu:List.take 6 (row cTy [u])=cTy u:=by rw[bt,eG,List.append_nil];exact List.take_of_length_le (by rw[bH];omega)
  have hru:row cTy [u]=cTy u:=by rw[bt,eG,List.append_nil]
  have hlu:(row cTy [u]).length=6:=by rw[hru];exact bH u
  have hsl:sls cTy [u]=.sl (row cTy [u]) 1 none:=rfl
  have hd5:List.take 5 (aH y)=aH y:=List.take_of_length_le (by rw[bS];omega)
  obtain⟨acc,hacc⟩:∃acc,acc=acc0++cU it (fun x q=>aV it u x q) dp 0 p:=⟨_,rfl⟩
  rw[←hacc] at hbf hnext ⊢
  replace hacc:Hid acc (acc0++cU it (fun x q=>aV it u x q) dp 0 p):=hacc
  have k1:=(hA y (p++[key]) acc (hkids y (by simp)) (hWD y (by simp)) (by simp;omega) hbf).hc Γ (by simp[aa,aR,aD]) rfl 36 44 (by omega) (by omega)
  obtain⟨R,hR⟩:∃R,R=Hc 44 (acc++aV it u y (p++[key])):=⟨_,rfl⟩
  rw[←hR] at k1
  replace hR:Hid R (Hc 44 (acc++aV it u y (p++[key]))):=hR
  generalize p++[key]=q at *
  clear hA hkids hX hsn hone hbf hWD
  unfold Hc Bx at k1 ⊢
  rcases eO dM 2 dS bh ef 36 77 acc with ⟨_,e1,e2,_⟩|⟨n,cs,hn,hcs,e1,e2,_,c1,c2,c3⟩<;>rw[e1,e2] at k1 ⊢ <;> clear e1 e2<;>simp only[List.cons_append,List.nil_append] at k1 ⊢
  ·
   repeat' first|refine G1 ?_|(refine G2 ?_ ?_<;>intro hc hd<;>try exact hd.elim)|fail
   refine aQ h65 ?_
   repeat' first|refine G1 ?_|(refine G2 ?_ ?_<;>intro hc hd<;>try exact hd.elim)|fail
   refine aQ h207 ?_
   repeat' first|refine G1 ?_|(refine G2 ?_ ?_<;>intro hc hd<;>try exact hd.elim)|fail
   refine cI k1 ?_ (hkeys:=by rw[show R=_ from hR];exact ec (by omega) (mc (by simp[V.get]) (by simp[V.get]) (by simp[V.get]) (by simp[V.get]) (by simp[V.get])))
   repeat' first|refine G1 ?_|(refine G2 ?_ ?_<;>intro hc hd<;>try exact hd.elim)|fail
   exact⟨(by (repeat refine Frm.set ?_ rfl);exact hF),[(44,36)],R++[(6,.cells (cTy t) 26 false),(7,.cells (aH d) 30 false)],(by exact eP (by (repeat (first|exact aU|refine aP (by simp[V.get, *]) ?_)))),(by simp),(by rw[show R=_ from hR];exact bI (by simp) (by omega) (by simp)),(by simp[*,aR,aa,aD,au]),(by rw[show R=_ from hR,ae,ay fun i hi=>bN (by omega) (by omega),bM];exact dm (by omega) (by omega) (by simp[bF,b9,aJ,bc,cz])),dr.length,rfl,fun a2 hF2 hL2=>⟨dp++[y],dr,by simp,rfl,((hL2 71 (by simp)).trans (by simp[*]<;>omega)),by rw[show R=_ from hR,ae,ay fun i hi=>bN (by omega) (by omega),bM,hnext];simp[bF,b9,aJ,Hc,Bx]⟩⟩
  ·
   have hlo:=fun N=>aD (N:=N) _ c2
   repeat' first|refine G1 ?_|(refine G2 ?_ ?_<;>intro hc hd<;>try exact hd.elim)|fail
   refine aQ h65 ?_
   repeat' first|refine G1 ?_|(refine G2 ?_ ?_<;>intro hc hd<;>try exact hd.elim)|fail
   refine aQ h207 ?_
   repeat' first|refine G1 ?_|(refine G2 ?_ ?_<;>intro hc hd<;>try exact hd.elim)|fail
   refine cI k1 ?_ (hkeys:=by rw[show R=_ from hR];exact ec (by omega) (mc (by simp[V.get]) (by simp[V.get]) (by simp[V.get]) (by simp[V.get]) (by simp[V.get])))
   repeat' first|refine G1 ?_|(refine G2 ?_ ?_<;>intro hc hd<;>try exact hd.elim)|fail
   exact⟨(by (repeat refine Frm.set ?_ rfl);exact hF),[(44,36)],R++[(6,.cells (cTy t) 26 false),(7,.cells (aH d) 30 false)],(by exact eP (by (repeat (first|exact aU|refine aP (by simp[V.get, *]) ?_)))),(by simp),(by rw[show R=_ from hR];exact bI (by simp) (by omega) (by simp)),(by simp[*,aR,aa,aD,au]),(by rw[show R=_ from hR,ae,ay fun i hi=>bN (by omega) (by omega),bM];exact dm (by omega) (by omega) (by simp[bF,b9,aJ,bc,cz])),dr.length,rfl,fun a2 hF2 hL2=>⟨dp++[y],dr,by simp,rfl,((hL2 71 (by simp)).trans (by simp[*]<;>omega)),by rw[show R=_ from hR,ae,ay fun i hi=>bN (by omega) (by omega),bM,hnext];simp[bF,b9,aJ,Hc,Bx]⟩⟩
end
end Go.V
end
section
namespace Go.V
theorem s6 (p:Plc):∀l:List Res,wRs (drp p l)≤wRs l
 |[]=>Nat.le_refl _
 |x::l=>by
  have:=s6 p l
  rw[og]
  split
  ·
   simp only[wRs];omega
  ·
   simp only[wRs];omega
theorem ud (x:Res):∀l:List Res,wRs (gD x l)=x.step.length+x.at_.length+wD x.doc+wRs l
 |[]=>rfl
 |y::l=>by
  rw[gD]
  split
  ·
   rfl
  ·
   simp only[wRs,ud x l];omega
theorem qC (l:List Res)(x:Res):wRs (j9 l x)≤wRs l+(x.step.length+x.at_.length+wD x.doc):=by
 rw[sN,ud]
 have:=s6 (plc x) l
 omega
def pd (p:Plc)(l:List Res):Option Doc:=(fnd p l).map (·.doc)
theorem ye (p q:Plc)(l:List Res):pd q (drp p l)=if q=p then none else pd q l:=by
 unfold pd
 rw[sA]
 split<;>rfl
theorem wQ (q:Plc)(x:Res)(l:List Res):pd q (j9 l x)=if q=plc x then some x.doc else pd q l:=by
 unfold pd
 rw[yH]
 split<;>rfl
theorem CR {l m:List Res}(hl:srt l)(hm:srt m)(h:∀p,pd p l=pd p m):l=m:=by
 refine w5 hl hm fun p=>?_
 have:=h p
 unfold pd at this
 cases h1:fnd p l with
 |none=>
  rw[h1] at this
  cases h2:fnd p m with
  |none=>rfl
  |some y=>rw[h2] at this;cases this
 |some x=>
  rw[h1] at this
  cases h2:fnd p m with
  |none=>rw[h2] at this;cases this
  |some y=>
   rw[h2] at this
   have e1:=(mE h1).1
   have e2:=(mE h2).1
   simp only[Option.map_some,Option.some.injEq] at this
   rw[←e2] at e1
   unfold plc at e1
   simp only[Prod.mk.injEq] at e1
   obtain⟨a1,b1,c1,d1⟩:=x
   obtain⟨a2,b2,c2,d2⟩:=y
   simp only at e1 this
   obtain⟨rfl,rfl,rfl⟩:=e1
   subst this
   rfl
def rS (e:Int)(st:List Int)(ks:List Str)(p:Plc):Prop:=p.1=e∧st <+: p.2.1∧ks <+: p.2.2
def rL (e:Int)(st:List Int)(ks:List Str)(k:Nat)(p:Plc):Prop:=∃j:Nat,k≤j∧rS e (st++[(j:Int)]) ks p
theorem pP (e:Int)(st:List Int)(ks:List Str):rS e st ks (e,st,ks):=⟨rfl,List.prefix_refl _,List.prefix_refl _⟩
theorem Dw {e:Int}{st st':List Int}{ks:List Str}{p:Plc}(h:rS e (st++st') ks p):rS e st ks p:=⟨h.1,(List.prefix_append _ _).trans h.2.1,h.2.2⟩
theorem Dv {e:Int}{st:List Int}{ks ks':List Str}{p:Plc}(h:rS e st (ks++ks') p):rS e st ks p:=⟨h.1,h.2.1,(List.prefix_append _ _).trans h.2.2⟩
theorem yi {e:Int}{st:List Int}{ks:List Str}{k:Nat}{p:Plc}(h:rL e st ks k p):rS e st ks p:=by
 obtain⟨j,_,h⟩:=h
 exact Dw h
theorem oO {e:Int}{st:List Int}{ks:List Str}{k:Nat}{p:Plc}:rL e st ks k p↔rS e (st++[(k:Int)]) ks p∨rL e st ks (k+1) p:=by
 constructor
 ·
  rintro⟨j,h1,h2⟩
  by_cases e:j=k
  ·
   subst e;exact .inl h2
  ·
   exact .inr ⟨j,by omega,h2⟩
 ·
  rintro(h|⟨j,h1,h2⟩)
  ·
   exact⟨k,Nat.le_refl _,h⟩
  ·
   exact⟨j,by omega,h2⟩
theorem wS {α:Type}{a l:List α}{x y:α}(h:a++[x] <+: l)(h':a++[y] <+: l):x=y:=by
 obtain⟨t1,h1⟩:=h
 obtain⟨t2,h2⟩:=h'
 have:=h1.trans h2.symm
 simp only[List.append_assoc,List.append_cancel_left_eq] at this
 simp only[List.cons_append,List.nil_append,List.cons.injEq] at this
 exact this.1
theorem yg {e:Int}{st:List Int}{ks:List Str}{k:Nat}{p:Plc}(h:rS e (st++[(k:Int)]) ks p)(h':rL e st ks (k+1) p):False:=by
 obtain⟨j,h1,h2⟩:=h'
 have:=wS h.2.1 h2.2.1
 omega
theorem xI {e:Int}{st:List Int}{ks:List Str}{s s':Str}{p:Plc}(h:rS e st (ks++[s]) p)(h':rS e st (ks++[s']) p):s=s':=wS h.2.2 h'.2.2
def wW (w:Wlk):Nat:=wRs w.res+wRs w.needs
def Act (reg:Plc→Prop)(C:Nat)(run:Wlk→Flds→Option (Wlk×Flds))(f:Flds)(A:Plc→Option Doc)(f':Flds)(B:Plc→Option Doc):Prop:=
 ∀w g,bl g→eqM g f→srt w.res→(∀p,reg p→pd p w.res=A p)→wW w+wF g+C<lim→
  ∃w' g',run w g=some (w',g')∧bl g'∧eqM g' f'∧srt w'.res∧(∀p,reg p→pd p w'.res=B p)∧(∀p,¬reg p→pd p w'.res=pd p w.res)∧w'.err=w.err∧wW w'+wF g'≤wW w+wF g+C
def non:Plc→Option Doc:=fun _=>none
section
variable {reg reg':Plc→Prop} {C C':Nat} {run run':Wlk→Flds→Option (Wlk×Flds)} {f f1 f':Flds} {A A' B B':Plc→Option Doc}
theorem Act.mono (h:Act reg C run f A f' B)(hC:C≤C'):Act reg C' run f A f' B:=by
 intro w g h1 h2 h3 h4 h5
 obtain⟨w',g',k1,k2,k3,k4,k5,k6,k7,k8⟩:=h w g h1 h2 h3 h4 (by omega)
 exact⟨w',g',k1,k2,k3,k4,k5,k6,k7,by omega⟩
theorem Act.ab (h:Act reg C run f A f' B)(hA:∀p,reg p→A p=A' p)(hB:∀p,reg p→B p=B' p):Act reg C run f A' f' B':=by
 intro w g h1 h2 h3 h4 h5
 obtain⟨w',g',k1,k2,k3,k4,k5,k6,k7,k8⟩:=h w g h1 h2 h3 (fun p hp=>(h4 p hp).trans (hA p hp).symm) h5
 exact⟨w',g',k1,k2,k3,k4,fun p hp=>(k5 p hp).trans (hB p hp),k6,k7,k8⟩
theorem Act.wide (h:Act reg C run f A f' B)(hr:∀p,reg p→reg' p)(hn:∀p,reg' p→¬reg p→A p=B p):Act reg' C run f A f' B:=by
 intro w g h1 h2 h3 h4 h5
 obtain⟨w',g',k1,k2,k3,k4,k5,k6,k7,k8⟩:=h w g h1 h2 h3 (fun p hp=>h4 p (hr p hp)) h5
 refine⟨w',g',k1,k2,k3,k4,fun p hp=>?_,fun p hp=>k6 p fun hq=>hp (hr p hq),k7,k8⟩
 by_cases hq:reg p
 ·
  exact k5 p hq
 ·
  rw[k6 p hq,h4 p hp,hn p hp hq]
theorem Act.iff (h:Act reg C run f A f' B)(hr:∀p,reg p↔reg' p):Act reg' C run f A f' B:=h.wide (fun p hp=>(hr p).1 hp) (fun p hp hq=>(hq ((hr p).2 hp)).elim)
theorem Act.runs (h:Act reg C run f A f' B)(hr:∀w g,bl g→eqM g f→wW w+wF g+C<lim→(∀w' g',run w g=some (w',g')→wW w'+wF g'≤wW w+wF g+C→run' w g=some (w',g'))):Act reg C run' f A f' B:=by
 intro w g h1 h2 h3 h4 h5
 obtain⟨w',g',k1,k2,k3,k4,k5,k6,k7,k8⟩:=h w g h1 h2 h3 h4 h5
 exact⟨w',g',hr w g h1 h2 h5 w' g' k1 k8,k2,k3,k4,k5,k6,k7,k8⟩
theorem Act.seq (h:Act reg C run f A f1 B)(k:Act reg' C' run' f1 A f' B)(hd:∀p,reg p→reg' p→False) :
  Act (fun p=>reg p∨reg' p) (C+C') (fun w g=>match run w g with|some (w',g')=>run' w' g'|none=>none) f A f' B:=by
 intro w g h1 h2 h3 h4 h5
 obtain⟨w',g',k1,k2,k3,k4,k5,k6,k7,k8⟩:=h w g h1 h2 h3 (fun p hp=>h4 p (.inl hp)) (by omega)
 obtain⟨w2,g2,l1,l2,l3,l4,l5,l6,l7,l8⟩:=k w' g' k2 k3 k4 (fun p hp=>by rw[k6 p (fun hq=>hd p hq hp)];exact h4 p (.inr hp)) (by omega)
 refine⟨w2,g2,by simp only[k1];exact l1,l2,l3,l4,?_,?_,l7.trans k7,by omega⟩
 ·
  rintro p (hp|hp)
  ·
   rw[l6 p (fun hq=>hd p hp hq)];exact k5 p hp
  ·
   exact l5 p hp
 ·
  intro p hp
  rw[l6 p (fun hq=>hp (.inr hq)),k6 p (fun hq=>hp (.inl hq))]
theorem Act.fld (F:Flds→Flds)(hr:∀w g,bl g→eqM g f→run w g=some (w,F g))(hF:∀g,bl g→eqM g f→bl (F g)∧eqM (F g) f'∧wF (F g)≤wF g+C):Act reg C run f A f' A:=by
 intro w g h1 h2 h3 h4 h5
 obtain⟨k1,k2,k3⟩:=hF g h1 h2
 exact⟨w,F g,hr w g h1 h2,k1,k2,h3,h4,fun _ _=>rfl,rfl,by omega⟩
end
structure Way (reg:Plc→Prop)(C:Nat)(fw bw:Wlk→Flds→Option (Wlk×Flds))(f f':Flds)(A B:Plc→Option Doc):Prop where
 supA:∀p,¬reg p→A p=none
 supB:∀p,¬reg p→B p=none
 first:Act reg C fw f non f' B
 again:Act reg C fw f A f' B
 back:Act reg C bw f' B f A
theorem Way.mono {reg:Plc→Prop}{C C':Nat}{fw bw:Wlk→Flds→Option (Wlk×Flds)}{f f':Flds}{A B:Plc→Option Doc}(h:Way reg C fw bw f f' A B)(hC:C≤C'):Way reg C' fw bw f f' A B:=
 ⟨h.supA,h.supB,h.first.mono hC,h.again.mono hC,h.back.mono hC⟩
theorem ib {f g:Flds}(h:eqM g f)(a:Str)(x:Doc):eqM (aq a x g) (aq a x f):=fun n=>by rw[bE,bE,h n]
theorem vv {f g:Flds}(h:eqM g f)(hg:bl g)(hf:bl f)(a:Str):eqM (dY a g) (dY a f):=fun n=>by rw[dK _ _ hg,dK _ _ hf,h n]
theorem eT {a:Str}{x:Doc}{f:Flds}(h:bD a f=some x):bf a f=x:=by unfold bf;rw[h];rfl
theorem kf (a b n:Str){g:Flds}(hg:bl g)(hab:a≠b)(hb:bD b g=none):bD n (gf a b g)=if b=n then bD a g else if a=n then none else bD n g:=by
 unfold gf
 cases ha:bD a g with
 |none=>
  simp only
  by_cases e:b=n
  ·
   subst e;simp[hb]
  ·
   by_cases e2:a=n
   ·
    subst e2;simp[ha]
   ·
    simp[e,e2]
 |some x=>
  simp only
  rw[bE,dK _ _ hg]
theorem kH (a b:Str){g:Flds}(hg:bl g):bl (gf a b g):=by
 unfold gf
 split
 ·
  exact bK _ _ (fc _ hg)
 ·
  exact hg
theorem nI (h:Str→Doc→Nat)(a b:Str){g:Flds}(hg:bl g)(hab:a≠b)(hb:bD b g=none):gQ h (gf a b g)+(match bD a g with|some x=>h a x|none=>0)=gQ h g+(match bD a g with|some x=>h b x|none=>0):=by
 unfold gf
 cases ha:bD a g with
 |none=>rfl
 |some x=>
  simp only
  rw[dV h (by rw[dK _ _ hg,if_neg hab,hb])]
  have:=fz h ha
  omega
theorem jJ {s:Str}(h:d8 s=true):s.length≤16:=by
 unfold d8 at h
 simp only[Bool.and_eq_true,decide_eq_true_eq] at h
 omega
end Go.V
end
