/-
  A part of a proof: E3 E4 B1a B1 B2 B3.
-/
import Derived.Test.YtkfjenbfbendhaaGreatDoorLk09
import Derived.Test.YtkfjenbfbendhaaGreatDoorLk11
set_option linter.unusedSimpArgs false
set_option linter.unusedVariables false
section
set_option maxHeartbeats 4000000
namespace Go.V
open Go Go.Proofs
attribute [local irreducible] W bO WD aO yl aS bW
section
variable (Γ:Glo Tryz.prog)
attribute [local simp] veq
@[simp] theorem HW (pre r:List Ty)(x:Ty):(row cTy (pre++x::r)).take (pre.length*6)++(cTy x++(row cTy (pre++x::r)).drop (pre.length*6+6))=row cTy (pre++x::r):=by
 have:=kR bH pre r x
 unfold aX at this
 rwa[List.append_assoc,bH] at this
@[simp] theorem Ex (pre r:List Fld)(x:Fld):(row aZ (pre++x::r)).take (pre.length*8+2)++(cTy x.ty++(row aZ (pre++x::r)).drop (pre.length*8+2+6))=row aZ (pre++x::r):=by
 have e:row aZ (pre++x::r)=(row aZ pre++[.str x.name,.bool x.opt])++(cTy x.ty++row aZ r):=by
  rw[bd,bt,dR]
  simp
 have l1:(row aZ pre++[Val.str x.name,.bool x.opt]).length=pre.length*8+2:=by simp
 rw[e,List.take_left' l1,Nat.add_assoc,←Nat.add_assoc,←List.drop_drop,List.drop_left' l1,List.drop_left' (bH x.ty)]
@[simp] theorem Et (p r:Nat):p*8+2+6≤(p+(r+1))*8:=by omega
theorem f31ee (k0 lo hi:Int)(ns:List Str)(h1:PureOk Tryz.prog Γ 71 [sls aW ns] (sls aW ns)):PureOk Tryz.prog Γ 31 [.ag [.int .i64 k0,.int .i64 lo,.int .i64 hi,sls aW ns,.sl [] 0 none,.sl [] 0 none]] (.ag [.int .i64 k0,.int .i64 lo,.int .i64 hi,sls aW ns,.sl [] 0 none,.sl [] 0 none]):=by
 have h2:PureOk Tryz.prog Γ 72 [.sl [] 0 none] (.sl [] 0 none):=f72 Γ [] (by simp[big])
 have h3:PureOk Tryz.prog Γ 73 [.sl [] 0 none] (.sl [] 0 none):=f73 Γ [] (by simp[big])
 refine Y1 52 Tryz.func31 rfl rfl fun a hl g0=>?_
 repeat' first|refine G1 ?_|(refine G2 ?_ ?_<;>intro hc hd<;>try exact hd.elim)|fail
 refine aQ h1 ?_
 repeat' first|refine G1 ?_|(refine G2 ?_ ?_<;>intro hc hd<;>try exact hd.elim)|fail
 refine aQ h2 ?_
 repeat' first|refine G1 ?_|(refine G2 ?_ ?_<;>intro hc hd<;>try exact hd.elim)|fail
 refine aQ h3 ?_
 clear h1 h2 h3
 repeat' first|refine G1 ?_|(refine G2 ?_ ?_<;>intro hc hd<;>try exact hd.elim)|fail
 refine am [(3,4),(23,35)] [22] (fun k a h=>k=0∧lk a 22=some (.int .i64 0)∧h=[(0,.cells [.int .i64 k0,.int .i64 lo,.int .i64 hi,sls aW ns,.sl [] 0 none,.sl [] 0 none] 26 false),(1,.cells [.int .i64 0,.int .i64 0,.int .i64 0,.nils,.nils,.nils] 26 false)]) ⟨rfl,by simp[*],by simp[V.put,aX, *]⟩ ?_
 intro a1 hk hk0 k a h hF hI
 replace g1:=hF.a hk 1
 replace g2:=hF.a hk 2
 replace g20:=hF.a hk 20
 replace g21:=hF.a hk 21
 replace hl:a.length=52:=hF.len.trans (hk0.trans (by simp[*]))
 clear hk hk0
 obtain⟨_,h22,rfl⟩:=hI
 repeat' first|refine G1 ?_|(refine G2 ?_ ?_<;>intro hc hd<;>try exact hd.elim)|fail
 refine am [(5,6),(40,50)] [39] (fun k a h=>k=0∧lk a 39=some (.int .i64 0)∧h=[(0,.cells [.int .i64 k0,.int .i64 lo,.int .i64 hi,sls aW ns,.sl [] 0 none,.sl [] 0 none] 26 false),(1,.cells [.int .i64 0,.int .i64 0,.int .i64 0,.nils,.nils,.nils] 26 false)]) ⟨rfl,by simp[*],by simp[V.put,aX, *]⟩ ?_
 intro a1 hk hk0 k a h hF hI
 replace g1:=hF.a hk 1
 replace g2:=hF.a hk 2
 replace g37:=hF.a hk 37
 replace g38:=hF.a hk 38
 replace hl:a.length=52:=hF.len.trans (hk0.trans (by simp[*]))
 clear hk hk0
 obtain⟨_,h39,rfl⟩:=hI
 repeat' first|refine G1 ?_|(refine G2 ?_ ?_<;>intro hc hd<;>try exact hd.elim)|fail
 refine⟨by simp,.ag [.int .i64 k0,.int .i64 lo,.int .i64 hi,sls aW ns,.sl [] 0 none,.sl [] 0 none],100,by simp[Tryz.f31,V.get,V.put,aX, *],?_⟩
 simp[vw,vwL]
theorem f31en (k0 lo hi:Int)(ns:List Str)(t0:Ty)(tr:List Ty)(h1:PureOk Tryz.prog Γ 71 [sls aW ns] (sls aW ns))(hb2:(t0::tr).length<big)(ih2:∀f∈t0::tr,PureOk Tryz.prog Γ 31 [.ag (cTy f)] (.ag (cTy f))):PureOk Tryz.prog Γ 31 [.ag [.int .i64 k0,.int .i64 lo,.int .i64 hi,sls aW ns,.sl [] 0 none,sls cTy (t0::tr)]] (.ag [.int .i64 k0,.int .i64 lo,.int .i64 hi,sls aW ns,.sl [] 0 none,sls cTy (t0::tr)]):=by
 have h2:PureOk Tryz.prog Γ 72 [.sl [] 0 none] (.sl [] 0 none):=f72 Γ [] (by simp[big])
 have h3:=(f73c Γ t0 tr (by simpa using hb2)).ren [] 2 rfl (by simp[cm]) (by simp) rfl
 simp at h3
 obtain⟨ts,hts⟩:∃ts,t0::tr=ts:=⟨_,rfl⟩
 have hlen:(tr.length:Int)+1=ts.length:=by rw[←hts];simp
 have hlen2:tr.length+1=ts.length:=by rw[←hts];simp
 have hrow:cTy t0++row cTy tr=row cTy ts:=by rw[←hts];rfl
 rw[hrow,hlen2] at h3
 rw[hts] at hb2 ih2 ⊢
 clear hrow hlen hlen2 hts t0 tr
 simp only[big] at hb2
 refine Y1 52 Tryz.func31 rfl rfl fun a hl g0=>?_
 repeat' first|refine G1 ?_|(refine G2 ?_ ?_<;>intro hc hd<;>try exact hd.elim)|fail
 refine aQ h1 ?_
 repeat' first|refine G1 ?_|(refine G2 ?_ ?_<;>intro hc hd<;>try exact hd.elim)|fail
 refine aQ h2 ?_
 repeat' first|refine G1 ?_|(refine G2 ?_ ?_<;>intro hc hd<;>try exact hd.elim)|fail
 refine cI h3 ?_
 clear h1 h2 h3
 repeat' first|refine G1 ?_|(refine G2 ?_ ?_<;>intro hc hd<;>try exact hd.elim)|fail
 refine am [(3,4),(23,35)] [22] (fun k a h=>k=0∧lk a 22=some (.int .i64 0)∧h=[(7,.cells (row cTy ts) 26 true),(0,.cells [.int .i64 k0,.int .i64 lo,.int .i64 hi,sls aW ns,.sl [] 0 none,.so 7 0 (ts).length none] 26 false),(1,.cells [.int .i64 0,.int .i64 0,.int .i64 0,.nils,.nils,.nils] 26 false)]) ⟨rfl,by simp[*],by simp[V.put,aX, *]⟩ ?_
 intro a1 hk hk0 k a h hF hI
 replace g1:=hF.a hk 1
 replace g2:=hF.a hk 2
 replace g20:=hF.a hk 20
 replace g21:=hF.a hk 21
 replace hl:a.length=52:=hF.len.trans (hk0.trans (by simp[*]))
 clear hk hk0
 obtain⟨_,h22,rfl⟩:=hI
 repeat' first|refine G1 ?_|(refine G2 ?_ ?_<;>intro hc hd<;>try exact hd.elim)|fail
 refine am [(5,6),(40,50)] [39] (fun k a h=>h=[(7,.cells (row cTy ts) 26 true),(0,.cells [.int .i64 k0,.int .i64 lo,.int .i64 hi,sls aW ns,.sl [] 0 none,.so 7 0 (ts).length none] 26 false),(1,.cells [.int .i64 0,.int .i64 0,.int .i64 0,.nils,.nils,.nils] 26 false)]∧∃pre2 rest,ts=pre2++rest∧k=rest.length∧lk a 39=some (.int .i64 pre2.length)) ⟨by simp[V.put,aX, *],[],ts,rfl,rfl,by simp[*]⟩ ?_
 intro a1 hk hk0 k a h hF hI
 replace g1:=hF.a hk 1
 replace g2:=hF.a hk 2
 replace g37:=hF.a hk 37
 replace g38:=hF.a hk 38
 replace hl:a.length=52:=hF.len.trans (hk0.trans (by simp[*]))
 clear hk hk0
 obtain⟨rfl,pre2,rest,rfl,rfl,h39⟩:=hI
 cases rest with
 |cons x r=>
  have hlt:(pre2.length:Int)<pre2.length+(r.length+1):=by omega
  have hw:=ad ((pre2.length:Int)+1) (by simp at hb2;omega) (by simp at hb2;omega)
  have hx:=ih2 x (by simp)
  clear ih2
  repeat' first|refine G1 ?_|(refine G2 ?_ ?_<;>intro hc hd<;>try exact hd.elim)|fail
  refine aQ hx ?_
  clear hx
  repeat' first|refine G1 ?_|(refine G2 ?_ ?_<;>intro hc hd<;>try exact hd.elim)|fail
  exact NX [(7,.cells (row cTy (pre2++x::r)) 26 true),(0,.cells [.int .i64 k0,.int .i64 lo,.int .i64 hi,sls aW ns,.sl [] 0 none,.so 7 0 ((pre2++x::r)).length none] 26 false),(1,.cells [.int .i64 0,.int .i64 0,.int .i64 0,.nils,.nils,.nils] 26 false)] fun a2 hF2=>⟨rfl,pre2++[x],r,by simp,rfl,(hF2.q 39)⟩
 |nil=>
 simp only[List.append_nil] at *
 repeat' first|refine G1 ?_|(refine G2 ?_ ?_<;>intro hc hd<;>try exact hd.elim)|fail
 refine⟨by simp,.ag [.int .i64 k0,.int .i64 lo,.int .i64 hi,sls aW ns,.sl [] 0 none,.so 7 0 pre2.length none],(row cTy pre2).length+20,by simp[Tryz.f31,V.get,V.put,aX, *],?_⟩
 refine er (by simp) (aI (aG (by simp)) (aI (aG (by simp)) (aI (aG (by simp)) (aI (aG (by simp)) (aI (aG (by simp)) (aI (dC rfl (by simp) (by simp) (by omega)) (bR)))))))
theorem f31ne (k0 lo hi:Int)(ns:List Str)(f0:Fld)(fr:List Fld)(h1:PureOk Tryz.prog Γ 71 [sls aW ns] (sls aW ns))(hb:(f0::fr).length<big)(ih1:∀f∈f0::fr,PureOk Tryz.prog Γ 31 [.ag (cTy f.ty)] (.ag (cTy f.ty))):PureOk Tryz.prog Γ 31 [.ag [.int .i64 k0,.int .i64 lo,.int .i64 hi,sls aW ns,sls aZ (f0::fr),.sl [] 0 none]] (.ag [.int .i64 k0,.int .i64 lo,.int .i64 hi,sls aW ns,sls aZ (f0::fr),.sl [] 0 none]):=by
 have h2:=(f72c Γ f0 fr (by simpa using hb)).ren [] 2 rfl (by simp[cm]) (by simp) rfl
 simp at h2
 obtain⟨fs,hfs⟩:∃fs,f0::fr=fs:=⟨_,rfl⟩
 have hlen:(fr.length:Int)+1=fs.length:=by rw[←hfs];simp
 have hlen2:fr.length+1=fs.length:=by rw[←hfs];simp
 have hrow:aZ f0++row aZ fr=row aZ fs:=by rw[←hfs];rfl
 rw[hrow,hlen2] at h2
 rw[hfs] at hb ih1 ⊢
 clear hrow hlen hlen2 hfs f0 fr
 simp only[big] at hb
 have h3:PureOk Tryz.prog Γ 73 [.sl [] 0 none] (.sl [] 0 none):=f73 Γ [] (by simp[big])
 refine Y1 52 Tryz.func31 rfl rfl fun a hl g0=>?_
 repeat' first|refine G1 ?_|(refine G2 ?_ ?_<;>intro hc hd<;>try exact hd.elim)|fail
 refine aQ h1 ?_
 repeat' first|refine G1 ?_|(refine G2 ?_ ?_<;>intro hc hd<;>try exact hd.elim)|fail
 refine cI h2 ?_
 repeat' first|refine G1 ?_|(refine G2 ?_ ?_<;>intro hc hd<;>try exact hd.elim)|fail
 refine aQ h3 ?_
 clear h1 h2 h3
 repeat' first|refine G1 ?_|(refine G2 ?_ ?_<;>intro hc hd<;>try exact hd.elim)|fail
 refine am [(3,4),(23,35)] [22] (fun k a h=>h=[(7,.cells (row aZ fs) 112 true),(0,.cells [.int .i64 k0,.int .i64 lo,.int .i64 hi,sls aW ns,.so 7 0 (fs).length none,.sl [] 0 none] 26 false),(1,.cells [.int .i64 0,.int .i64 0,.int .i64 0,.nils,.nils,.nils] 26 false)]∧∃pre rest,fs=pre++rest∧k=rest.length∧lk a 22=some (.int .i64 pre.length)) ⟨by simp[V.put,aX, *],[],fs,rfl,rfl,by simp[*]⟩ ?_
 intro a1 hk hk0 k a h hF hI
 replace g1:=hF.a hk 1
 replace g2:=hF.a hk 2
 replace g20:=hF.a hk 20
 replace g21:=hF.a hk 21
 replace hl:a.length=52:=hF.len.trans (hk0.trans (by simp[*]))
 clear hk hk0
 obtain⟨rfl,pre,rest,rfl,rfl,h22⟩:=hI
 cases rest with
 |cons x r=>
  have hlt:(pre.length:Int)<pre.length+(r.length+1):=by omega
  have hw:=ad ((pre.length:Int)+1) (by simp at hb;omega) (by simp at hb;omega)
  have hx:=ih1 x (by simp)
  clear ih1
  repeat' first|refine G1 ?_|(refine G2 ?_ ?_<;>intro hc hd<;>try exact hd.elim)|fail
  refine aQ hx ?_
  clear hx
  repeat' first|refine G1 ?_|(refine G2 ?_ ?_<;>intro hc hd<;>try exact hd.elim)|fail
  exact NX [(7,.cells (row aZ (pre++x::r)) 112 true),(0,.cells [.int .i64 k0,.int .i64 lo,.int .i64 hi,sls aW ns,.so 7 0 ((pre++x::r)).length none,.sl [] 0 none] 26 false),(1,.cells [.int .i64 0,.int .i64 0,.int .i64 0,.nils,.nils,.nils] 26 false)] fun a2 hF2=>⟨rfl,pre++[x],r,by simp,rfl,(hF2.q 22)⟩
 |nil=>
 simp only[List.append_nil] at *
 repeat' first|refine G1 ?_|(refine G2 ?_ ?_<;>intro hc hd<;>try exact hd.elim)|fail
 refine am [(5,6),(40,50)] [39] (fun k a h=>k=0∧lk a 39=some (.int .i64 0)∧h=[(7,.cells (row aZ pre) 112 true),(0,.cells [.int .i64 k0,.int .i64 lo,.int .i64 hi,sls aW ns,.so 7 0 (pre).length none,.sl [] 0 none] 26 false),(1,.cells [.int .i64 0,.int .i64 0,.int .i64 0,.nils,.nils,.nils] 26 false)]) ⟨rfl,by simp[*],by simp[V.put,aX, *]⟩ ?_
 intro a1 hk hk0 k a h hF hI
 replace g1:=hF.a hk 1
 replace g2:=hF.a hk 2
 replace g37:=hF.a hk 37
 replace g38:=hF.a hk 38
 replace hl:a.length=52:=hF.len.trans (hk0.trans (by simp[*]))
 clear hk hk0
 obtain⟨_,h39,rfl⟩:=hI
 repeat' first|refine G1 ?_|(refine G2 ?_ ?_<;>intro hc hd<;>try exact hd.elim)|fail
 refine⟨by simp,.ag [.int .i64 k0,.int .i64 lo,.int .i64 hi,sls aW ns,.so 7 0 pre.length none,.sl [] 0 none],(row aZ pre).length+20,by simp[Tryz.f31,V.get,V.put,aX, *],?_⟩
 refine er (by simp) (aI (aG (by simp)) (aI (aG (by simp)) (aI (aG (by simp)) (aI (aG (by simp)) (aI (dC rfl (by simp) (by simp) (by omega)) (aI (aG (by simp)) (bR)))))))
theorem f31nn (k0 lo hi:Int)(ns:List Str)(f0:Fld)(fr:List Fld)(t0:Ty)(tr:List Ty)(h1:PureOk Tryz.prog Γ 71 [sls aW ns] (sls aW ns))(hb:(f0::fr).length<big)(ih1:∀f∈f0::fr,PureOk Tryz.prog Γ 31 [.ag (cTy f.ty)] (.ag (cTy f.ty)))(hb2:(t0::tr).length<big)(ih2:∀f∈t0::tr,PureOk Tryz.prog Γ 31 [.ag (cTy f)] (.ag (cTy f))):PureOk Tryz.prog Γ 31 [.ag [.int .i64 k0,.int .i64 lo,.int .i64 hi,sls aW ns,sls aZ (f0::fr),sls cTy (t0::tr)]] (.ag [.int .i64 k0,.int .i64 lo,.int .i64 hi,sls aW ns,sls aZ (f0::fr),sls cTy (t0::tr)]):=by
 have h2:=(f72c Γ f0 fr (by simpa using hb)).ren [] 2 rfl (by simp[cm]) (by simp) rfl
 simp at h2
 obtain⟨fs,hfs⟩:∃fs,f0::fr=fs:=⟨_,rfl⟩
 have hlen:(fr.length:Int)+1=fs.length:=by rw[←hfs];simp
 have hlen2:fr.length+1=fs.length:=by rw[←hfs];simp
 have hrow:aZ f0++row aZ fr=row aZ fs:=by rw[←hfs];rfl
 rw[hrow,hlen2] at h2
 rw[hfs] at hb ih1 ⊢
 clear hrow hlen hlen2 hfs f0 fr
 simp only[big] at hb
 have h3:=(f73c Γ t0 tr (by simpa using hb2)).ren [] 8 rfl (by simp[cm]) (by simp) rfl
 simp at h3
 obtain⟨ts,hts⟩:∃ts,t0::tr=ts:=⟨_,rfl⟩
 have hlen:(tr.length:Int)+1=ts.length:=by rw[←hts];simp
 have hlen2:tr.length+1=ts.length:=by rw[←hts];simp
 have hrow:cTy t0++row cTy tr=row cTy ts:=by rw[←hts];rfl
 rw[hrow,hlen2] at h3
 rw[hts] at hb2 ih2 ⊢
 clear hrow hlen hlen2 hts t0 tr
 simp only[big] at hb2
 refine Y1 52 Tryz.func31 rfl rfl fun a hl g0=>?_
 repeat' first|refine G1 ?_|(refine G2 ?_ ?_<;>intro hc hd<;>try exact hd.elim)|fail
 refine aQ h1 ?_
 repeat' first|refine G1 ?_|(refine G2 ?_ ?_<;>intro hc hd<;>try exact hd.elim)|fail
 refine cI h2 ?_
 repeat' first|refine G1 ?_|(refine G2 ?_ ?_<;>intro hc hd<;>try exact hd.elim)|fail
 refine cI h3 ?_
 clear h1 h2 h3
 repeat' first|refine G1 ?_|(refine G2 ?_ ?_<;>intro hc hd<;>try exact hd.elim)|fail
 refine am [(3,4),(23,35)] [22] (fun k a h=>h=[(13,.cells (row cTy ts) 26 true),(7,.cells (row aZ fs) 112 true),(0,.cells [.int .i64 k0,.int .i64 lo,.int .i64 hi,sls aW ns,.so 7 0 (fs).length none,.so 13 0 (ts).length none] 26 false),(1,.cells [.int .i64 0,.int .i64 0,.int .i64 0,.nils,.nils,.nils] 26 false)]∧∃pre rest,fs=pre++rest∧k=rest.length∧lk a 22=some (.int .i64 pre.length)) ⟨by simp[V.put,aX, *],[],fs,rfl,rfl,by simp[*]⟩ ?_
 intro a1 hk hk0 k a h hF hI
 replace g1:=hF.a hk 1
 replace g2:=hF.a hk 2
 replace g20:=hF.a hk 20
 replace g21:=hF.a hk 21
 replace hl:a.length=52:=hF.len.trans (hk0.trans (by simp[*]))
 clear hk hk0
 obtain⟨rfl,pre,rest,rfl,rfl,h22⟩:=hI
 cases rest with
 |cons x r=>
  have hlt:(pre.length:Int)<pre.length+(r.length+1):=by omega
  have hw:=ad ((pre.length:Int)+1) (by simp at hb;omega) (by simp at hb;omega)
  have hx:=ih1 x (by simp)
  clear ih1 ih2
  repeat' first|refine G1 ?_|(refine G2 ?_ ?_<;>intro hc hd<;>try exact hd.elim)|fail
  refine aQ hx ?_
  clear hx
  repeat' first|refine G1 ?_|(refine G2 ?_ ?_<;>intro hc hd<;>try exact hd.elim)|fail
  exact NX [(13,.cells (row cTy ts) 26 true),(7,.cells (row aZ (pre++x::r)) 112 true),(0,.cells [.int .i64 k0,.int .i64 lo,.int .i64 hi,sls aW ns,.so 7 0 ((pre++x::r)).length none,.so 13 0 (ts).length none] 26 false),(1,.cells [.int .i64 0,.int .i64 0,.int .i64 0,.nils,.nils,.nils] 26 false)] fun a2 hF2=>⟨rfl,pre++[x],r,by simp,rfl,(hF2.q 22)⟩
 |nil=>
 simp only[List.append_nil] at *
 repeat' first|refine G1 ?_|(refine G2 ?_ ?_<;>intro hc hd<;>try exact hd.elim)|fail
 refine am [(5,6),(40,50)] [39] (fun k a h=>h=[(13,.cells (row cTy ts) 26 true),(7,.cells (row aZ pre) 112 true),(0,.cells [.int .i64 k0,.int .i64 lo,.int .i64 hi,sls aW ns,.so 7 0 (pre).length none,.so 13 0 (ts).length none] 26 false),(1,.cells [.int .i64 0,.int .i64 0,.int .i64 0,.nils,.nils,.nils] 26 false)]∧∃pre2 rest,ts=pre2++rest∧k=rest.length∧lk a 39=some (.int .i64 pre2.length)) ⟨by simp[V.put,aX, *],[],ts,rfl,rfl,by simp[*]⟩ ?_
 intro a1 hk hk0 k a h hF hI
 replace g1:=hF.a hk 1
 replace g2:=hF.a hk 2
 replace g37:=hF.a hk 37
 replace g38:=hF.a hk 38
 replace hl:a.length=52:=hF.len.trans (hk0.trans (by simp[*]))
 clear hk hk0
 obtain⟨rfl,pre2,rest,rfl,rfl,h39⟩:=hI
 cases rest with
 |cons x r=>
  have hlt:(pre2.length:Int)<pre2.length+(r.length+1):=by omega
  have hw:=ad ((pre2.length:Int)+1) (by simp at hb2;omega) (by simp at hb2;omega)
  have hx:=ih2 x (by simp)
  clear ih2 ih1
  repeat' first|refine G1 ?_|(refine G2 ?_ ?_<;>intro hc hd<;>try exact hd.elim)|fail
  refine aQ hx ?_
  clear hx
  repeat' first|refine G1 ?_|(refine G2 ?_ ?_<;>intro hc hd<;>try exact hd.elim)|fail
  exact NX [(13,.cells (row cTy (pre2++x::r)) 26 true),(7,.cells (row aZ pre) 112 true),(0,.cells [.int .i64 k0,.int .i64 lo,.int .i64 hi,sls aW ns,.so 7 0 (pre).length none,.so 13 0 ((pre2++x::r)).length none] 26 false),(1,.cells [.int .i64 0,.int .i64 0,.int .i64 0,.nils,.nils,.nils] 26 false)] fun a2 hF2=>⟨rfl,pre2++[x],r,by simp,rfl,(hF2.q 39)⟩
 |nil=>
 simp only[List.append_nil] at *
 repeat' first|refine G1 ?_|(refine G2 ?_ ?_<;>intro hc hd<;>try exact hd.elim)|fail
 refine⟨by simp,.ag [.int .i64 k0,.int .i64 lo,.int .i64 hi,sls aW ns,.so 7 0 pre.length none,.so 13 0 pre2.length none],(row aZ pre).length+(row cTy pre2).length+20,by simp[Tryz.f31,V.get,V.put,aX, *],?_⟩
 refine er (by simp) (aI (aG (by simp)) (aI (aG (by simp)) (aI (aG (by simp)) (aI (aG (by simp)) (aI (dC rfl (by simp) (by simp) (by omega)) (aI (dC rfl (by simp) (by simp) (by omega)) (bR)))))))
theorem f31 (t:Ty)(hb:wT t<big):PureOk Tryz.prog Γ 31 [.ag (cTy t)] (.ag (cTy t)):=by
 induction t using Ty.ind with
 |h t ih1 ih2=>
 have hb1:=dP t
 have hb2:=jL t
 have hb3:=qD t
 have h1:=f71 Γ t.names (by simp only[big] at *;omega)
 have i1:∀f∈t.fields,PureOk Tryz.prog Γ 31 [.ag (cTy f.ty)] (.ag (cTy f.ty)):=fun f hf=>ih1 f hf (by have:=fG hf;simp only[big] at *;omega)
 have i2:∀f∈t.of,PureOk Tryz.prog Γ 31 [.ag (cTy f)] (.ag (cTy f)):=fun f hf=>ih2 f hf (by have:=lc hf;simp only[big] at *;omega)
 clear ih1 ih2
 rw[fA]
 cases hf:t.fields with
 |nil=>cases ho:t.of with
  |nil=>exact f31ee Γ t.kind t.lo t.hi t.names h1
  |cons x r=>
   rw[ho] at i2 hb3
   exact f31en Γ t.kind t.lo t.hi t.names x r h1 (by simp only[big] at *;omega) i2
 |cons y s=>
  rw[hf] at i1 hb1
  cases ho:t.of with
  |nil=>exact f31ne Γ t.kind t.lo t.hi t.names y s h1 (by simp only[big] at *;omega) i1
  |cons x r=>
   rw[ho] at i2 hb3
   exact f31nn Γ t.kind t.lo t.hi t.names y s x r h1 (by simp only[big] at *;omega) i1 (by simp only[big] at *;omega) i2
end
end Go.V
end
section
set_option maxHeartbeats 4000000
namespace Go.V
open Go Go.Proofs
attribute [local irreducible] W bO WD aO yl aS bW
section
variable (Γ:Glo Tryz.prog)
attribute [local simp] veq
@[simp] theorem Hh (e:Int)(c1 c2:List Val)(n1 n2:Nat)(k1 k2:Option Nat)(d:Doc):dB Tryz.prog 82 [(0,.int .i64 e),(1,.sl c1 n1 k1),(2,.sl c2 n2 k2),(3,.ag (aH d))]=some (.int .i64 e :: .sl c1 n1 k1 :: .sl c2 n2 k2::aH d):=by cases d;kernel_rfl
def wR (x:Res):Nat:=x.step.length+x.at_.length+wD x.doc
theorem f79 (x:Res)(hb:wR x<big):PureOk Tryz.prog Γ 79 [.ag (ac x)] (.ag (ac x)):=by
 unfold wR at hb
 have h1:=f139 Γ x.step (by simp only[big] at *;omega)
 have h2:=f71 Γ x.at_ (by simp only[big] at *;omega)
 have h3:=f78 Γ x.doc (by simp only[big] at *;omega)
 clear hb
 refine Y1 15 Tryz.func79 rfl rfl fun a hl g0=>?_
 repeat' first|refine G1 ?_|(refine G2 ?_ ?_<;>intro hc hd<;>try exact hd.elim)|fail
 refine aQ h1 ?_
 repeat' first|refine G1 ?_|(refine G2 ?_ ?_<;>intro hc hd<;>try exact hd.elim)|fail
 refine aQ h2 ?_
 repeat' first|refine G1 ?_|(refine G2 ?_ ?_<;>intro hc hd<;>try exact hd.elim)|fail
 refine aQ h3 ?_
 clear h1 h2 h3
 repeat' first|refine G1 ?_|(refine G2 ?_ ?_<;>intro hc hd<;>try exact hd.elim)|fail
 exact⟨by simp,.ag (ac x),1,by simp[Tryz.f79,V.get,V.put,aX,ac, *],by simp⟩
theorem jC {l:List Val}{i:Nat}{v:Val}(hg:l[i]?=some v)(h:i<l.length):l[i]=v:=by
 rw[List.getElem?_eq_getElem h] at hg;exact Option.some.inj hg
@[simp] theorem Cn (d:Lns)(h:14<(aK d).length):(aK d)[14]=sls bx d.swaps:=jC (o5 d) h
@[simp] theorem Co (d:Lns)(h:15<(aK d).length):(aK d)[15]=sls aK d.subs:=jC (o6 d) h
@[simp] theorem F7 (x:Lns):(aK x).take 3++(cTy x.ty++(aK x).drop 9)=aK x:=by
 have e:=eN x
 have l1:((aK x).drop 3).take 6=cTy x.ty:=AD x
 rw[←l1,show(aK x).drop 9=((aK x).drop 3).drop 6 by rw[List.drop_drop],List.take_append_drop,List.take_append_drop]
@[simp] theorem F9 (x:Lns):(aK x).take 9++(aH x.doc++(aK x).drop 14)=aK x:=by
 have l1:((aK x).drop 9).take 5=aH x.doc:=xj x
 rw[←l1,show(aK x).drop 14=((aK x).drop 9).drop 5 by rw[List.drop_drop],List.take_append_drop,List.take_append_drop]
theorem zI {l:List Val}{i:Nat}{v:Val}(h:l[i]?=some v):l.take i++v::l.drop (i+1)=l:=by
 have hi:i<l.length:=by
  rcases Nat.lt_or_ge i l.length with h'|h'
  ·
   exact h'
  ·
   rw[List.getElem?_eq_none h'] at h;cases h
 rw[List.getElem?_eq_getElem hi] at h
 cases h
 rw[←List.drop_eq_getElem_cons hi,List.take_append_drop]
@[simp] theorem Ey (x:Lns):(aK x).take 14++sls bx x.swaps::(aK x).drop 15=aK x:=zI (o5 x)
@[simp] theorem Ay (x:Lns):(aK x).take 15++sls aK x.subs::(aK x).drop 16=aK x:=zI (o6 x)
@[simp] theorem EH (x:Lns):(aK x).take 15++[sls aK x.subs]=aK x:=by
 have:=Ay x
 rwa[List.drop_of_length_le (by simp)] at this
@[simp] theorem GS (pre r:List Lns)(x:Lns):(row aK (pre++x::r)).take (pre.length*16)++(aK x++(row aK (pre++x::r)).drop (pre.length*16+16))=row aK (pre++x::r):=by
 have:=kR eR pre r x
 unfold aX at this
 rwa[List.append_assoc,eR] at this
theorem EO (x0:Lns)(r0:List Lns)(hb:wNs (x0::r0)<big)(ih:∀s∈x0::r0,PureOk Tryz.prog Γ 109 [sls aK s.subs] (sls aK s.subs))(c:Code)(hc:Tryz.f109.body=some c)(a:List Val)(hl:a.length=37)(g0:lk a 0=some (sls aK (x0::r0))) :
  W Tryz.prog Γ c a [] 0 (fun e a' h' _=>(e=.normal∨e=.ret)∧lk a' 2=some (.so 7 0 (r0.length+1) none)∧get h' 7=some (.cells (row aK (x0::r0)) 122 true)):=by
 have hk:=iE (x0::r0)
 have i1:∀s∈x0::r0,PureOk Tryz.prog Γ 31 [.ag (cTy s.ty)] (.ag (cTy s.ty)):=fun s hs=>f31 Γ s.ty (by have:=dI hs;have:=eM s;simp only[big] at *;omega)
 have i2:∀s∈x0::r0,PureOk Tryz.prog Γ 78 [.ag (aH s.doc)] (.ag (aH s.doc)):=fun s hs=>f78 Γ s.doc (by have:=dI hs;have:=eM s;simp only[big] at *;omega)
 have i3:∀s∈x0::r0,PureOk Tryz.prog Γ 173 [sls bx s.swaps] (sls bx s.swaps):=fun s hs=>f173 Γ s.swaps (by have:=dI hs;have:=eM s;simp only[big] at *;omega)
 simp only[big] at hb
 have h1:=(f172c Γ x0 r0 (by simp at hk;simp only[big] at *;omega)).ren [] 2 rfl (by simp[cm]) (by simp) rfl
 simp at h1
 obtain⟨ls,hls⟩:∃ls,x0::r0=ls:=⟨_,rfl⟩
 have hlen:(r0.length:Int)+1=ls.length:=by rw[←hls];simp
 have hlen2:r0.length+1=ls.length:=by rw[←hls];simp
 have hrow:aK x0++row aK r0=row aK ls:=by rw[←hls];rfl
 rw[hrow,hlen2] at h1
 rw[hls] at hk ih i1 i2 i3 hb g0 ⊢
 rw[hlen2]
 clear hrow hlen hlen2 hls x0 r0
 cases hc
 repeat' first|refine G1 ?_|(refine G2 ?_ ?_<;>intro hc hd<;>try exact hd.elim)|fail
 refine av h1 ?_
 clear h1
 repeat' first|refine G1 ?_|(refine G2 ?_ ?_<;>intro hc hd<;>try exact hd.elim)|fail
 refine am [(4,5),(11,35)] [10] (fun k a h=>h=[(7,.cells (row aK ls) 122 true)]∧∃pre rest,ls=pre++rest∧k=rest.length∧lk a 10=some (.int .i64 pre.length)) ⟨by simp,[],ls,rfl,rfl,by simp[*]⟩ ?_
 intro a1 hk hk0 k a h hF hI
 replace g3:=hF.a hk 3
 replace g8:=hF.a hk 8
 replace g9:=hF.a hk 9
 replace hl:a.length=37:=hF.len.trans (hk0.trans (by simp[*]))
 clear hk hk0
 obtain⟨rfl,pre,rest,rfl,rfl,h10⟩:=hI
 cases rest with
 |nil=>
  simp only[List.append_nil] at *
  clear ih i1 i2 i3
  repeat' first|refine G1 ?_|(refine G2 ?_ ?_<;>intro hc hd<;>try exact hd.elim)|fail
  exact⟨by simp,by simp[*],rfl⟩
 |cons x r=>
  have hlt:(pre.length:Int)<pre.length+(r.length+1):=by omega
  have hw:=ad ((pre.length:Int)+1) (by simp at hk;omega) (by simp at hk;omega)
  have j1:=i1 x (by simp)
  have j2:=i2 x (by simp)
  have j3:=i3 x (by simp)
  have j4:=ih x (by simp)
  clear ih i1 i2 i3
  repeat' first|refine G1 ?_|(refine G2 ?_ ?_<;>intro hc hd<;>try exact hd.elim)|fail
  refine aQ j1 ?_
  repeat' first|refine G1 ?_|(refine G2 ?_ ?_<;>intro hc hd<;>try exact hd.elim)|fail
  refine aQ j2 ?_
  repeat' first|refine G1 ?_|(refine G2 ?_ ?_<;>intro hc hd<;>try exact hd.elim)|fail
  refine aQ j3 ?_
  repeat' first|refine G1 ?_|(refine G2 ?_ ?_<;>intro hc hd<;>try exact hd.elim)|fail
  refine aQ j4 ?_
  clear j1 j2 j3 j4
  repeat' first|refine G1 ?_|(refine G2 ?_ ?_<;>intro hc hd<;>try exact hd.elim)|fail
  exact NX [(7,.cells (row aK (pre++x::r)) 122 true)] fun a2 hF2=>⟨rfl,pre++[x],r,by simp,rfl,(hF2.q 10)⟩
theorem f109 (l:List Lns)(hb:wNs l<big)(ih:∀s∈l,PureOk Tryz.prog Γ 109 [sls aK s.subs] (sls aK s.subs)):PureOk Tryz.prog Γ 109 [sls aK l] (sls aK l):=by
 have hk:=iE l
 have i1:∀s∈l,PureOk Tryz.prog Γ 31 [.ag (cTy s.ty)] (.ag (cTy s.ty)):=fun s hs=>f31 Γ s.ty (by have:=dI hs;have:=eM s;simp only[big] at *;omega)
 have i2:∀s∈l,PureOk Tryz.prog Γ 78 [.ag (aH s.doc)] (.ag (aH s.doc)):=fun s hs=>f78 Γ s.doc (by have:=dI hs;have:=eM s;simp only[big] at *;omega)
 have i3:∀s∈l,PureOk Tryz.prog Γ 173 [sls bx s.swaps] (sls bx s.swaps):=fun s hs=>f173 Γ s.swaps (by have:=dI hs;have:=eM s;simp only[big] at *;omega)
 simp only[big] at hb
 cases l with
 |nil=>
  have h1:PureOk Tryz.prog Γ 172 [.sl [] 0 none] (.sl [] 0 none):=f172 Γ [] (by simp[big])
  refine Y1 37 Tryz.func109 rfl rfl fun a hl g0=>?_
  repeat' first|refine G1 ?_|(refine G2 ?_ ?_<;>intro hc hd<;>try exact hd.elim)|fail
  refine aC h1 ?_
  clear h1
  repeat' first|refine G1 ?_|(refine G2 ?_ ?_<;>intro hc hd<;>try exact hd.elim)|fail
  refine am [(4,5),(11,35)] [10] (fun k a h=>k=0∧h=[]∧lk a 10=some (.int .i64 0)) ⟨rfl,rfl,by simp[*]⟩ ?_
  intro a1 hk hk0 k a h hF hI
  replace g3:=hF.a hk 3
  replace g8:=hF.a hk 8
  replace g9:=hF.a hk 9
  replace hl:a.length=37:=hF.len.trans (hk0.trans (by simp[*]))
  clear hk hk0
  obtain⟨_,rfl,h10⟩:=hI
  repeat' first|refine G1 ?_|(refine G2 ?_ ?_<;>intro hc hd<;>try exact hd.elim)|fail
  exact⟨by simp,.sl [] 0 none,1,by simp[Tryz.f109, *],rfl⟩
 |cons x0 r0=>
  refine iC Tryz.func109 rfl (by simp[Tryz.f109]) fun a hla ha=>(EO Γ x0 r0 (by simpa[big] using hb) ih _ rfl a hla (ha 0 _ rfl)).mono ?_
  rintro e' a' h' _ ⟨g1,g2,g3⟩
  exact⟨g1,_,(row aK (x0::r0)).length+3,by simp[Tryz.f109,g2],dC g3 (by simp<;>omega) (by simp) (by omega)⟩
theorem f109' (l:List Lns)(hb:wNs l<big):PureOk Tryz.prog Γ 109 [sls aK l] (sls aK l):=by
 have key:∀s:Lns,wN s<big→PureOk Tryz.prog Γ 109 [sls aK s.subs] (sls aK s.subs):=by
  intro s
  induction s using Lns.ind with
  |h s ih=>
   intro hs
   have:=eM s
   exact f109 Γ s.subs (by simp only[big] at *;omega) fun x hx=>ih x hx (by have:=dI hx;simp only[big] at *;omega)
 exact f109 Γ l hb fun s hs=>key s (by have:=dI hs;simp only[big] at *;omega)
theorem Dm (l:List Lns)(hb:wNs l<big):∀s∈l,PureOk Tryz.prog Γ 109 [sls aK s.subs] (sls aK s.subs):=fun s hs=>f109' Γ s.subs (by have:=dI hs;have:=eM s;simp only[big] at *;omega)
end
end Go.V
end
section
set_option maxHeartbeats 4000000
namespace Go.V
open Go Go.Proofs
attribute [local irreducible] W bO WD aO yl aS bW
section
variable (Γ:Glo Tryz.prog)
theorem f107 (s:Str)(hb:s.length<big):PureOk Tryz.prog Γ 107 [.str s] (.bool (d8 s)):=by
 simp only[big] at hb
 obtain⟨v,hv⟩:∃v,v=d8 s:=⟨_,rfl⟩
 rw[←hv]
 unfold d8 at hv
 refine Y1 46 Tryz.func107 rfl rfl fun a hl g0=>?_
 repeat' first|refine G1 ?_|(refine G2 ?_ ?_<;>intro hc hd<;>try exact hd.elim)|fail
 all_goals first|(have e:v=false:=(by grind [List.length_eq_zero_iff,aL,aN,aM,aY]);(try clear hv);(try clear hv2);exact⟨by simp,.bool v,1,by simp[Tryz.f107, *],rfl⟩)|skip
 refine am [(2,5),(16,45)] [15] (fun k a h=>h=[]∧∃pre rest,s=pre++rest∧k=rest.length∧lk a 15=some (.int .i64 pre.length)∧j6 (decide (pre.length=0)) rest=j6 true s) ⟨rfl,[],s,rfl,rfl,by simp[*],rfl⟩ ?_
 intro a1 hk hk0 k a h hF hI
 replace g0:=hF.a hk 0
 replace g14:=hF.a hk 14
 replace hl:a.length=46:=hF.len.trans (hk0.trans (by simp[*]))
 clear hk hk0
 obtain⟨rfl,pre,rest,rfl,rfl,h15,hn⟩:=hI
 cases rest with
 |nil=>
  simp[j6] at hn hc
  repeat' first|refine G1 ?_|(refine G2 ?_ ?_<;>intro hc hd<;>try exact hd.elim)|fail
  (have e:v=true:=(by grind [List.length_eq_zero_iff,aL,aN,aM,aY]);(try clear hv);(try clear hv2);exact⟨by simp,.bool v,1,by simp[Tryz.f107, *],rfl⟩)
 |cons c r=>
  have hlt:(pre.length:Int)<pre.length+(r.length+1):=by omega
  have hw:=ad ((pre.length:Int)+1) (by simp at hb;omega) (by simp at hb;omega)
  have hn2:(zD (decide (pre.length=0)) c&&j6 false r)=j6 true (pre++c::r):=hn
  have hs:zD (decide (pre.length=0)) c=((decide (97≤c.toNat)&&decide (c.toNat≤122))||(!decide (pre.length=0)&&(decide (c.toNat=95)||(decide (48≤c.toNat)&&decide (c.toNat≤57))))):=rfl
  clear hn
  repeat' first|refine G1 ?_|(refine G2 ?_ ?_<;>intro hc hd<;>try exact hd.elim)|fail
  all_goals first
   |(have e:v=false:=(by grind [List.length_eq_zero_iff,aL,aN,aM,aY]);(try clear hv);(try clear hv2);exact⟨by simp,.bool v,1,by simp[Tryz.f107, *],rfl⟩)
   |(have e:j6 (decide ((pre++[c]).length=0)) r=j6 true (pre++c::r):=(by rw[show decide ((pre++[c]).length=0)=false by simp];grind);exact NX [] fun a2 hF2=>⟨rfl,pre++[c],r,by simp,rfl,(hF2.q 15),e⟩
    )
theorem f203 (d:Doc)(hb:wD d<big):PureOk Tryz.prog Γ 203 [.ag (aH d)] (.bool (ee d)):=by
 have hb1:=fP d
 have hb2:=io d
 simp only[big] at hb
 obtain⟨v,hv⟩:∃v,v=ee d:=⟨_,rfl⟩
 rw[←hv]
 unfold ee at hv
 refine Y1 82 Tryz.func203 rfl rfl fun a hl g0=>?_
 have w1:=ad ((d.keys.length:Int)+d.kids.length) (by omega) (by omega)
 clear hb hb1 hb2
 repeat' first|refine G1 ?_|(refine G2 ?_ ?_<;>intro hc hd<;>try exact hd.elim)|fail
 all_goals first|(have e:v=true:=(by grind [List.length_eq_zero_iff,aL,aN,aM,aY]);(try clear hv);(try clear hv2);exact⟨by simp,.bool v,1,by simp[Tryz.f203, *],rfl⟩)|(have e:v=false:=(by grind [List.length_eq_zero_iff,aL,aN,aM,aY]);(try clear hv);(try clear hv2);exact⟨by simp,.bool v,1,by simp[Tryz.f203, *],rfl⟩)|(exact⟨by simp,.bool v,1,(by simp[Tryz.f203, *]<;>grind [List.length_eq_zero_iff,aL,aN,aM]),rfl⟩)
end
end Go.V
end
section
set_option maxHeartbeats 4000000
namespace Go.V
open Go Go.Proofs
attribute [local irreducible] W bO WD aO yl aS bW
section
variable (Γ:Glo Tryz.prog)
theorem f204 (d:Doc)(hb:wD d<big):PureOk Tryz.prog Γ 204 [.ag (aH d)] (.bool (qw d)):=by
 have hb1:=io d
 have hb3:∀s∈d.keys,s.length<100000000000:=fun s hs=>by have:=Cb hs;simp only[big] at hb;omega
 simp only[big] at hb
 obtain⟨v,hv⟩:∃v,v=qw d:=⟨_,rfl⟩
 rw[←hv]
 unfold qw at hv
 obtain⟨ks,hks⟩:∃ks,ks=d.keys:=⟨_,rfl⟩
 have hks':=hks.symm
 rw[←hks] at hv hb1 hb3
 clear hks
 refine Y1 41 Tryz.func204 rfl rfl fun a hl g0=>?_
 repeat' first|refine G1 ?_|(refine G2 ?_ ?_<;>intro hc hd<;>try exact hd.elim)|fail
 refine am [(2,4),(9,40)] [8] (fun k a h=>h=[(0,.cells (aH d) 30 false)]∧∃pre rest p,ks=pre++rest∧k=rest.length∧lk a 8=some (.int .i64 pre.length)∧v=eq (decide (d.kind=1)) p rest∧((pre.length=0∧p=none)∨∃q x,pre=q++[x]∧p=some x)) ⟨rfl,[],ks,none,rfl,rfl,by simp[*],hv,.inl ⟨rfl,rfl⟩⟩ ?_
 intro a1 hk hk0 k a h hF hI
 replace g1:=hF.a hk 1
 replace g6:=hF.a hk 6
 replace g7:=hF.a hk 7
 replace hl:a.length=41:=hF.len.trans (hk0.trans (by simp[*]))
 clear hk hk0
 clear hv
 obtain⟨rfl,pre,rest,p,rfl,rfl,h8,hv,hp⟩:=hI
 cases rest with
 |nil=>
  simp[eq] at hv
  clear hp
  repeat' first|refine G1 ?_|(refine G2 ?_ ?_<;>intro hc hd<;>try exact hd.elim)|fail
  all_goals first|(refine⟨by simp,.bool v,1,?_,rfl⟩;(simp[Tryz.f204, *]<;>grind [List.length_eq_zero_iff]);done)|skip
 |cons s r=>
  have hlt:(pre.length:Int)<pre.length+(r.length+1):=by omega
  have hw:=ad ((pre.length:Int)+1) (by simp at hb1;omega) (by simp at hb1;omega)
  have hn:=f107 Γ s (hb3 s (by simp))
  rcases hp with ⟨hz,rfl⟩|⟨q,x,rfl,rfl⟩
  ·
   have hz':¬0<pre.length:=by omega
   clear hz
   have hv2:v=((!decide (d.kind=1)||d8 s)&&decide (s.length≤256)&&eq (decide (d.kind=1)) (some s) r):=by simpa[eq] using hv
   clear hv
   repeat' first|refine G1 ?_|(refine G2 ?_ ?_<;>intro hc hd<;>try exact hd.elim)|fail
   all_goals (try (refine aC hn ?_))
   all_goals (repeat' first|refine G1 ?_|(refine G2 ?_ ?_<;>intro hc hd<;>try exact hd.elim)|fail)
   all_goals first
     |(have e:v=false:=(by grind [List.length_eq_zero_iff,aL,aN,aM,aY]);(try clear hv);(try clear hv2);exact⟨by simp,.bool v,1,by simp[Tryz.f204, *],rfl⟩)
     |(have e:v=eq (decide (d.kind=1)) (some s) r:=(by grind [aL,aN,aM]);exact NX [(0,.cells (aH d) 30 false)] fun a2 hF2=>⟨rfl,pre++[s],r,some s,by simp,rfl,(hF2.q 8),e,.inr ⟨pre,s,by simp,rfl⟩⟩
      )
  ·
   have hv2:v=(ltS x s&&(!decide (d.kind=1)||d8 s)&&decide (s.length≤256)&&eq (decide (d.kind=1)) (some s) r):=by simpa[eq] using hv
   have hwq:=ad (q.length:Int) (by omega) (by simp at hb1;omega)
   have hrd:=fH (q++[x]) r s
   have hz':(0:Int)<q.length+1:=by omega
   have hlt':(1:Int)<r.length+1+1:=by omega
   simp at hrd hw
   clear hv
   repeat' first|refine G1 ?_|(refine G2 ?_ ?_<;>intro hc hd<;>try exact hd.elim)|fail
   all_goals (try (refine aC hn ?_))
   all_goals (repeat' first|refine G1 ?_|(refine G2 ?_ ?_<;>intro hc hd<;>try exact hd.elim)|fail)
   all_goals first
     |(have e:v=false:=(by grind [List.length_eq_zero_iff,aL,aN,aM,aY]);(try clear hv);(try clear hv2);exact⟨by simp,.bool v,1,by simp[Tryz.f204, *],rfl⟩)
     |(have e:v=eq (decide (d.kind=1)) (some s) r:=(by grind [aL,aN,aM]);exact NX [(0,.cells (aH d) 30 false)] fun a2 hF2=>⟨rfl,q++[x]++[s],r,some s,by simp,rfl,(hF2.q 8),e,.inr ⟨q++[x],s,by simp,rfl⟩⟩
      )
end
end Go.V
end
section
set_option maxHeartbeats 4000000
namespace Go.V
open Go Go.Proofs
attribute [local irreducible] W bO WD aO yl aS bW
section
variable (Γ:Glo Tryz.prog)
theorem xQ (d:Doc):rightD d=(ee d&&qw d&&d.kids.all rightD):=by
 have h:∀l,jb l=l.all rightD:=by
  intro l
  induction l with
  |nil=>rfl
  |cons x l ih=>simp only[jb,List.all_cons,ih]
 cases d
 simp only[rightD,h]
 rfl
theorem f206 (d:Doc)(h:PureOk Tryz.prog Γ 137 [.ag (aH d)] (.bool (rightD d))):PureOk Tryz.prog Γ 206 [.ag (aH d)] (.bool (!rightD d)):=by
 generalize rightD d=v at *
 refine Y1 6 Tryz.func206 rfl rfl fun a hl g0=>?_
 repeat' first|refine G1 ?_|(refine G2 ?_ ?_<;>intro hc hd<;>try exact hd.elim)|fail
 all_goals (try (refine aC h ?_))
 all_goals (repeat' first|refine G1 ?_|(refine G2 ?_ ?_<;>intro hc hd<;>try exact hd.elim)|fail)
 all_goals first|(refine⟨by simp,.bool (!v),1,?_,rfl⟩;(simp[Tryz.f206, *]<;>grind [List.length_eq_zero_iff]);done)|skip
theorem f137 (d:Doc)(hb:wD d<big):PureOk Tryz.prog Γ 137 [.ag (aH d)] (.bool (rightD d)):=by
 induction d using Doc.ind with
 |h d ih=>
 have hk:=fP d
 have h1:=f203 Γ d hb
 have h2:=f204 Γ d hb
 simp only[big] at hb
 have h3:=f205 Γ d.kids (fun x=>!rightD x) (by simp only[big];omega) 206 [] [] (fun x hx=>f206 Γ x (ih x hx (by have:=nN hx;simp only[big];omega))) (by kernel_rfl) rfl rfl
 have e:rightD d=(ee d&&qw d&&!d.kids.any fun x=>!rightD x):=by
  rw[xQ]
  congr 1
  induction d.kids with
  |nil=>rfl
  |cons x l ih=>simp[ih]
 obtain⟨v,hv⟩:∃v,v=rightD d:=⟨_,rfl⟩
 rw[←hv]
 rw[e] at hv
 clear ih hk hb e
 generalize ee d=p1 at *
 generalize qw d=p2 at *
 generalize (d.kids.any fun x=>!rightD x)=p3 at *
 refine Y1 15 Tryz.func137 rfl rfl fun a hl g0=>?_
 repeat' first|refine G1 ?_|(refine G2 ?_ ?_<;>intro hc hd<;>try exact hd.elim)|fail
 all_goals (try (refine aC h1 ?_))
 all_goals (repeat' first|refine G1 ?_|(refine G2 ?_ ?_<;>intro hc hd<;>try exact hd.elim)|fail)
 all_goals (try (refine aC h2 ?_))
 all_goals (repeat' first|refine G1 ?_|(refine G2 ?_ ?_<;>intro hc hd<;>try exact hd.elim)|fail)
 all_goals (try (refine aC h3 ?_ (hcl:=by simp[aE,Val.closed])))
 all_goals (repeat' first|refine G1 ?_|(refine G2 ?_ ?_<;>intro hc hd<;>try exact hd.elim)|fail)
 all_goals first|(have e:v=true:=(by grind [List.length_eq_zero_iff,aL,aN,aM,aY]);(try clear hv);(try clear hv2);exact⟨by simp,.bool v,1,by simp[Tryz.f137, *],rfl⟩)|(have e:v=false:=(by grind [List.length_eq_zero_iff,aL,aN,aM,aY]);(try clear hv);(try clear hv2);exact⟨by simp,.bool v,1,by simp[Tryz.f137, *],rfl⟩)|(exact⟨by simp,.bool v,1,(by simp[Tryz.f137, *]<;>grind [List.length_eq_zero_iff,aL,aN,aM]),rfl⟩)
theorem f77 (d:Doc)(hb:wD d<big):PureOk Tryz.prog Γ 77 [.ag (aH d)] (.bool (dH d)):=by
 have hs:=xV d
 have hs2:=lG d
 have h1:=f135 Γ d (by simp only[big] at *;omega)
 have h2:=f136 Γ d (by simp only[big] at *;omega)
 have h3:=f137 Γ d hb
 obtain⟨v,hv⟩:∃v,v=dH d:=⟨_,rfl⟩
 rw[←hv]
 unfold dH at hv
 generalize iR d=p1 at *
 generalize cr d=p2 at *
 generalize rightD d=p3 at *
 clear hs hs2 hb
 refine Y1 15 Tryz.func77 rfl rfl fun a hl g0=>?_
 repeat' first|refine G1 ?_|(refine G2 ?_ ?_<;>intro hc hd<;>try exact hd.elim)|fail
 all_goals (try (refine aC h1 ?_))
 all_goals (repeat' first|refine G1 ?_|(refine G2 ?_ ?_<;>intro hc hd<;>try exact hd.elim)|fail)
 all_goals (try (refine aC h2 ?_))
 all_goals (repeat' first|refine G1 ?_|(refine G2 ?_ ?_<;>intro hc hd<;>try exact hd.elim)|fail)
 all_goals (try (refine aC h3 ?_))
 all_goals (repeat' first|refine G1 ?_|(refine G2 ?_ ?_<;>intro hc hd<;>try exact hd.elim)|fail)
 all_goals first|(have e:v=true:=(by grind [List.length_eq_zero_iff,aL,aN,aM,aY]);(try clear hv);(try clear hv2);exact⟨by simp,.bool v,1,by simp[Tryz.f77, *],rfl⟩)|(have e:v=false:=(by grind [List.length_eq_zero_iff,aL,aN,aM,aY]);(try clear hv);(try clear hv2);exact⟨by simp,.bool v,1,by simp[Tryz.f77, *],rfl⟩)|(exact⟨by simp,.bool v,1,(by simp[Tryz.f77, *]<;>grind [List.length_eq_zero_iff,aL,aN,aM]),rfl⟩)
end
end Go.V
end
section
set_option maxHeartbeats 4000000
namespace Go.V
open Go Go.Proofs
attribute [local irreducible] W bO WD aO yl aS bW
section
variable (Γ:Glo Tryz.prog)
theorem vq (x y:Doc):ky x y=List.foldr orI 0 [cmpI x.kind y.kind,cmpI x.num y.num,cmpS x.str y.str,cmpI x.keys.length y.keys.length,cf cmpS x.keys y.keys,cmpI x.kids.length y.kids.length,cf ky x.kids y.kids]:=by
 cases x;cases y
 simp only[ky,tA,Doc.kind,Doc.num,Doc.str,Doc.keys,Doc.kids,List.foldr]
 have h:∀i:Int,orI i 0=i:=fun i=>by unfold orI;split<;>simp_all
 rw[h]
theorem FB (i0 i1 i2 i3 i4 i5 i6:Int):PureOk Tryz.prog Γ 81 [.sl [.int .i64 i0,.int .i64 i1,.int .i64 i2,.int .i64 i3,.int .i64 i4,.int .i64 i5,.int .i64 i6] 7 (some 7)] (.int .i64 ([i0,i1,i2,i3,i4,i5,i6].foldr orI 0)):=
 (f81 Γ [i0,i1,i2,i3,i4,i5,i6] (by simp[big])).arg ⟨Wk.cap _ _ _,trivial⟩
theorem FA (i0 i1 i2:Int):PureOk Tryz.prog Γ 81 [.sl [.int .i64 i0,.int .i64 i1,.int .i64 i2] 3 (some 3)] (.int .i64 ([i0,i1,i2].foldr orI 0)):=
 (f81 Γ [i0,i1,i2] (by simp[big])).arg ⟨Wk.cap _ _ _,trivial⟩
theorem f35 (x y:Doc)(hx:wD x<big)(hy:wD y<big):PureOk Tryz.prog Γ 35 [.ag (aH x),.ag (aH y)] (.int .i64 (ky x y)):=by
 induction x using Doc.ind generalizing y with
 |h x ih=>
 have hk:=fP x
 have hk2:=fP y
 have hk3:=io x
 have hk4:=io y
 have h1:=f82 Γ x.kind y.kind
 have h2:=f82 Γ x.num y.num
 have h3:=f83 Γ x.str y.str
 have h4:=f82 Γ x.keys.length y.keys.length
 have h5:=f84 Γ x.keys y.keys (by simp only[big] at *;omega) (by simp only[big] at *;omega)
 have h6:=f82 Γ x.kids.length y.kids.length
 have h7:=f85 Γ x.kids y.kids ky (by simp only[big] at *;omega) (by simp only[big] at *;omega) 35 [] [] (fun u hu w hw=>ih u hu w (by have:=nN hu;simp only[big] at *;omega) (by have:=nN hw;simp only[big] at *;omega)) (by kernel_rfl) rfl rfl
 obtain⟨v,hv⟩:∃v,v=ky x y:=⟨_,rfl⟩
 rw[←hv]
 rw[vq] at hv
 clear ih hk hk2 hk3 hk4 hx hy
 generalize cmpI x.kind y.kind=p1 at *
 generalize cmpI x.num y.num=p2 at *
 generalize cmpS x.str y.str=p3 at *
 generalize cmpI x.keys.length y.keys.length=p4 at *
 generalize cf cmpS x.keys y.keys=p5 at *
 generalize cmpI x.kids.length y.kids.length=p6 at *
 generalize cf ky x.kids y.kids=p7 at *
 have h8:=FB Γ p1 p2 p3 p4 p5 p6 p7
 rw[←hv] at h8
 clear hv
 refine Y2 46 Tryz.func35 rfl rfl fun a hl g0 g1=>?_
 repeat' first|refine G1 ?_|(refine G2 ?_ ?_<;>intro hc hd<;>try exact hd.elim)|fail
 refine aQ h1 ?_
 repeat' first|refine G1 ?_|(refine G2 ?_ ?_<;>intro hc hd<;>try exact hd.elim)|fail
 refine aQ h2 ?_
 repeat' first|refine G1 ?_|(refine G2 ?_ ?_<;>intro hc hd<;>try exact hd.elim)|fail
 refine aQ h3 ?_
 repeat' first|refine G1 ?_|(refine G2 ?_ ?_<;>intro hc hd<;>try exact hd.elim)|fail
 refine aQ h4 ?_
 repeat' first|refine G1 ?_|(refine G2 ?_ ?_<;>intro hc hd<;>try exact hd.elim)|fail
 refine aQ h5 ?_
 repeat' first|refine G1 ?_|(refine G2 ?_ ?_<;>intro hc hd<;>try exact hd.elim)|fail
 refine aQ h6 ?_
 repeat' first|refine G1 ?_|(refine G2 ?_ ?_<;>intro hc hd<;>try exact hd.elim)|fail
 refine aQ h7 ?_
 repeat' first|refine G1 ?_|(refine G2 ?_ ?_<;>intro hc hd<;>try exact hd.elim)|fail
 refine r8 100 [(3,.cells [.int .i64 p1,.int .i64 p2,.int .i64 p3,.int .i64 p4,.int .i64 p5,.int .i64 p6,.int .i64 p7] 3 false)] h8 ?_ ⟨[.so 3 0 7 (some 7)],by simp[*],by kernel_rfl⟩
 clear h1 h2 h3 h4 h5 h6 h7 h8
 repeat' first|refine G1 ?_|(refine G2 ?_ ?_<;>intro hc hd<;>try exact hd.elim)|fail
 all_goals first|(refine⟨by simp,.int .i64 v,1,?_,rfl⟩;(simp[Tryz.f35, *]<;>grind [List.length_eq_zero_iff]);done)|skip
theorem qe {α:Type}{c:α→α→Int}(h:∀x y,c x y=0↔x=y):∀l m,cf c l m=0↔l=m
 |[],[]=>by simp[cf]
 |[],_::_=>by simp[cf]
 |_::_,[]=>by simp[cf]
 |x::l,y::m=>by
  simp only[cf,List.cons.injEq]
  by_cases e:c x y=0
  ·
   rw[if_pos e,qe h l m];simp[(h x y).1 e]
  ·
   have:x≠y:=fun e'=>e ((h x y).2 e')
   simp[e,this]
theorem yc {a b:Int}:orI a b=0↔a=0∧b=0:=by unfold orI;split<;>simp_all
theorem oa:∀(l m:List Doc),(∀x∈l,∀y,ky x y=0↔x=y)→(cf ky l m=0↔l=m)
 |[],[],_=>by simp[cf]
 |[],_::_,_=>by simp[cf]
 |_::_,[],_=>by simp[cf]
 |x::l,y::m,h=>by
  simp only[cf,List.cons.injEq]
  have hx:=h x (by simp) y
  by_cases e:ky x y=0
  ·
   rw[if_pos e,oa l m fun z hz=>h z (by simp[hz])];simp[hx.1 e]
  ·
   have:x≠y:=fun e'=>e (hx.2 e')
   simp[e,this]
theorem xC (x y:Doc):ky x y=0↔x=y:=by
 induction x using Doc.ind generalizing y with
 |h x ih=>
 rw[vq]
 simp only[List.foldr,yc,qd,mu,qe (fun a b=>mu),oa x.kids y.kids ih]
 cases x;cases y
 simp only[Doc.kind,Doc.num,Doc.str,Doc.keys,Doc.kids,Doc.mk.injEq]
 constructor
 ·
  rintro⟨h1,h2,h3,h4,h5,h6,h7,_⟩;exact⟨h1,h2,h3,h5,h7⟩
 ·
  rintro⟨rfl,rfl,rfl,rfl,rfl⟩;simp
theorem tM:∀(l m:List Doc),(∀x∈l,∀y,eqD x y=true↔x=y)→(ut l m=true↔l=m)
 |[],[],_=>by simp[ut]
 |[],_::_,_=>by simp[ut]
 |_::_,[],_=>by simp[ut]
 |x::l,y::m,h=>by
  simp only[ut,List.cons.injEq,Bool.and_eq_true,h x (by simp) y,tM l m fun z hz=>h z (by simp[hz])]
theorem oJ (x y:Doc):eqD x y=true↔x=y:=by
 induction x using Doc.ind generalizing y with
 |h x ih=>
 rcases x with ⟨k,n,s,ks,ds⟩
 rcases y with ⟨k',n',s',ks',ds'⟩
 have h:=tM ds ds' ih
 simp only[eqD,Bool.and_eq_true,decide_eq_true_eq,Doc.mk.injEq]
 rw[h]
 simp only[and_assoc]
theorem f12 (x y:Doc)(hx:wD x<big)(hy:wD y<big):PureOk Tryz.prog Γ 12 [.ag (aH x),.ag (aH y)] (.bool (eqD x y)):=by
 have h1:=f35 Γ x y hx hy
 have e:eqD x y=decide (ky x y=0):=by rw[Bool.eq_iff_iff,oJ,decide_eq_true_eq,xC]
 rw[e]
 generalize ky x y=p1 at *
 clear hx hy e
 refine Y2 9 Tryz.func12 rfl rfl fun a hl g0 g1=>?_
 repeat' first|refine G1 ?_|(refine G2 ?_ ?_<;>intro hc hd<;>try exact hd.elim)|fail
 all_goals (try (refine aC h1 ?_))
 repeat' first|refine G1 ?_|(refine G2 ?_ ?_<;>intro hc hd<;>try exact hd.elim)|fail
 all_goals first|(refine⟨by simp,.bool (decide (p1=0)),1,?_,rfl⟩;(simp[Tryz.f12, *]<;>grind [List.length_eq_zero_iff]);done)|skip
theorem f37 (x y:Res)(hx:x.step.length<big)(hy:y.step.length<big)(hx2:x.at_.length<big)(hy2:y.at_.length<big):PureOk Tryz.prog Γ 37 [.ag (ac x),.ag (ac y)] (.int .i64 (dc x y)):=by
 have h1:=f82 Γ x.edge y.edge
 have h2:=f86 Γ x.step y.step hx hy
 have h3:=f84 Γ x.at_ y.at_ hx2 hy2
 obtain⟨v,hv⟩:∃v,v=dc x y:=⟨_,rfl⟩
 rw[←hv]
 have hv2:v=List.foldr orI 0 [cmpI x.edge y.edge,cf cmpI x.step y.step,cf cmpS x.at_ y.at_]:=by
  rw[hv]
  unfold dc
  simp only[List.foldr]
  have h:∀i:Int,orI i 0=i:=fun i=>by unfold orI;split<;>simp_all
  rw[h]
 clear hv hx hy hx2 hy2
 generalize cmpI x.edge y.edge=p1 at *
 generalize cf cmpI x.step y.step=p2 at *
 generalize cf cmpS x.at_ y.at_=p3 at *
 have h4:=FA Γ p1 p2 p3
 rw[←hv2] at h4
 clear hv2
 refine Y2 22 Tryz.func37 rfl rfl fun a hl g0 g1=>?_
 repeat' first|refine G1 ?_|(refine G2 ?_ ?_<;>intro hc hd<;>try exact hd.elim)|fail
 refine aQ h1 ?_
 repeat' first|refine G1 ?_|(refine G2 ?_ ?_<;>intro hc hd<;>try exact hd.elim)|fail
 refine aQ h2 ?_
 repeat' first|refine G1 ?_|(refine G2 ?_ ?_<;>intro hc hd<;>try exact hd.elim)|fail
 refine aQ h3 ?_
 repeat' first|refine G1 ?_|(refine G2 ?_ ?_<;>intro hc hd<;>try exact hd.elim)|fail
 refine r8 100 [(3,.cells [.int .i64 p1,.int .i64 p2,.int .i64 p3] 3 false)] h4 ?_ ⟨[.so 3 0 3 (some 3)],by simp[*],by kernel_rfl⟩
 clear h1 h2 h3 h4
 repeat' first|refine G1 ?_|(refine G2 ?_ ?_<;>intro hc hd<;>try exact hd.elim)|fail
 all_goals first|(refine⟨by simp,.int .i64 v,1,?_,rfl⟩;(simp[Tryz.f37, *]<;>grind [List.length_eq_zero_iff]);done)|skip
end
end Go.V
end
