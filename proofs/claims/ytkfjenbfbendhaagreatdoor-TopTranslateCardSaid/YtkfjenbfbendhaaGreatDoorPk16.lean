/-
  A part of a proof: W1 Y1 R11 P1 P2.
-/
import Derived.Test.YtkfjenbfbendhaaGreatDoorPk11
import Derived.Test.YtkfjenbfbendhaaGreatDoorPk14
import Derived.Test.YtkfjenbfbendhaaGreatDoorPk15
set_option linter.unusedSimpArgs false
set_option linter.unusedVariables false
section
set_option maxHeartbeats 4000000
namespace Go.V
open Go Go.Proofs
attribute [local irreducible] W bM WD aO yl aU bU
section
variable (Γ:Glo Tryz.prog)
attribute [local simp] veq bD eD V.del jE ob jD cO
@[simp] theorem Lp (n:Int):cU Tryz.prog 30 [(0,.int .i64 4),(1,.int .i64 n)]=some [.int .i64 4,.int .i64 n,.str [],.nils,.nils]:=by kernel_rfl
theorem f249 (n:Int):PureOk Tryz.prog Γ 249 [.int .i64 n] (.ag (aJ (.mk 4 n [] [] []))):=by
 refine PureOk.wk (r:=.ag [.int .i64 4,.int .i64 n,.str [],.nils,.nils]) ?_ (Wk.ag ⟨Wk.refl _,Wk.refl _,Wk.refl _,Wk.nils,Wk.nils,trivial⟩);refine Y1 5 Tryz.func249 rfl rfl fun a hl g0=>?_
 refine GG ?_;exact⟨by simp,.ag [.int .i64 4,.int .i64 n,.str [],.nils,.nils],1,by simp[Tryz.f249,V.get,V.put,aY, *],aG rfl⟩
@[simp] theorem Lq (c:List Val)(n:Nat)(k:Option Nat):cU Tryz.prog 30 [(0,.int .i64 3),(4,.sl c n k)]=some [.int .i64 3,.int .i64 0,.str [],.nils,.sl c n k]:=by kernel_rfl
theorem f266 (ds:List Doc)(hb:wDs ds+1<big):PureOk Tryz.prog Γ 266 [sls aJ ds] (.ag (aJ (.mk 3 0 [] [] ds))):=by
 have h1:=f78 Γ (.mk 3 0 [] [] ds) (by simp[wD,cw] at *;omega);have h2:PureOk Tryz.prog Γ 78 [.ag [.int .i64 3,.int .i64 0,.str [],.nils,.sl (row aJ ds) ds.length none]] (.ag (aJ (.mk 3 0 [] [] ds))):=h1.arg ⟨by rw[eF];exact Wk.ag ⟨Wk.refl _,Wk.refl _,Wk.refl _,Wk.nils,Wk.refl _,trivial⟩,trivial⟩;clear h1;generalize hd:Doc.mk 3 0 [] [] ds=d at *
 refine Y1 6 Tryz.func266 rfl rfl fun a hl g0=>?_
 refine GG ?_;all_goals (try (refine aC h2 ?_))
 refine GG ?_;exact⟨by simp,.ag (aJ d),1,by simp[Tryz.f266,V.get,V.put,aY, *],aG (by simp[Val.closed])⟩
theorem f311c (u w n:Int):CallOk Tryz.prog Γ 311 [.so 0 0 2 (some 2),.int .i64 n] [(0,.cells [.int .i64 u,.int .i64 w] 243 false)] 1 true (.int .i64 (bg (fun x=>decide (n=x)) [u,w] 0)) [(0,.cells [.int .i64 u,.int .i64 w] 243 false)] 1:=by
 obtain⟨v,hv⟩:∃v,v=bg (fun x=>decide (n=x)) [u,w] 0:=⟨_,rfl⟩;rw[←hv];have hv2:v=if n=u then 0 else if n=w then 1 else -1:=by rw[hv];simp only[bg];split<;>simp_all
 clear hv;refine Z2 19 Tryz.func311 rfl rfl fun a hl g0 g1=>?_
 refine GG ?_;refine aq [(4,5),(9,18)] [8] (fun k a h=>h=[(0,.cells [.int .i64 u,.int .i64 w] 243 false)]∧((k=2∧lk a 8=some (.int .i64 0))∨(k=1∧lk a 8=some (.int .i64 1)∧¬n=u)∨(k=0∧lk a 8=some (.int .i64 2)∧¬n=u∧¬n=w))) ⟨rfl,.inl ⟨rfl,by simp[*]⟩⟩ ?_;intro a1 hk hk0 k a h hF hI;replace g0:=hF.a hk 0;replace g1:=hF.a hk 1;replace g7:=hF.a hk 7;replace hl:a.length=19:=hF.len.trans (hk0.trans (by simp[*]));clear hk hk0;obtain⟨rfl,⟨rfl,h8⟩|⟨rfl,h8,hu⟩|⟨rfl,h8,hu,hw⟩⟩:=hI
 ·repeat' first|refine G1 ?_|(refine G2 ?_ ?_<;>intro hc hd<;>try exact hd.elim)|fail
  ·have e:v=0:=(by rw[hv2,if_pos hc]);clear hv2;exact⟨by simp,by simp[Tryz.f311, *],fun i b hb=>hb⟩
  ·exact NX [(0,.cells [.int .i64 u,.int .i64 w] 243 false)] fun a2 hF2=>⟨rfl,.inr (.inl ⟨rfl,(hF2.q 8),hc⟩)⟩
 ·repeat' first|refine G1 ?_|(refine G2 ?_ ?_<;>intro hc hd<;>try exact hd.elim)|fail
  ·have e:v=1:=(by rw[hv2,if_neg hu,if_pos hc]);clear hv2;exact⟨by simp,by simp[Tryz.f311, *],fun i b hb=>hb⟩
  ·exact NX [(0,.cells [.int .i64 u,.int .i64 w] 243 false)] fun a2 hF2=>⟨rfl,.inr (.inr ⟨rfl,(hF2.q 8),hu,hc⟩)⟩
 ·have e:v=-1:=(by rw[hv2,if_neg hu,if_neg hw]);clear hv2;refine GG ?_;exact⟨by simp,by simp[Tryz.f311, *],fun i b hb=>hb⟩
theorem f267 (n:Int)(l:List (Int×Int))(hb:l.length<big):PureOk Tryz.prog Γ 267 [.int .i64 n,sls cO l] (.int .i64 (fP n l)):=by
 simp only[big] at hb;obtain⟨v,hv⟩:∃v,v=fP n l:=⟨_,rfl⟩;rw[←hv];refine Y2 25 Tryz.func267 rfl rfl fun a hl g0 g1=>?_
 refine GG ?_;refine aq [(4,4),(6,7),(11,23)] [10] (fun k a h=>h=[]∧∃pre rest,l=pre++rest∧k=rest.length∧lk a 10=some (.int .i64 pre.length)∧v=fP n rest) ⟨rfl,[],l,rfl,rfl,by simp[*],hv⟩ ?_;intro a1 hk hk0 k a h hF hI;replace g0:=hF.a hk 0;replace g8:=hF.a hk 8;replace g9:=hF.a hk 9;replace hl:a.length=25:=hF.len.trans (hk0.trans (by simp[*]));clear hk hk0;clear hv;obtain⟨rfl,pre,rest,rfl,rfl,h10,hv⟩:=hI;cases rest with
 |nil=>simp only[fP] at hv;refine GG ?_;exact⟨by simp,.int .i64 v,1,by simp[Tryz.f267, *],rfl⟩
 |cons p r=>
  have hlt:(pre.length:Int)<pre.length+(r.length+1):=(by omega);have hw:=ac ((pre.length:Int)+1) (by omega) (by simp at hb;omega);obtain⟨u,w⟩:=p;have k1:=(f311c Γ u w n).ren [7] 11 rfl (by simp[co,fg,aV,aS]) (by simp) rfl;simp at k1;simp only[fP] at hv;by_cases h1:u=n
  ·have hi:bg (fun x=>decide (n=x)) [u,w] 0=0:=(by simp[bg,h1]);have j1:=k1;rw[hi] at j1;clear k1;rw[if_pos h1] at hv;clear hi h1;refine GG ?_;refine aw j1 ?_;refine GG ?_;exact⟨by simp,.int .i64 v,1,by simp[Tryz.f267, *],rfl⟩
  ·by_cases h2:w=n
   ·have hi:bg (fun x=>decide (n=x)) [u,w] 0=1:=by
     have h1':¬n=u:=fun e=>h1 e.symm
     simp[bg,h1',h2]
    have j1:=k1;rw[hi] at j1;clear k1;rw[if_neg h1,if_pos h2] at hv;clear hi h1 h2;refine GG ?_;refine aw j1 ?_;refine GG ?_;exact⟨by simp,.int .i64 v,1,by simp[Tryz.f267, *],rfl⟩
   ·have hi:bg (fun x=>decide (n=x)) [u,w] 0=-1:=by
     have h1':¬n=u:=fun e=>h1 e.symm
     have h2':¬n=w:=fun e=>h2 e.symm
     simp[bg,h1',h2']
    have j1:=k1;rw[hi] at j1;clear k1;rw[if_neg h1,if_neg h2] at hv;clear hi h1 h2;refine GG ?_;refine aw j1 ?_;refine GG ?_;exact NX [] fun a2 hF2=>⟨rfl,pre++[(u,w)],r,by simp,rfl,(hF2.q 10),hv⟩
theorem f139n:PureOk Tryz.prog Γ 139 [.nils] .nils:=by
 refine Y1 8 Tryz.func139 rfl rfl fun a hl g0=>?_
 refine GG ?_;exact⟨by simp,.nils,1,by simp[Tryz.f139, *],rfl⟩
theorem f139s:PureOk Tryz.prog Γ 139 [.sle] (.sl [] 0 (some 0)):=by
 refine Y1 8 Tryz.func139 rfl rfl fun a hl g0=>?_
 refine GG ?_;exact⟨by simp,.so 3 0 0 (some 0),100,by simp[Tryz.f139, *],by simp[vw,vwL,V.get]⟩
theorem f71n:PureOk Tryz.prog Γ 71 [.nils] .nils:=by
 refine Y1 8 Tryz.func71 rfl rfl fun a hl g0=>?_
 refine GG ?_;exact⟨by simp,.nils,1,by simp[Tryz.f71, *],rfl⟩
theorem f71s:PureOk Tryz.prog Γ 71 [.sle] (.sl [] 0 (some 0)):=by
 refine Y1 8 Tryz.func71 rfl rfl fun a hl g0=>?_
 refine GG ?_;exact⟨by simp,.so 3 0 0 (some 0),100,by simp[Tryz.f71, *],by simp[vw,vwL,V.get]⟩
@[simp] theorem K1 (i o n:Nat)(k:Option Nat)(c:List Val)(m:Nat)(k2:Option Nat):cU Tryz.prog 138 [(0,.so i o n k),(1,.sl c m k2)]=some [.so i o n k,.sl c m k2]:=by kernel_rfl
@[simp] theorem K2 (i o n:Nat)(k:Option Nat)(c:List Val)(m:Nat)(k2:Option Nat):cU Tryz.prog 138 [(0,.sl c m k2),(1,.so i o n k)]=some [.sl c m k2,.so i o n k]:=by kernel_rfl
theorem f133 (st:List Int)(ks:List Str)(k:Int)(hb:st.length+1<big):PureOk Tryz.prog Γ 133 [.ag [sls cS st,sls aZ ks],.int .i64 k] (.ag [sls cS (st++[k]),sls aZ ks]):=by
 simp only[big] at hb;cases st with
 |nil=>
  have h1:=f139n Γ;have h2:=f139s Γ;refine Y2 14 Tryz.func133 rfl rfl fun a hl g0 g1=>?_
  (repeat' refine fM ?_);refine dM ?_;(repeat' first|refine eR ?_|refine gK ?_);refine db ?_;simp only[eH,cX,cV]
  refine se 0 (us:=[]) rfl ?_ ?_
  ·simp only[V.put,if_true];refine GG ?_;refine aM h1 ?_;refine GG ?_;refine gn [(2,.cells [.int .i64 k] 3 false)] ?_;refine GG ?_;exact⟨by simp,.ag [.so 3 0 1 none,sls aZ ks],20,by simp[Tryz.f133,V.get,V.put,aY, *],fL (by simp[aE,Val.closed]) (aI (dD (t:=3) (cs:=[.int .i64 k]) rfl (by simp) rfl (by simp)) (aI (aG (by simp[Val.closed])) bP))⟩
  ·simp only[V.put,if_true];refine GG ?_;refine aM h2 ?_;refine GG ?_;refine gn [(2,.cells [.int .i64 k] 3 false)] ?_;refine GG ?_;exact⟨by simp,.ag [.so 3 0 1 none,sls aZ ks],20,by simp[Tryz.f133,V.get,V.put,aY, *],fL (by simp[aE,Val.closed]) (aI (dD (t:=3) (cs:=[.int .i64 k]) rfl (by simp) rfl (by simp)) (aI (aG (by simp[Val.closed])) bP))⟩
 |cons x0 r0=>
  have h1:=(f139c Γ x0 r0 (by simp at hb;simp only[big];omega)).ren [] 2 rfl (by simp[co]) (by simp) rfl;simp at h1;have e1:row cS (x0::r0++[k])=row cS (x0::r0)++[.int .i64 k]:=(by rw[bf];rfl);have e2:sls cS (x0::r0++[k])=.sl (row cS (x0::r0)++[.int .i64 k]) (r0.length+1+1) none:=(by rw[←e1];unfold sls;congr 1;simp);have hrow:.int .i64 x0::row cS r0=row cS (x0::r0):=rfl;try rw[hrow] at h1
  rw[e2];have hcl:(row cS (x0::r0)).length=r0.length+1:=(by simp);have hcc:aE (row cS (x0::r0))=true:=(by simp);have hce:ae (row cS (x0::r0))=true:=(by simp);have hta:List.take (r0.length+1) (row cS (x0::r0))=row cS (x0::r0):=List.take_of_length_le (by omega);have e3:sls cS (x0::r0)=.sl (row cS (x0::r0)) (r0.length+1) none:=rfl;rw[e3];try rw[e3] at h1
  generalize row cS (x0::r0)=cs at *
  have hb2:(r0.length+1+1)*8≤140737488355328:=(by simp at hb;omega);have hnl:¬r0.length+1+1≤r0.length+1:=(by omega);clear e1 e2 e3 hrow hb;refine Y2 14 Tryz.func133 rfl rfl fun a hl g0 g1=>?_
  have hlo:=fun N=>aD (N:=N) _ hcc
  refine GG ?_;refine bl h1 ?_;refine GG ?_;refine gn [(7,.cells cs 3 true),(8,.cells [.int .i64 k] 3 false)] ?_;refine GG ?_;exact⟨by simp,.ag [.so 9 0 (r0.length+1+1) none,sls aZ ks],cs.length+20,by simp[Tryz.f133,V.get,V.put,aY, *],fL (by simp[aE,Val.closed]) (aI (dD (t:=3) (cs:=cs++[.int .i64 k]) rfl (by simp[hcl]) (by simp[aE,Val.closed,hcc]) (by simp)) (aI (aG (by simp[Val.closed])) bP))⟩
theorem f268 (st:List Int)(ks:List Str)(k:Str)(hb:ks.length+1<big):PureOk Tryz.prog Γ 268 [.ag [sls cS st,sls aZ ks],.str k] (.ag [sls cS st,sls aZ (ks++[k])]):=by
 simp only[big] at hb;cases ks with
 |nil=>
  have h1:=f71n Γ;have h2:=f71s Γ;refine Y2 14 Tryz.func268 rfl rfl fun a hl g0 g1=>?_
  (repeat' refine fM ?_);refine dM ?_;(repeat' first|refine eR ?_|refine gK ?_);refine db ?_;simp only[eH,cX,cV]
  refine se 0 (us:=[sls cS st]) rfl ?_ ?_
  ·simp only[V.put,if_true];refine GG ?_;refine aM h1 ?_;refine GG ?_;refine gn [(2,.cells [.str k] 9 false)] ?_;refine GG ?_;exact⟨by simp,.ag [sls cS st,.so 3 0 1 none],20,by simp[Tryz.f268,V.get,V.put,aY, *],fL (by simp[aE,Val.closed]) (aI (aG (by simp[Val.closed])) (aI (dD (t:=9) (cs:=[.str k]) rfl (by simp) rfl (by simp)) bP))⟩
  ·simp only[V.put,if_true];refine GG ?_;refine aM h2 ?_;refine GG ?_;refine gn [(2,.cells [.str k] 9 false)] ?_;refine GG ?_;exact⟨by simp,.ag [sls cS st,.so 3 0 1 none],20,by simp[Tryz.f268,V.get,V.put,aY, *],fL (by simp[aE,Val.closed]) (aI (aG (by simp[Val.closed])) (aI (dD (t:=9) (cs:=[.str k]) rfl (by simp) rfl (by simp)) bP))⟩
 |cons x0 r0=>
  have h1:=(f71c Γ x0 r0 (by simp at hb;simp only[big];omega)).ren [] 2 rfl (by simp[co]) (by simp) rfl;simp at h1;have e1:row aZ (x0::r0++[k])=row aZ (x0::r0)++[.str k]:=(by rw[bf];rfl);have e2:sls aZ (x0::r0++[k])=.sl (row aZ (x0::r0)++[.str k]) (r0.length+1+1) none:=(by rw[←e1];unfold sls;congr 1;simp);have hrow:.str x0::row aZ r0=row aZ (x0::r0):=rfl;try rw[hrow] at h1
  rw[e2];have hcl:(row aZ (x0::r0)).length=r0.length+1:=(by simp);have hcc:aE (row aZ (x0::r0))=true:=(by simp);have hce:ae (row aZ (x0::r0))=true:=(by simp);have hta:List.take (r0.length+1) (row aZ (x0::r0))=row aZ (x0::r0):=List.take_of_length_le (by omega);have e3:sls aZ (x0::r0)=.sl (row aZ (x0::r0)) (r0.length+1) none:=rfl;rw[e3];try rw[e3] at h1
  generalize row aZ (x0::r0)=cs at *
  have hb2:(r0.length+1+1)*16≤140737488355328:=(by simp at hb;omega);have hnl:¬r0.length+1+1≤r0.length+1:=(by omega);clear e1 e2 e3 hrow hb;refine Y2 14 Tryz.func268 rfl rfl fun a hl g0 g1=>?_
  have hlo:=fun N=>aD (N:=N) _ hcc
  refine GG ?_;refine bl h1 ?_;refine GG ?_;refine gn [(7,.cells cs 9 true),(8,.cells [.str k] 9 false)] ?_;refine GG ?_;exact⟨by simp,.ag [sls cS st,.so 9 0 (r0.length+1+1) none],cs.length+20,by simp[Tryz.f268,V.get,V.put,aY, *],fL (by simp[aE,Val.closed]) (aI (aG (by simp[Val.closed])) (aI (dD (t:=9) (cs:=cs++[.str k]) rfl (by simp[hcl]) (by simp[aE,Val.closed,hcc]) (by simp)) bP))⟩
end
section
variable (Γ:Glo Tryz.prog)
attribute [local simp] veq bD eD V.del
theorem f211 (t:Ty)(d:Doc)(ht:wT t<big):PureOk Tryz.prog Γ 211 [.ag (cTy t),.ag (aJ d)] (.int .i64 (d7 t d)):=by
 have h1:=f274 Γ t d;have h2:=f275 Γ d.kids.length t;have h3:=f275 Γ d.num t;have h4:=f275 Γ d.str.length t;have h5:=f240 Γ t.names d.str (by have:=kc t;omega);obtain⟨v,hv⟩:∃v,v=d7 t d:=⟨_,rfl⟩;rw[←hv];unfold d7 at hv;clear ht;by_cases hk:if t.kind=7 then d.kind=6 else t.kind=d.kind
 case neg=>
  rw[if_neg hk] at hv;rw[decide_eq_false hk] at h1;subst hv;clear h2 h3 h4 h5 hk;refine Y2 40 Tryz.func211 rfl rfl fun a hl g0 g1=>?_
  refine GG ?_;all_goals (try (refine aC h1 ?_))
  refine GG ?_;exact⟨by simp,.int .i64 7,1,by simp[Tryz.f211, *],rfl⟩
 rw[if_pos hk] at hv;rw[decide_eq_true hk] at h1;clear hk;by_cases k2:t.kind=2
 ·rw[if_pos (.inl k2)] at hv;rw[←hv] at h2;clear h3 h4 h5 hv;refine Y2 40 Tryz.func211 rfl rfl fun a hl g0 g1=>?_
  refine GG ?_;all_goals (try (refine aC h1 ?_))
  refine GG ?_;all_goals (try (refine aC h2 ?_))
  refine GG ?_;exact⟨by simp,.int .i64 v,1,by simp[Tryz.f211, *],rfl⟩
 by_cases k3:t.kind=3
 ·rw[if_pos (.inr k3)] at hv;rw[←hv] at h2;clear h3 h4 h5 hv;refine Y2 40 Tryz.func211 rfl rfl fun a hl g0 g1=>?_
  refine GG ?_;all_goals (try (refine aC h1 ?_))
  refine GG ?_;all_goals (try (refine aC h2 ?_))
  refine GG ?_;exact⟨by simp,.int .i64 v,1,by simp[Tryz.f211, *],rfl⟩
 rw[if_neg (by simp[k2,k3])] at hv;by_cases k4:t.kind=4
 ·rw[if_pos k4] at hv;rw[←hv] at h3;clear h2 h4 h5 hv;refine Y2 40 Tryz.func211 rfl rfl fun a hl g0 g1=>?_
  refine GG ?_;all_goals (try (refine aC h1 ?_))
  refine GG ?_;all_goals (try (refine aC h3 ?_))
  refine GG ?_;exact⟨by simp,.int .i64 v,1,by simp[Tryz.f211, *],rfl⟩
 rw[if_neg k4] at hv;by_cases k6:t.kind=6
 ·rw[if_pos k6] at hv;rw[←hv] at h4;clear h2 h3 h5 hv;refine Y2 40 Tryz.func211 rfl rfl fun a hl g0 g1=>?_
  refine GG ?_;all_goals (try (refine aC h1 ?_))
  refine GG ?_;all_goals (try (refine aC h4 ?_))
  refine GG ?_;exact⟨by simp,.int .i64 v,1,by simp[Tryz.f211, *],rfl⟩
 rw[if_neg k6] at hv;by_cases k7:t.kind=7
 ·rw[if_pos k7] at hv;clear h2 h3 h4;generalize t.names.contains d.str=q at *
  cases q with
  |true=>
   rw[if_pos rfl] at hv;subst hv;refine Y2 40 Tryz.func211 rfl rfl fun a hl g0 g1=>?_
   refine GG ?_;all_goals (try (refine aC h1 ?_))
   refine GG ?_;all_goals (try (refine aC h5 ?_))
   refine GG ?_;exact⟨by simp,.int .i64 0,1,by simp[Tryz.f211, *],rfl⟩
  |false=>
   rw[if_neg (by simp)] at hv;subst hv;refine Y2 40 Tryz.func211 rfl rfl fun a hl g0 g1=>?_
   refine GG ?_;all_goals (try (refine aC h1 ?_))
   refine GG ?_;all_goals (try (refine aC h5 ?_))
   refine GG ?_;exact⟨by simp,.int .i64 8,1,by simp[Tryz.f211, *],rfl⟩
 rw[if_neg k7] at hv;subst hv;clear h2 h3 h4 h5;refine Y2 40 Tryz.func211 rfl rfl fun a hl g0 g1=>?_
 refine GG ?_;all_goals (try (refine aC h1 ?_))
 refine GG ?_;exact⟨by simp,.int .i64 0,1,by simp[Tryz.f211, *],rfl⟩
theorem f140 (t:Ty)(d:Doc)(ht:wT t<big)(hd:wD d<big):PureOk Tryz.prog Γ 140 [.ag (cTy t),.ag (aJ d)] (.bool (bq t&&dS d)):=by
 have h1:=f27 Γ t ht;have h2:=f77 Γ d hd;generalize bq t=p1 at *
 generalize dS d=p2 at *
 clear ht hd;cases p1<;>cases p2;all_goals
  refine Y2 11 Tryz.func140 rfl rfl fun a hl g0 g1=>?_
  refine GG ?_;all_goals (try (refine aC h1 ?_))
  refine GG ?_;all_goals (try (refine aC h2 ?_))
  all_goals (repeat' first|refine G1 ?_|(refine G2 ?_ ?_<;>intro hc hd<;>try exact hd.elim)|fail)
  first|exact⟨by simp,.bool true,1,by simp[Tryz.f140, *],rfl⟩|exact⟨by simp,.bool false,1,by simp[Tryz.f140, *],rfl⟩
theorem f207 (ks:List Str)(k:Str)(hb:ks.length+1<big):PureOk Tryz.prog Γ 207 [sls aZ ks,.str k] (sls aZ (ks++[k])):=by
 simp only[big] at hb;cases ks with
 |nil=>
  have h1:=f71n Γ;have h2:=f71s Γ;have e0:sls aZ []=.sl [] 0 none:=rfl;rw[e0];refine PureOk.split_nil (us:=[]) ?_ ?_
  ·simp only[List.nil_append];refine Y2 10 Tryz.func207 rfl rfl fun a hl g0 g1=>?_
   refine GG ?_;all_goals (try (refine aC h1 ?_))
   refine GG ?_;exact⟨by simp,.so 4 0 1 none,20,by simp[Tryz.f207,V.get,V.put,aY, *],dD (t:=9) (cs:=[.str k]) rfl (by simp) rfl (by simp)⟩
  ·simp only[List.nil_append];refine Y2 10 Tryz.func207 rfl rfl fun a hl g0 g1=>?_
   refine GG ?_;all_goals (try (refine aC h2 ?_))
   refine GG ?_;exact⟨by simp,.so 4 0 1 none,20,by simp[Tryz.f207,V.get,V.put,aY, *],dD (t:=9) (cs:=[.str k]) rfl (by simp) rfl (by simp)⟩
 |cons x0 r0=>
  have h1:=(f71c Γ x0 r0 (by simp at hb;simp only[big];omega)).ren [] 2 rfl (by simp[co]) (by simp) rfl;simp at h1;have e1:row aZ (x0::r0++[k])=row aZ (x0::r0)++[.str k]:=(by rw[bf];rfl);have e2:sls aZ (x0::r0++[k])=.sl (row aZ (x0::r0)++[.str k]) (r0.length+1+1) none:=(by rw[←e1];unfold sls;congr 1;simp);have hrow:.str x0::row aZ r0=row aZ (x0::r0):=rfl;try rw[hrow] at h1
  rw[e2];have hcl:(row aZ (x0::r0)).length=r0.length+1:=(by simp);have hcc:aE (row aZ (x0::r0))=true:=(by simp);have hce:ae (row aZ (x0::r0))=true:=(by simp);have hta:List.take (r0.length+1) (row aZ (x0::r0))=row aZ (x0::r0):=List.take_of_length_le (by omega);have e3:sls aZ (x0::r0)=.sl (row aZ (x0::r0)) (r0.length+1) none:=rfl;rw[e3];try rw[e3] at h1
  generalize row aZ (x0::r0)=cs at *
  have hb2:(r0.length+1+1)*16≤140737488355328:=(by simp at hb;omega);have hnl:¬r0.length+1+1≤r0.length+1:=(by omega);clear e1 e2 e3 hrow hb;have hlo:=fun N=>aD (N:=N) _ hcc
  refine Y2 10 Tryz.func207 rfl rfl fun a hl g0 g1=>?_
  refine GG ?_;refine aw h1 ?_;refine GG ?_;exact⟨by simp,.so 10 0 (r0.length+1+1) none,cs.length+20,by simp[Tryz.f207,V.get,V.put,aY, *],dD (t:=9) (cs:=cs++[.str k]) rfl (by simp[hcl]) (by simp[aE,Val.closed,hcc]) (by simp)⟩
end
end Go.V
end
section
namespace Go.V
open Go Go.Proofs
section
variable {P:Program} {Γ:Glo P}
def to1 (i j x:Nat):Nat:=if x=i then j else x
theorem mq (i0 j0:Nat)(D:List (Nat×Nat))(L:List Nat)(N1:Nat)(I:Nat→List Val→Heap→Prop){c:Code}{Q:Post}{k:Nat}{a0:List Val}{h0:Heap}{N0:Nat}(hj:N0≤j0∧j0<N1)(hk0:cu h0=true)(hI0:I k a0 (bJ (to1 i0 j0) h0))
  (hI:∀a1:List Val,(∀t v,lk a0 t=some v→lk a1 t=some v)→a1.length=a0.length→∀k a h,Frm (D++L.map fun t=>(t,t)) a1 a→I k a h→
   W P Γ c a h N1 (eH (fun a' h' _=>Frm (D++L.map fun t=>(t,t)) a1 a'∧∃mv h2,(∀i b,get h2 i=some b→get h' i=some b)∧vU N0 N1 mv=true∧cu h2=true∧(∀t∈L,∀v,lk a' t=some v→aS N1 (ax (mvT N0 N1 mv) v)=true)∧
    bW N1 (bJ (mvT N0 N1 mv) h2)=true∧∃j,k=j+1∧∀a2,Frm (D++L.map fun t=>(t,t)) a' a2→(∀t∈L,lk a2 t=(lk a' t).map (ax (mvT N0 N1 mv)))→I j a2 (bJ (mvT N0 N1 mv) h2)) Q)):W P Γ (.loop c) a0 h0 N0 Q:=by
 intro F ρ w0 O w act hG m hf ha hd;have hN:N0≤N1:=by omega
 have hfn:∀i,N0≤i→ρ i=none:=fun i hi=>hf i hi (.inl rfl)
 have mono:∀n Q1 Q2 act w,(∀e a w,Q1 e a w→Q2 e a w)→Code.rounds P c Q1 n act w→Code.rounds P c Q2 n act w:=by
  intro n;induction n with
  |zero=>intro _ _ _ _ _ h;exact h.elim
  |succ n ihn=>
   intro Q1 Q2 act w hq hr;rw[rounds_succ] at hr ⊢;refine wp_mono hr ?_;intro e a w he;cases e with
   |normal=>exact ihn Q1 Q2 a w hq he
   |exit id=>exact hq _ _ _ he
   |goto l=>exact hq _ _ _ he
   |ret=>exact hq _ _ _ he
   |panic ch=>exact hq _ _ _ he
   |outgrown=>exact hq _ _ _ he
 have hlow0:aV N0 a0=true:=RelL.low hfn _ _ ha;have lowAt:∀t v,lk a0 t=some v→aS N0 v=true:=by
  have key:∀(l:List Val) (t:Nat) (v:Val),aV N0 l=true→l[t]?=some v→aS N0 v=true:=by
   intro l;induction l with
   |nil=>intro t v _ h;simp at h
   |cons x l ih=>
    intro t v h1 h2;simp only[aV,Bool.and_eq_true] at h1;cases t with
    |zero=>simp at h2;subst h2;exact h1.1
    |succ t=>exact ih t v h1.2 (by simpa using h2)
  intro t v h;exact key a0 t v hlow0 h
 refine wp_loop_rounds (k+1) ?_;have key:∀n a h F ρk w act,Ext F F ρ ρk w0 O N0 N1→Frm (D++L.map fun t=>(t,t)) a0 a→I n a h→GOk F Γ→Mem P F ρk h w0 O w→RelL F ρk a act.tmps.toList→act.defers=[]→Code.rounds P c (Conc P Q F ρ w0 O N0) (n+1) act w:=by
  intro n;induction n with
  |zero=>
   intro a h F ρk w act hx hF hi hG m ha hd;have hfk:Fresh' ρk N1 N1 true:=fun i hi _=>by rw[hx.out i (by omega)];exact hfn i (by omega)
   rw[rounds_succ];refine wp_mono (lU (hI a0 (fun _ _ h=>h) rfl 0 a h hF hi) hG m hfk ha hd (next:=fun _ _=>False) ?_) ?_
   ·rintro F' ρ' a' h' N' act' w' g1 g2 g3 g4 g5 ⟨_,_,_,_,_,_,_,_,j,hj,_⟩;omega
   ·intro e a w he;cases e with
    |normal=>exact he.elim
    |exit id=>exact Conc.later hx hN he
    |goto l=>exact Conc.later hx hN he
    |ret=>exact Conc.later hx hN he
    |panic ch=>exact Conc.later hx hN he
    |outgrown=>exact Conc.later hx hN he
  |succ n ih=>
   intro a h F ρk w act hx hF hi hG m ha hd;have hfk:Fresh' ρk N1 N1 true:=fun i hi _=>by rw[hx.out i (by omega)];exact hfn i (by omega)
   rw[rounds_succ];have fin:∀(e:Exit) (a:Act) (w:World),Exit.then (fun act w=>Code.rounds P c (Conc P Q F ρ w0 O N0) (n+1) act w) (Conc P Q F ρk w0 O N1) e a w→Exit.then (Code.rounds P c (Conc P Q F ρ w0 O N0) (n+1)) (Conc P Q F ρ w0 O N0) e a w:=by
    intro e a w he;cases e with
    |normal=>exact he
    |exit id=>exact Conc.later hx hN he
    |goto l=>exact Conc.later hx hN he
    |ret=>exact Conc.later hx hN he
    |panic ch=>exact Conc.later hx hN he
    |outgrown=>exact Conc.later hx hN he
   refine wp_mono (lU (hI a0 (fun _ _ h=>h) rfl (n+1) a h hF hi) hG m hfk ha hd (next:=fun act w=>Code.rounds P c (Conc P Q F ρ w0 O N0) (n+1) act w) ?_) fin;rintro F' ρ' a' h' N' act' w' g1 g2 g3 g4 g5 ⟨q1,mv,h2,q3,qok,qko,qL,q4,j,hj,q5⟩;have hjn:j=n:=(by omega);subst hjn;have hτ:=vV hN qok ρ'
   let ρ3:Pl:=cut (mvP N0 N1 mv ρ') N1
   have hlow3:∀i,i<N0→ρ3 i=ρ i:=(by intro i hi;show(if i<N1 then mvP N0 N1 mv ρ' i else none)=ρ i;rw[if_pos (by omega),qS qok _ hi,g2.out i (by omega),hx.out i (by omega)]);have hhigh3:∀i,N1≤i→ρ3 i=none:=(by intro i hi;show(if i<N1 then mvP N0 N1 mv ρ' i else none)=none;rw[if_neg (by omega)]);have hx3:Ext F F' ρ ρ3 w0 O N0 N1:=by
    refine⟨g2.f,fun i L hi=>?_,fun b c hb=>g2.new b c hb,fun i hi=>?_⟩
    ·have hi':i<N0:=by
      rcases Nat.lt_or_ge i N0 with h|h
      ·exact h
      ·rw[hfn i h] at hi;cases hi
     rw[hlow3 i hi'];exact hi
    ·by_cases hi':i<N0
     ·exact hlow3 i hi'
     ·rw[hhigh3 i (by omega),hfn i (by omega)]
   have hcut:PLe (cut ρ' N0) ρ3:=by
    intro i L hi;unfold cut at hi;split at hi
    ·rename_i hi';rw[hlow3 i hi',←hi,g2.out i (by omega),hx.out i (by omega)]
    ·cases hi
   have hl3:=g3.length
   let a2:List Val:=act'.tmps.toList.mapIdx fun t x=>if L.contains t=true then ax (mvT N0 N1 mv) ((a'[t]?).getD uv) else if inM D t=true then .jk x else (a'[t]?).getD uv
   have hl2:a2.length=act'.tmps.toList.length:=(by simp[a2]);have hat:∀t v,a2[t]?=some v→∃x,act'.tmps.toList[t]?=some x∧v=if L.contains t=true then ax (mvT N0 N1 mv) ((a'[t]?).getD uv) else if inM D t=true then .jk x else (a'[t]?).getD uv:=by
    intro t v hv;simp only[a2,List.getElem?_mapIdx] at hv;cases hx:act'.tmps.toList[t]? with
    |none=>rw[hx] at hv;cases hv
    |some x=>rw[hx] at hv;simp only[Option.map_some,Option.some.injEq] at hv;exact⟨x,rfl,hv.symm⟩
   have hlt':∀t x,act'.tmps.toList[t]?=some x→t<a'.length:=by
    intro t x hx;rw[←hl3];rcases Nat.lt_or_ge t act'.tmps.toList.length with h|h
    ·exact h
    ·rw[List.getElem?_eq_none h] at hx;cases hx
   have hF2:Frm (D++L.map fun t=>(t,t)) a' a2:=by
    refine⟨by rw[hl2,hl3],fun t ht=>?_⟩;rw[iN,lm,Bool.or_eq_false_iff] at ht;unfold lk;cases hv:a2[t]? with
    |none=>rw[List.getElem?_eq_none_iff] at hv;exact(List.getElem?_eq_none_iff.2 (by omega)).symm
    |some v=>obtain⟨x,hx,rfl⟩:=hat t v hv;rw[if_neg (by simp[-List.contains_eq_mem,ht.2]),if_neg (by simp[ht.1]),List.getElem?_eq_getElem (hlt' t x hx)];rfl
   have hFL:∀t∈L,lk a2 t=(lk a' t).map (ax (mvT N0 N1 mv)):=by
    intro t ht;unfold lk;cases hv:a2[t]? with
    |none=>rw[List.getElem?_eq_none_iff] at hv;rw[List.getElem?_eq_none_iff.2 (by omega)];rfl
    |some v=>obtain⟨x,hx,rfl⟩:=hat t v hv;rw[if_pos (by simpa using ht),List.getElem?_eq_getElem (hlt' t x hx)];rfl
   have hr2:RelL F' ρ3 a2 act'.tmps.toList:=by
    refine RelL.of_get hl2 fun t v x hv hx=>?_
    obtain⟨y,hy,rfl⟩:=hat t v hv;rw[hx] at hy;cases hy;have hlt:=hlt' t x hx;have hv':a'[t]?=some a'[t]:=List.getElem?_eq_getElem hlt;obtain⟨z,hz1,hz2⟩:=g3.get hv';rw[hx] at hz1;cases hz1;rw[hv'];by_cases hL:L.contains t=true
    ·rw[if_pos hL];exact Rel.cut _ _ (qL t (by simpa using hL) _ hv') (Rel.ren hτ _ _ hz2)
    ·rw[if_neg hL];by_cases ht:inM D t=true
     ·rw[if_pos ht];simp[Rel]
     ·rw[if_neg ht];have hlow:aS N0 a'[t]=true:=(by refine lowAt t _ ?_;rw[←q1.same t (by rw[iN,lm];simp only[Bool.not_eq_true] at ht hL;rw[ht,hL];rfl)];exact hv');exact Rel.mono (FLe.refl _) hcut _ _ (Rel.cut _ _ hlow hz2)
   have hm2:Mem P F' ρ3 (bJ (mvT N0 N1 mv) h2) w0 O w':=((g5.sub q3).ren hτ qko).cut q4;have hFr:Frm (D++L.map fun t=>(t,t)) a0 a2:=q1.trans hF2 (fun t ht=>by simpa using ht);have hxF:Ext F' F' ρ ρ3 w0 O N0 N1:=⟨FLe.refl _,hx3.p,fun b c hb=>.inl hb,hx3.out⟩;refine mono _ _ _ _ _ (fun e a w hc=>Conc.later ⟨g2.f,PLe.refl ρ,g2.new,fun _ _=>rfl⟩ (Nat.le_refl _) hc) (ih a2 (bJ (mvT N0 N1 mv) h2) F' ρ3 w' act' hxF hFr (q5 a2 hF2 hFL) (hG.mono g2.f) hm2 hr2 g4)
 have hjn:ρ j0=none:=hf j0 hj.1 (.inl rfl);obtain⟨ρ2,hρ2⟩:∃ρ2:Pl,ρ2=fun x=>if x=j0 then ρ i0 else ρ x:=⟨_,rfl⟩
 have hle:PLe ρ ρ2:=fun x L hx=>by
  rw[hρ2];show(if x=j0 then ρ i0 else ρ x)=some L;by_cases e:x=j0
  ·subst e;rw[hjn] at hx;cases hx
  ·rw[if_neg e];exact hx
 have hτ:∀x L,ρ x=some L→ρ2 (to1 i0 j0 x)=some L:=fun x L hx=>by
  rw[hρ2];unfold to1;by_cases e:x=i0
  ·subst e;rw[if_pos rfl];show(if j0=j0 then ρ x else _)=_;rw[if_pos rfl];exact hx
  ·rw[if_neg e];show(if x=j0 then ρ i0 else ρ x)=some L;by_cases e2:x=j0
   ·subst e2;rw[hjn] at hx;cases hx
   ·rw[if_neg e2];exact hx
 exact key k a0 (bJ (to1 i0 j0) h0) F ρ2 w act ⟨FLe.refl _,hle,fun _ _ h=>.inl h,fun x hx=>by rw[hρ2];show(if x=j0 then ρ i0 else ρ x)=ρ x;rw[if_neg (by omega)]⟩ (Frm.refl _ _) hI0 hG (m.ren hτ hk0) (RelL.mono (FLe.refl F) hle _ _ ha) hd
end
section
variable {α:Type} (c:α→List Val)
theorem fc {o i:Nat}{t:TypeId}{l:List α}{r:Heap}(h:o≠i):get (gH c o t l++r) i=get r i:=by
 cases l with
 |nil=>rfl
 |cons x l=>simp[gH,get,h]
theorem Dy {N o:Nat}{t:TypeId}{l:List α}{r:Heap}(hc:∀l,aE (row c l)=true)(h:o<N)(hr:bW N r=true):bW N (gH c o t l++r)=true:=by
 unfold bW at *
 rw[List.all_append,Bool.and_eq_true];refine⟨?_,hr⟩;cases l with
 |nil=>rfl
 |cons x l=>simp only[gH,List.all_cons,List.all_nil,cN,Bool.and_true,Bool.and_eq_true,decide_eq_true_eq];exact⟨h,aD _ (hc (x::l))⟩
theorem zl {N o:Nat}{t:TypeId}{l:List α}{r:Heap}(hc:∀l,aE (row c l)=true)(h:o<N)(hr:co N r=true):co N (gH c o t l++r)=true:=by
 unfold co at *
 rw[List.all_append,Bool.and_eq_true];refine⟨?_,hr⟩;cases l with
 |nil=>rfl
 |cons x l=>simp only[gH,List.all_cons,List.all_nil,fg,Bool.and_true,Bool.and_eq_true,decide_eq_true_eq];exact⟨h,aD _ (hc (x::l))⟩
theorem ii {o:Nat}{t:TypeId}{l:List α}{r:Heap}(h:∀p∈r,p.1≠o)(hr:cu r=true):cu (gH c o t l++r)=true:=by
 cases l with
 |nil=>exact hr
 |cons x l=>
  unfold cu at *
  simp only[gH,List.cons_append,List.nil_append,List.map_cons,decide_eq_true_eq,List.nodup_cons] at *
  refine⟨fun hm=>?_,hr⟩;obtain⟨p,hp,e⟩:=List.mem_map.1 hm;exact h p hp e
theorem ai (τ:Nat→Nat)(a b:Heap):bJ τ (a++b)=bJ τ a++bJ τ b:=by unfold bJ;rw[List.map_append]
theorem qV (τ:Nat→Nat){o:Nat}{t:TypeId}{l:List α}(hc:∀l,aE (row c l)=true):bJ τ (gH c o t l)=gH c (τ o) t l:=by
 cases l with
 |nil=>rfl
 |cons x l=>simp only[gH,bJ,List.map_cons,List.map_nil,b9];rw[aH τ _ (hc (x::l))]
theorem qW (τ:Nat→Nat)(o:Nat)(l:List α):ax τ (gV o l)=gV (τ o) l:=by
 cases l with
 |nil=>rfl
 |cons x l=>simp[gV,ax]
theorem vT {N o:Nat}{l:List α}(h:o<N):aS N (gV o l)=true:=by
 cases l with
 |nil=>rfl
 |cons x l=>simp[gV,aS,h]
end
end Go.V
namespace Go.V
structure TO {α:Type}(c:α→α→Int):Prop where
 zero:∀a b,c a b=0↔a=b
 anti:∀a b,c a b<0↔0<c b a
 trans:∀a b d,c a b<0→c b d<0→c a d<0
theorem AO:TO cmpI:=⟨fun _ _=>tQ,fun a b=>by unfold cmpI;split<;>split<;>omega,fun a b d h h'=>by rw[B0] at *;omega⟩
theorem E0:TO cmpS:=by
 refine⟨fun _ _=>oq,fun a b=>?_,fun a b d h h'=>?_⟩
 ·unfold cmpS;cases h1:ltS a b<;>cases h2:ltS b a<;>simp;rw[aR h1] at h2;cases h2
 ·rw[B3] at *;exact aa h h'
theorem AP {α:Type}{c:α→α→Int}(h:TO c):TO (dN c):=by
 refine⟨?_,?_,?_⟩
 ·intro a;induction a with
  |nil=>intro b;cases b<;>simp[dN]
  |cons x a ih=>
   intro b;cases b with
   |nil=>simp[dN]
   |cons y b=>
    simp only[dN,List.cons.injEq];by_cases e:c x y=0
    ·rw[if_pos e,ih b];simp[(h.zero x y).1 e]
    ·have:x≠y:=fun e'=>e ((h.zero x y).2 e')
     simp[e,this]
 ·intro a;induction a with
  |nil=>intro b;cases b<;>simp[dN]
  |cons x a ih=>
   intro b;cases b with
   |nil=>simp[dN]
   |cons y b=>
    simp only[dN];by_cases e:c x y=0
    ·have e':=(h.zero x y).1 e;subst e';rw[if_pos e,if_pos e,ih b]
    ·have e2:c y x≠0:=fun e'=>e ((h.zero x y).2 ((h.zero y x).1 e').symm)
     rw[if_neg e,if_neg e2,h.anti]
 ·intro a;induction a with
  |nil=>
   intro b d h1 h2;cases d with
   |nil=>cases b<;>simp[dN] at h1 h2
   |cons z d=>simp[dN]
  |cons x a ih=>
   intro b d h1 h2;cases b with
   |nil=>simp[dN] at h1
   |cons y b=>
    cases d with
    |nil=>simp[dN] at h2
    |cons z d=>
     simp only[dN] at h1 h2 ⊢;by_cases e:c x y=0
     ·have e':=(h.zero x y).1 e;subst e';rw[if_pos e] at h1;by_cases e2:c x z=0
      ·rw[if_pos e2] at h2 ⊢;exact ih b d h1 h2
      ·rw[if_neg e2] at h2 ⊢;exact h2
     ·rw[if_neg e] at h1;by_cases e2:c y z=0
      ·have e':=(h.zero y z).1 e2;subst e';rw[if_neg e];exact h1
      ·rw[if_neg e2] at h2;have h3:=h.trans x y z h1 h2;rw[if_neg (by omega)];exact h3
theorem FD {α β:Type}{c:α→α→Int}{d:β→β→Int}(h:TO c)(k:TO d):TO (fun p q:α×β=>orI (c p.1 q.1) (d p.2 q.2)):=by
 refine⟨fun p q=>?_,fun p q=>?_,fun p q r h1 h2=>?_⟩
 ·show orI (c p.1 q.1) (d p.2 q.2)=0↔_;unfold orI;rw[Prod.ext_iff,←h.zero p.1 q.1,←k.zero p.2 q.2];split<;>simp_all
 ·show orI (c p.1 q.1) (d p.2 q.2)<0↔0<orI (c q.1 p.1) (d q.2 p.2);unfold orI;by_cases e:c p.1 q.1=0
  ·have e2:c q.1 p.1=0:=(by rw[h.zero] at e ⊢;exact e.symm);rw[if_pos e,if_pos e2];exact k.anti _ _
  ·have e2:c q.1 p.1≠0:=fun e'=>e (by rw[h.zero] at e' ⊢;exact e'.symm)
   rw[if_neg e,if_neg e2];exact h.anti _ _
 ·have h1':orI (c p.1 q.1) (d p.2 q.2)<0:=h1;have h2':orI (c q.1 r.1) (d q.2 r.2)<0:=h2;show orI (c p.1 r.1) (d p.2 r.2)<0;unfold orI at *
  by_cases e:c p.1 q.1=0
  ·rw[if_pos e] at h1';have e':=(h.zero _ _).1 e;rw[←e'] at h2';by_cases e2:c p.1 r.1=0
   ·rw[if_pos e2] at h2' ⊢;exact k.trans _ _ _ h1' h2'
   ·rw[if_neg e2] at h2' ⊢;exact h2'
  ·rw[if_neg e] at h1';by_cases e2:c q.1 r.1=0
   ·have e':=(h.zero _ _).1 e2;rw[←e',if_neg e];exact h1'
   ·rw[if_neg e2] at h2';have h3:=h.trans _ _ _ h1' h2';rw[if_neg (by omega)];exact h3
abbrev Plc:=Int×List Int×List Str
def cmpP (p q:Plc):Int:=orI (cmpI p.1 q.1) (orI (dN cmpI p.2.1 q.2.1) (dN cmpS p.2.2 q.2.2))
theorem iE:TO cmpP:=FD AO (FD (AP AO) (AP E0))
def plc (x:Res):Plc:=(x.edge,x.step,x.at_)
theorem kY (a b:Res):dP a b=cmpP (plc a) (plc b):=rfl
theorem zp (e:Int)(st:List Int)(ks:List Str)(x:Res):kU e st ks x=decide (plc x=(e,st,ks)):=by unfold kU;rw[Bool.eq_iff_iff,decide_eq_true_eq,decide_eq_true_eq,kY,iE.zero];exact Iff.rfl
def fnd (p:Plc)(l:List Res):Option Res:=fj p.1 p.2.1 p.2.2 l
def drp (p:Plc)(l:List Res):List Res:=dX p.1 p.2.1 p.2.2 l
@[simp] theorem Dm (p:Plc):fnd p []=none:=rfl
theorem eX (p:Plc)(x:Res)(l:List Res):fnd p (x::l)=if plc x=p then some x else fnd p l:=by unfold fnd;rw[fj,zp];simp
theorem qw (p:Plc)(x:Res)(l:List Res):drp p (x::l)=if plc x=p then drp p l else x::drp p l:=by unfold drp;rw[dX,zp];simp
theorem nw {p:Plc}{l:List Res}{x:Res}(h:fnd p l=some x):plc x=p∧x∈l:=by
 induction l with
 |nil=>cases h
 |cons y l ih=>
  rw[eX] at h;split at h
  ·cases h;rename_i e;exact⟨e,by simp⟩
  ·exact⟨(ih h).1,by simp[(ih h).2]⟩
theorem vM (p q:Plc)(l:List Res):fnd q (drp p l)=if q=p then none else fnd q l:=by
 induction l with
 |nil=>simp[drp,dX]
 |cons x l ih=>
  rw[qw];split
  ·rename_i e;rw[ih,eX];by_cases e2:q=p
   ·simp[e2]
   ·rw[if_neg e2,if_neg e2,if_neg (by rw[e];exact fun e=>e2 e.symm)]
  ·rename_i e;rw[eX,eX,ih];by_cases e2:q=p
   ·subst e2;simp[e]
   ·simp[e2]
theorem Bj (q:Plc)(x:Res)(l:List Res)(h:fnd (plc x) l=none):fnd q (iH x l)=if q=plc x then some x else fnd q l:=by
 induction l with
 |nil=>simp only[iH,eX,Dm];by_cases e:q=plc x<;>simp[e,eq_comm]
 |cons y l ih=>
  rw[eX] at h;split at h
  ·cases h
  ·rename_i e;unfold iH;split
   ·rw[eX];by_cases e2:q=plc x
    ·simp[e2]
    ·rw[if_neg e2,if_neg (fun e=>e2 e.symm)]
   ·rw[eX,ih h,eX];by_cases e2:q=plc x
    ·subst e2;simp[e]
    ·simp[e2]
theorem va (l:List Res)(x:Res):jV l x=iH x (drp (plc x) l):=rfl
theorem Bk (q:Plc)(x:Res)(l:List Res):fnd q (jV l x)=if q=plc x then some x else fnd q l:=by rw[va,Bj q x _ (by rw[vM,if_pos rfl]),vM];split<;>rfl
def srt (l:List Res):Prop:=l.Pairwise fun a b=>cmpP (plc a) (plc b)<0
theorem vl (p:Plc){l:List Res}(h:srt l):srt (drp p l)∧∀x∈drp p l,x∈l∧plc x≠p:=by
 induction l with
 |nil=>exact⟨h,by simp[drp,dX]⟩
 |cons x l ih=>
  unfold srt at h;rw[List.pairwise_cons] at h;obtain⟨i1,i2⟩:=ih h.2;rw[qw];split
  ·exact⟨i1,fun y hy=>⟨by simp[(i2 y hy).1],(i2 y hy).2⟩⟩
  ·rename_i e;refine⟨?_,fun y hy=>?_⟩
   ·unfold srt;rw[List.pairwise_cons];exact⟨fun y hy=>h.1 y (i2 y hy).1,i1⟩
   ·rcases List.mem_cons.1 hy with rfl|hy
    ·exact⟨by simp,e⟩
    ·exact⟨by simp[(i2 y hy).1],(i2 y hy).2⟩
theorem CE {x y:Res}{l:List Res}:y∈iH x l↔y=x∨y∈l:=by
 induction l with
 |nil=>simp[iH]
 |cons z l ih=>
  unfold iH;split
  ·simp
  ·simp only[List.mem_cons,ih];constructor
   ·rintro(h|h|h)<;>simp[h]
   ·rintro(h|h|h)<;>simp[h]
theorem Cd (x:Res){l:List Res}(h:srt l)(hn:∀y∈l,plc y≠plc x):srt (iH x l):=by
 induction l with
 |nil=>simp[iH,srt]
 |cons y l ih=>
  unfold srt at h;rw[List.pairwise_cons] at h;have hy:cmpP (plc y) (plc x)≠0:=fun e=>hn y (by simp) ((iE.zero _ _).1 e)
  unfold iH;split
  ·rename_i hc;rw[kY] at hc;have hlt:cmpP (plc x) (plc y)<0:=(iE.anti _ _).2 (by omega);unfold srt;rw[List.pairwise_cons,List.pairwise_cons];refine⟨fun z hz=>?_,h⟩;rcases List.mem_cons.1 hz with rfl|hz
   ·exact hlt
   ·exact iE.trans _ _ _ hlt (h.1 z hz)
  ·rename_i hc;rw[kY] at hc;unfold srt;rw[List.pairwise_cons];refine⟨fun z hz=>?_,ih h.2 fun z hz=>hn z (by simp[hz])⟩;rcases CE.1 hz with rfl|hz
   ·omega
   ·exact h.1 z hz
theorem sB (x:Res){l:List Res}(h:srt l):srt (jV l x):=by rw[va];exact Cd x (vl _ h).1 fun y hy=>((vl _ h).2 y hy).2
theorem vN {l:List Res}(h:srt l){x:Res}(hx:x∈l):fnd (plc x) l=some x:=by
 induction l with
 |nil=>cases hx
 |cons y l ih=>
  unfold srt at h;rw[List.pairwise_cons] at h;rw[eX];rcases List.mem_cons.1 hx with rfl|hx
  ·simp
  ·rw[if_neg,ih h.2 hx];intro e;have:=h.1 x hx;rw[(iE.zero _ _).2 e] at this;omega
theorem AJ:∀{l m:List Res},srt l→srt m→(∀p,fnd p l=fnd p m)→l=m
 |[],[],_,_,_=>rfl
 |[],y::m,_,_,h=>by have:=h (plc y);rw[eX,if_pos rfl] at this;cases this
 |x::l,[],_,_,h=>by have:=h (plc x);rw[eX,if_pos rfl] at this;cases this
 |x::l,y::m,hl,hm,h=>by
  have h1:=h (plc x);have h2:=h (plc y);rw[vN hl (by simp)] at h1;rw[vN hm (by simp)] at h2;have m1:=(nw h1.symm).2;have m2:=(nw h2).2;have hl':=List.pairwise_cons.1 hl;have hm':=List.pairwise_cons.1 hm;have e:x=y:=by
   rcases List.mem_cons.1 m1 with e|m1
   ·exact e
   ·rcases List.mem_cons.1 m2 with e|m2
    ·exact e.symm
    ·have a:=hm'.1 x m1;have b:=hl'.1 y m2;have:=(iE.anti _ _).1 a;omega
  subst e;congr 1;refine AJ hl'.2 hm'.2 fun p=>?_
  have hp:=h p;rw[eX,eX] at hp;by_cases e:plc x=p
  ·have none_of:∀r:List Res,(∀z∈r,cmpP (plc x) (plc z)<0)→fnd p r=none:=by
    intro r hr;cases hf:fnd p r with
    |none=>rfl
    |some z=>obtain⟨q1,q2⟩:=nw hf;have:=hr z q2;rw[q1,e,(iE.zero _ _).2 rfl] at this;omega
   rw[none_of l hl'.1,none_of m hm'.1]
  ·rwa[if_neg e,if_neg e] at hp
def cH (f:Flds):Prop:=(f.map (·.1)).Nodup
def eqM (f g:Flds):Prop:=∀n,bI n f=bI n g
theorem eqM.refl (f:Flds):eqM f f:=fun _=>rfl
theorem eqM.symm {f g:Flds}(h:eqM f g):eqM g f:=fun n=>(h n).symm
theorem eqM.trans {f g k:Flds}(h:eqM f g)(h':eqM g k):eqM f k:=fun n=>(h n).trans (h' n)
@[simp] theorem Hx (n:Str):bI n []=none:=rfl
theorem cc (n:Str)(p:Str×Doc)(f:Flds):bI n (p::f)=if p.1=n then some p.2 else bI n f:=by obtain⟨k,d⟩:=p;rfl
theorem tw {n:Str}{f:Flds}:bI n f=none↔n∉f.map (·.1):=by
 induction f with
 |nil=>simp
 |cons p f ih=>
  rw[cc,List.map_cons,List.mem_cons,not_or,←ih];by_cases e:p.1=n
  ·simp[e]
  ·simp[e,Ne.symm e]
theorem oC {n:Str}{x:Doc}{f:Flds}(h:bI n f=some x):(n,x)∈f:=by
 induction f with
 |nil=>cases h
 |cons p f ih=>
  rw[cc] at h;split at h
  ·rename_i e;cases h;subst e;simp
  ·simp[ih h]
theorem ig {f:Flds}(hn:cH f){p:Str×Doc}(h:p∈f):bI p.1 f=some p.2:=by
 induction f with
 |nil=>cases h
 |cons q f ih=>
  unfold cH at hn;rw[List.map_cons,List.nodup_cons] at hn;rw[cc];rcases List.mem_cons.1 h with rfl|h
  ·simp
  ·rw[if_neg (fun e=>hn.1 (by rw[e];exact List.mem_map.2 ⟨p,h,rfl⟩)),ih hn.2 h]
theorem bL (n m:Str)(x:Doc)(f:Flds):bI n (ar m x f)=if m=n then some x else bI n f:=by
 induction f with
 |nil=>rfl
 |cons p f ih=>
  obtain⟨k,d⟩:=p;unfold ar;split
  ·rename_i e;subst e;rw[cc,cc];by_cases e:k=n<;>simp[e]
  ·rename_i e;rw[cc,ih,cc];by_cases e2:m=n
   ·subst e2;simp[e]
   ·simp[e2]
theorem CA (m:Str)(x:Doc)(f:Flds):(ar m x f).map (·.1)=if m∈f.map (·.1) then f.map (·.1) else f.map (·.1)++[m]:=by
 induction f with
 |nil=>rfl
 |cons p f ih=>
  obtain⟨k,d⟩:=p;unfold ar;split
  ·rename_i e;subst e;simp
  ·rename_i e;rw[List.map_cons,ih,List.map_cons];have e':¬m=k:=fun e'=>e e'.symm
   simp only[List.mem_cons,e',false_or];split<;>simp
theorem bV {f:Flds}(m:Str)(x:Doc)(h:cH f):cH (ar m x f):=by
 unfold cH at *
 rw[CA];split
 ·exact h
 ·rename_i e;rw[List.nodup_append];exact⟨h,by simp,fun a ha b hb=>by simp at hb;subst hb;exact fun e'=>e (e' ▸ ha)⟩
theorem Bz {m n:Str}{f:Flds}(h:n∈(dq m f).map (·.1)):n∈f.map (·.1):=by
 induction f with
 |nil=>cases h
 |cons p f ih=>
  obtain⟨k,d⟩:=p;unfold dq at h;split at h
  ·simp[h]
  ·rw[List.map_cons,List.mem_cons] at h ⊢;rcases h with h|h
   ·exact .inl h
   ·exact .inr (ih h)
theorem gc {f:Flds}(m:Str)(h:cH f):cH (dq m f):=by
 induction f with
 |nil=>exact h
 |cons p f ih=>
  obtain⟨k,d⟩:=p;unfold cH at *
  rw[List.map_cons,List.nodup_cons] at h;unfold dq;split
  ·exact h.2
  ·rw[List.map_cons,List.nodup_cons];exact⟨fun hm=>h.1 (Bz hm),ih h.2⟩
theorem dh (n m:Str){f:Flds}(h:cH f):bI n (dq m f)=if m=n then none else bI n f:=by
 induction f with
 |nil=>simp[dq]
 |cons p f ih=>
  obtain⟨k,d⟩:=p;unfold cH at h;rw[List.map_cons,List.nodup_cons] at h;unfold dq;split
  ·rename_i e;subst e;rw[cc];by_cases e2:k=n
   ·subst e2;rw[if_pos rfl];exact tw.2 h.1
   ·simp[e2]
  ·rename_i e;rw[cc,ih h.2,cc];by_cases e2:m=n
   ·subst e2;simp[e]
   ·simp[e2]
def mz (f:Flds):Prop:=f.Pairwise fun p q=>ltS p.1 q.1=true
theorem xN {p q:Str×Doc}{f:Flds}:q∈mu p f↔q=p∨q∈f:=by
 induction f with
 |nil=>simp[mu]
 |cons z f ih=>
  unfold mu;split
  ·simp
  ·simp only[List.mem_cons,ih];constructor
   ·rintro(h|h|h)<;>simp[h]
   ·rintro(h|h|h)<;>simp[h]
theorem iR {q:Str×Doc}{f:Flds}:q∈cQ f↔q∈f:=by
 induction f with
 |nil=>simp[cQ]
 |cons p f ih=>rw[cQ,xN,ih,List.mem_cons]
theorem Cc {p:Str×Doc}{f:Flds}(h:mz f)(hn:∀q∈f,q.1≠p.1):mz (mu p f):=by
 induction f with
 |nil=>simp[mu,mz]
 |cons q f ih=>
  unfold mz at h;rw[List.pairwise_cons] at h;unfold mu;split
  ·rename_i hc;unfold mz;rw[List.pairwise_cons,List.pairwise_cons];refine⟨fun z hz=>?_,h⟩;rcases List.mem_cons.1 hz with rfl|hz
   ·exact hc
   ·exact aa hc (h.1 z hz)
  ·rename_i hc;unfold mz;rw[List.pairwise_cons];refine⟨fun z hz=>?_,ih h.2 fun z hz=>hn z (by simp[hz])⟩;rcases xN.1 hz with rfl|hz
   ·exact aQ (by simpa using hc) (hn q (by simp)).symm
   ·exact h.1 z hz
theorem gG {f:Flds}(h:cH f):mz (cQ f):=by
 induction f with
 |nil=>exact List.Pairwise.nil
 |cons p f ih=>unfold cH at h;rw[List.map_cons,List.nodup_cons] at h;exact Cc (ih h.2) fun q hq e=>h.1 (by rw[←e];exact List.mem_map.2 ⟨q,iR.1 hq,rfl⟩)
theorem oX {f:Flds}(h:mz f):cH f:=by
 unfold cH mz at *
 rw[List.Nodup,List.pairwise_map];exact h.imp fun hab=>lv hab
theorem Bo {f g:Flds}(hf:cH f)(hg:cH g)(h:∀p,p∈f↔p∈g):eqM f g:=by
 intro n;cases h1:bI n f with
 |some x=>have:=ig hg ((h _).1 (oC h1));exact this.symm
 |none=>
  cases h2:bI n g with
  |none=>rfl
  |some x=>have:=ig hf ((h _).2 (oC h2));simp only at this;rw[h1] at this;cases this
theorem jh {f:Flds}(h:cH f):eqM (cQ f) f:=Bo (oX (gG h)) h fun _=>iR
theorem rz:∀{f g:Flds},mz f→mz g→eqM f g→f=g
 |[],[],_,_,_=>rfl
 |[],q::g,_,_,h=>by have:=h q.1;rw[cc,if_pos rfl] at this;cases this
 |p::f,[],_,_,h=>by have:=h p.1;rw[cc,if_pos rfl] at this;cases this
 |p::f,q::g,hf,hg,h=>by
  have hf':=List.pairwise_cons.1 hf;have hg':=List.pairwise_cons.1 hg;have h1:=h p.1;have h2:=h q.1;rw[cc,if_pos rfl] at h1;rw[cc (n:=q.1) (p:=q),if_pos rfl] at h2;have m1:=oC h1.symm;have m2:=oC h2;have e:p=q:=by
   rcases List.mem_cons.1 m1 with e|m1
   ·exact e
   ·rcases List.mem_cons.1 m2 with e|m2
    ·exact e.symm
    ·have a:=hg'.1 _ m1;have b:=hf'.1 _ m2;rw[aR a] at b;cases b
  subst e;congr 1;refine rz hf'.2 hg'.2 fun n=>?_
  have hn:=h n;rw[cc,cc] at hn;by_cases e:p.1=n
  ·have none_of:∀r:Flds,(∀z∈r,ltS p.1 z.1=true)→bI n r=none:=(by intro r hr;rw[tw];intro hm;obtain⟨z,hz,hz2⟩:=List.mem_map.1 hm;exact lv (hr z hz) (e.trans hz2.symm));rw[none_of f hf'.1,none_of g hg'.1]
  ·rwa[if_neg e,if_neg e] at hn
theorem kQ {f g:Flds}(hf:cH f)(hg:cH g)(h:eqM f g):ay f=ay g:=by have:cQ f=cQ g:=rz (gG hf) (gG hg) ((jh hf).trans (h.trans (jh hg).symm));unfold ay;rw[this]
theorem nR:∀(ks:List Str)(ds:List Doc)(f:Flds),cH f→cH (cT f ks ds)
 |[],_,f,h=>by unfold cT;exact h
 |_::_,[],f,h=>by unfold cT;exact h
 |k::ks,d::ds,f,h=>by rw[cT];exact nR ks ds _ (bV k d h)
theorem dR (d:Doc):cH (ofD d):=nR _ _ _ (by simp[cH])
theorem rU {n:Str}:∀{ks:List Str}{ds:List Doc},n∉ks→eL n ks ds=none
 |[],_,_=>by simp[eL]
 |_::_,[],_=>by simp[eL]
 |k::ks,d::ds,h=>by rw[List.mem_cons,not_or] at h;rw[eL,if_neg (fun e=>h.1 e.symm),rU h.2]
theorem pf (n:Str):∀(ks:List Str)(ds:List Doc)(f:Flds),ks.Nodup→bI n (cT f ks ds)=(eL n ks ds).or (bI n f)
 |[],_,f,_=>by simp[cT,eL]
 |_::_,[],f,_=>by simp[cT,eL]
 |k::ks,d::ds,f,h=>by
  rw[List.nodup_cons] at h;rw[cT,pf n ks ds _ h.2,bL,eL];by_cases e:k=n
  ·subst e;rw[rU h.1];simp
  ·simp[e]
theorem oD {d:Doc}(h:d.keys.Nodup)(n:Str):bI n (ofD d)=eL n d.keys d.kids:=by unfold ofD;rw[pf n _ _ _ h];cases eL n d.keys d.kids<;>rfl
theorem me (n:Str):∀f:Flds,eL n (f.map (·.1)) (f.map (·.2))=bI n f
 |[]=>rfl
 |p::f=>by rw[List.map_cons,List.map_cons,eL,cc,me n f]
theorem ij {f:Flds}(h:cH f):eqM (ofD (ay f)) f:=by intro n;rw[oD (d:=ay f) (oX (gG h))];exact(me n (cQ f)).trans (jh h n)
theorem A6:∀{ks:List Str}{ds:List Doc},ks.length=ds.length→(ks.zip ds).map (·.1)=ks∧(ks.zip ds).map (·.2)=ds
 |[],[],_=>⟨rfl,rfl⟩
 |[],_::_,h=>by cases h
 |_::_,[],h=>by cases h
 |k::ks,d::ds,h=>by obtain⟨h1,h2⟩:=A6 (ks:=ks) (ds:=ds) (by simpa using h);simp[h1,h2]
theorem Ba {d:Doc}(hk:d.kind=1)(hn:d.num=0)(hs:d.str=[])(hl:d.keys.length=d.kids.length)(ho:d.keys.Pairwise fun a b=>ltS a b=true):ay (ofD d)=d:=by
 obtain⟨z1,z2⟩:=A6 hl;have hz:mz (d.keys.zip d.kids):=by unfold mz;rw[←z1,List.pairwise_map] at ho;exact ho
 have hnd:d.keys.Nodup:=ho.imp fun h=>lv h
 have e:cQ (ofD d)=d.keys.zip d.kids:=by refine rz (gG (dR d)) hz ((jh (dR d)).trans fun n=>?_);rw[oD hnd,←me n (d.keys.zip d.kids),z1,z2]
 unfold ay;rw[e,z1,z2];obtain⟨k,n,s,ks,ds⟩:=d;simp only[Doc.kind,Doc.num,Doc.str] at hk hn hs;subst hk;subst hn;subst hs;rfl
theorem An (rec:Bool)(p:Option Str)(s:Str)(r:List Str):fi rec p (s::r)=((match p with|none=>true|some q=>ltS q s)&&(!rec||dA s)&&decide (s.length≤256)&&fi rec (some s) r):=by cases p<;>rfl
theorem iP (rec:Bool):∀(p:Option Str)(ks:List Str),fi rec p ks=true↔(∀q,p=some q→∀s∈ks,ltS q s=true)∧(ks.Pairwise fun a b=>ltS a b=true)∧(rec=true→∀s∈ks,dA s=true)∧∀s∈ks,s.length≤256
 |p,[]=>by simp[fi]
 |p,s::r=>by
  rw[An,Bool.and_eq_true,Bool.and_eq_true,Bool.and_eq_true,iP rec (some s) r,List.pairwise_cons];simp only[decide_eq_true_eq,Bool.or_eq_true,Bool.not_eq_true',List.mem_cons];constructor
  ·rintro⟨⟨⟨h1,h2⟩,h3⟩,h4,h5,h6,h7⟩;refine⟨?_,⟨h4 s rfl,h5⟩,?_,?_⟩
   ·rintro q rfl x (rfl|hx)
    ·exact h1
    ·exact aa h1 (h4 s rfl x hx)
   ·rintro hr x (rfl|hx)
    ·rcases h2 with h2|h2
     ·rw[hr] at h2;cases h2
     ·exact h2
    ·exact h6 hr x hx
   ·rintro x (rfl|hx)
    ·exact h3
    ·exact h7 x hx
  ·rintro⟨h1,⟨h4,h5⟩,h6,h7⟩;refine⟨⟨⟨?_,?_⟩,h7 s (.inl rfl)⟩,?_,h5,fun hr x hx=>h6 hr x (.inr hx),fun x hx=>h7 x (.inr hx)⟩
   ·cases p with
    |none=>rfl
    |some q=>exact h1 q rfl s (.inl rfl)
   ·cases hr:rec with
    |false=>exact .inl rfl
    |true=>exact .inr (h6 hr s (.inl rfl))
   ·rintro q hq x hx;cases hq;exact h4 x hx
end Go.V
end
