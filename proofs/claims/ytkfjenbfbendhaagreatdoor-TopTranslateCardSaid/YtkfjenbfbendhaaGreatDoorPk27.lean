/-
  A part of a proof: A13 N1 N2 N3 N4 N5 N6 N7 U13.
-/
import Derived.Test.YtkfjenbfbendhaaGreatDoorPk22
import Derived.Test.YtkfjenbfbendhaaGreatDoorPk26
set_option linter.unusedSimpArgs false
set_option linter.unusedVariables false
section
set_option maxHeartbeats 4000000
namespace Go.V
open Go Go.Proofs
attribute [local irreducible] W bM WD aO yl aU bU
section
variable (Γ:Glo Tryz.prog)
attribute [local simp] veq bD eD V.del
theorem f32 (X:XOk Γ)(H:fQ Γ)(t:Ty)(l:List Lns)(e:Int)(bk:Bool)(s:St)(s1:St)(needs:List Res)(err:Int)(ht:wT t<big)(hl:wNs l<30000000000)(hs:wRs s.res+wD s.doc<20000000000)(hg:jx t l e bk s=some (s1,needs,err)) :
  PureOk Tryz.prog Γ 32 [.ag (cTy t),sls aL l,.int .i64 e,.bool bk,.ag (cSt s)] (goV s1 needs err)∧wRs s1.res+wD s1.doc<20000000000:=by
 have hz:wRs bu.res+wD bu.doc<20000000000:=by simp[bu,zeroDoc,wRs,wD,cw,wDs]
 unfold jx at hg;simp only at hg;by_cases he:(bH t (if bk then ba l else l)).2.2=0;case neg=>rw[if_pos he] at hg;cases hg;exact⟨f32e Γ H t l e bk s ht hl he,hz⟩
 rw[if_neg (fun h=>h he)] at hg;by_cases hr:bC s.res=false
 ·rw[if_pos hr] at hg;cases hg;exact⟨f32r Γ H t l e bk s ht hl (by unfold big;omega) he hr,hz⟩
 rw[if_neg hr] at hg;have hr':bC s.res=true:=by simpa using hr
 by_cases hv:cD t s.doc=false
 ·rw[if_pos hv] at hg;cases hg;exact⟨f32v Γ H t l e bk s ht hl (by unfold big;omega) he hr' hv,hz⟩
 rw[if_neg hv] at hg;have hv':cD t s.doc=true:=by simpa using hv
 by_cases ho:okK s.doc=true;case neg=>rw[if_neg ho] at hg;cases hg
 rw[if_pos ho] at hg;cases hrun:eb e bk l 0 [] [] ⟨s.res,[],0⟩ (ofD s.doc) with
 |none=>rw[hrun] at hg;cases hg
 |some p=>
  obtain⟨w,f⟩:=p;rw[hrun] at hg;simp only at hg;by_cases herr:w.err=0;case neg=>rw[if_pos herr] at hg;cases hg;exact⟨f32x Γ X H t l e bk s w f ht hl hs he hr' hv' ho hrun herr,hz⟩
  rw[if_neg (fun h=>h herr)] at hg;by_cases hq:bC w.res=false
  ·rw[if_pos hq] at hg;cases hg;exact⟨f32y Γ X H t l e bk s w f ht hl hs he hr' hv' ho hrun herr hq,hz⟩
  rw[if_neg hq] at hg;have hq':bC w.res=true:=(by simpa using hq);by_cases hd:dS (ay f)=false
  ·rw[if_pos hd] at hg;cases hg;exact⟨f32z Γ X H t l e bk s w f ht hl hs he hr' hv' ho hrun herr hq' hd,hz⟩
  rw[if_neg hd] at hg;have hd':dS (ay f)=true:=(by simpa using hd);cases hg;refine⟨f32w Γ X H t l e bk s w f ht hl hs he hr' hv' ho hrun herr hq' hd',?_⟩;have hsm:dV w f=true:=(by cases bk;exact(ip hrun).2.1;exact(io hrun).2.1);unfold dV lim at hsm;have:=of_decide_eq_true hsm;simp only[iF];omega
theorem f10 (X:XOk Γ)(H:fQ Γ)(t:Ty)(l:List Lns)(e:Int)(bk:Bool)(s:St)(s1:St)(err:Int)(ht:wT t<big)(hl:wNs l<30000000000)(hs:wRs s.res+wD s.doc<20000000000)(hg:goB t l e bk s=some (s1,err)) :
  PureOk Tryz.prog Γ 10 [.ag (cTy t),sls aL l,.int .i64 e,.bool bk,.ag (cSt s)] (.tp [.ag (cSt s1),.int .i64 err])∧wRs s1.res+wD s1.doc<20000000000:=by
 obtain⟨needs,hg'⟩:∃needs,jx t l e bk s=some (s1,needs,err):=by
  unfold goB at hg;cases h:jx t l e bk s with
  |none=>rw[h] at hg;cases hg
  |some p=>obtain⟨a,b,c⟩:=p;rw[h] at hg;cases hg;exact⟨b,rfl⟩
 obtain⟨h32,hb⟩:=f32 Γ X H t l e bk s s1 needs err ht hl hs hg';refine⟨?_,hb⟩;have h33:=f33 Γ s1 (by unfold big;omega);have ht6:List.take 6 (cTy t)=cTy t:=List.take_of_length_le (by rw[bG];omega);have hd6:List.take 6 (cSt s)=cSt s:=List.take_of_length_le (by rw[fm];simp);have hd61:List.take 6 (cSt s1)=cSt s1:=List.take_of_length_le (by rw[fm];simp);have hl6:(cSt s).length=6:=by rw[fm];simp
 have hl61:(cSt s1).length=6:=by rw[fm];simp
 have hc1:aE (cSt s1)=true:=by rw[fm];simp
 unfold goV at h32;clear hg hg' hb;refine Y5 28 Tryz.func10 rfl rfl fun a hl g0 g1 g2 g3 g4=>?_
 refine GG ?_;all_goals (try (refine aC h32 ?_))
 refine GG ?_;all_goals (try (refine aC h33 ?_))
 refine GG ?_;exact⟨by simp,.tp [.ag (cSt s1),.int .i64 err],5,by simp[Tryz.f10,V.get, *],aG (by simp[Val.closed,aE,hc1])⟩
def eK {α:Type}(c:Int)(g:α→Int):List α→Int→Option Int
 |[],b=>some b
 |t::r,b=>if g t=0∨b-c+g t≤1 then none else eK c g r (b-c+g t)
def fF:Nat→Ty→Int
 |0,_=>0
 |n+1,t=>if 60<t.fields.length∨60<t.of.length∨60<t.names.length then 0
  else if t.names.any (fun s=>decide (300<s.length)) then 0
  else if t.fields.any (fun f=>decide (100<f.name.length)) then 0
  else match eK 200 (fF n) (t.fields.map (·.ty)++t.of) 200 with
   |some b=>b-1
   |none=>0
theorem kR {α:Type}{c:Int}{g:α→Int}:∀{a b:List α}{n m:Int},eK c g a n=some m→eK c g (a++b) n=eK c g b m
 |[],b,n,m,h=>by cases h;rfl
 |x::a,b,n,m,h=>by
  rw[eK] at h;rw[List.cons_append,eK];split at h
  ·cases h
  ·rename_i hc;rw[if_neg hc];exact kR h
theorem le {α:Type}{c:Int}{g:α→Int}(hg:∀x,g x≤c):∀{a:List α}{n m:Int},eK c g a n=some m→m≤n∧(1<n→1<m)
 |[],n,m,h=>by cases h;exact⟨by omega,fun h=>h⟩
 |x::a,n,m,h=>by
  rw[eK] at h;split at h
  ·cases h
  ·rename_i hc;have h1:=le hg h;have h2:=hg x;exact⟨by omega,fun _=>h1.2 (by omega)⟩
theorem nr:∀(n:Nat)(t:Ty),fF n t≤199∧0≤fF n t
 |0,t=>by simp[fF]
 |n+1,t=>by
  rw[fF];split
  ·omega
  ·split
   ·omega
   ·split
    ·omega
    ·cases h:eK 200 (fF n) (t.fields.map (·.ty)++t.of) 200 with
     |none=>simp
     |some b=>have hh:=le (fun x=>by have:=(nr n x).1;omega) h;have h1:=hh.2 (by omega);have h2:=hh.1;simp only;omega
theorem f24z (t:Ty):PureOk Tryz.prog Γ 24 [.ag (cTy t),.int .i64 0] (.int .i64 0):=by
 refine Y2 111 Tryz.func24 rfl rfl fun a hl g0 g1=>?_
 refine GG ?_;all_goals exact⟨by simp,.int .i64 0,1,by simp[Tryz.f24, *],rfl⟩
theorem f24a (t:Ty)(n:Int)(hn:0<n)(h:60<t.fields.length∨60<t.of.length∨60<t.names.length):PureOk Tryz.prog Γ 24 [.ag (cTy t),.int .i64 n] (.int .i64 0):=by
 have hn':¬n≤0:=by omega
 by_cases h1:(60:Int)<t.fields.length
 ·refine Y2 111 Tryz.func24 rfl rfl fun a hl g0 g1=>?_
  refine GG ?_;all_goals exact⟨by simp,.int .i64 0,1,by simp[Tryz.f24, *],rfl⟩
 by_cases h2:(60:Int)<t.of.length
 ·refine Y2 111 Tryz.func24 rfl rfl fun a hl g0 g1=>?_
  refine GG ?_;all_goals exact⟨by simp,.int .i64 0,1,by simp[Tryz.f24, *],rfl⟩
 have h3:(60:Int)<t.names.length:=by omega
 refine Y2 111 Tryz.func24 rfl rfl fun a hl g0 g1=>?_
 refine GG ?_;all_goals exact⟨by simp,.int .i64 0,1,by simp[Tryz.f24, *],rfl⟩
theorem f24n (n:Nat)(hn0:n<1000)(t:Ty)(hs:¬(60<t.fields.length∨60<t.of.length∨60<t.names.length))(ih:∀x,PureOk Tryz.prog Γ 24 [.ag (cTy x),.int .i64 n] (.int .i64 (fF n x))):PureOk Tryz.prog Γ 24 [.ag (cTy t),.int .i64 ((n:Int)+1)] (.int .i64 (fF (n+1) t)):=by
 obtain⟨v,hv⟩:∃v,v=fF (n+1) t:=⟨_,rfl⟩;rw[←hv];rw[fF,if_neg hs] at hv;have hn':¬(n:Int)+1≤0:=by omega
 have hwn:=ac ((n:Int)+1-1) (by omega) (by omega);rw[show(n:Int)+1-1=n by omega] at hwn;have h1:¬(60:Int)<t.fields.length:=by omega
 have h2:¬(60:Int)<t.of.length:=by omega
 have h3:¬(60:Int)<t.names.length:=by omega
 have h4:t.fields.length≤60:=by omega
 have h5:t.of.length≤60:=by omega
 have h6:t.names.length≤60:=by omega
 have ht6:List.take 6 (cTy t)=cTy t:=List.take_of_length_le (by rw[bG];omega);clear hs;refine Y2 111 Tryz.func24 rfl rfl fun a hl g0 g1=>?_
 refine GG ?_;refine aq [(4,4),(30,43)] [5] (fun k a h=>∃pre rest,t.names=pre++rest∧pre.any (fun s=>decide (300<s.length))=false∧k=rest.length∧lk a 5=some (.int .i64 pre.length)∧h=[(0,.cells (cTy t) 26 false)]) ⟨[],t.names,rfl,rfl,rfl,by simp[*],rfl⟩ ?_;intro a1 hk hk0 k a h hF hI;replace g1:=hF.a hk 1;replace g2:=hF.a hk 2;replace hl:a.length=111:=hF.len.trans (hk0.trans (by simp[*]));clear hk hk0;obtain⟨pre,rest,hl1,hp,rfl,hix,rfl⟩:=hI;cases rest with
 |cons s r=>
  have z1:(pre.length:Int)<t.names.length:=(by rw[hl1];simp<;>omega);have z2:pre.length<t.names.length:=(by omega);have z3:pre.length≤t.names.length:=(by omega);have hrd:(row aZ t.names).drop pre.length=.str s::row aZ r:=(by rw[hl1];exact fz pre r s);have hk0:(row aZ t.names)[pre.length]?=some (.str s):=by
   have h:=congrArg (fun l:List Val=>l[0]?) hrd
   simpa using h
  have hw:=ac ((pre.length:Int)+1) (by omega) (by omega);have hlR:(row aZ t.names).length=t.names.length:=gq _;by_cases hsl:(300:Int)<s.length
  ·have hv0:v=0:=(by rw[hv,if_pos];rw[hl1,List.any_append,List.any_cons];have:300<s.length:=(by omega);simp[this]);clear hv hl1 hlR;rw[hv0];clear hv0;refine GG ?_;exact⟨by simp,.int .i64 0,1,by simp[Tryz.f24, *],rfl⟩
  ·have hp':(pre++[s]).any (fun s=>decide (300<s.length))=false:=(by rw[List.any_append,hp];have:¬300<s.length:=(by omega);simp[this]);have q1:t.names=(pre++[s])++r:=(by rw[hl1];simp);replace q1:Hid t.names ((pre++[s])++r):=q1;replace hp':Hid ((pre++[s]).any (fun s=>decide (300<s.length))) false:=hp';clear hv hl1 hp hlR;refine GG ?_;exact NX [(0,.cells (cTy t) 26 false)] fun a2 hF2=>⟨pre++[s],r,q1,hp',rfl,(hF2.q 5),rfl⟩
 |nil=>
  rw[List.append_nil] at hl1;have hge:¬(pre.length:Int)<t.names.length:=(by rw[hl1];omega);rw[hl1,if_neg (by rw[hp];simp)] at hv;clear hp;refine GG ?_;refine aq [(4,4),(44,58)] [6] (fun k a h=>∃pre rest,t.fields=pre++rest∧pre.any (fun f=>decide (100<f.name.length))=false∧k=rest.length∧lk a 6=some (.int .i64 pre.length)∧h=[(0,.cells (cTy t) 26 false)]) ⟨[],t.fields,rfl,rfl,rfl,by simp[*],rfl⟩ ?_;intro a1 hk hk0 k a h hF hI;replace g1:=hF.a hk 1;replace g2:=hF.a hk 2;replace hl:a.length=111:=hF.len.trans (hk0.trans (by simp[*]));clear hk hk0;obtain⟨pref,rest,hl2,hp,rfl,hix2,rfl⟩:=hI;cases rest with
  |cons f r=>
   have z1:(pref.length:Int)<t.fields.length:=(by rw[hl2];simp<;>omega);have z2:pref.length<t.fields.length:=(by omega);have z3:pref.length≤t.fields.length:=(by omega);have z4:pref.length*8≤t.fields.length*8:=(by omega);have hrd:(row ad t.fields).drop (pref.length*8)=.str f.name :: .bool f.opt::(cTy f.ty++row ad r):=(by rw[hl2,n9 pref r f,dw];rfl);have hw:=ac ((pref.length:Int)+1) (by omega) (by omega);by_cases hsl:(100:Int)<f.name.length
   ·have hv0:v=0:=(by rw[hv,if_pos];rw[hl2,List.any_append,List.any_cons];have:100<f.name.length:=(by omega);simp[this]);rw[hv0];clear hv hl2 hv0 hl1;refine GG ?_;exact⟨by simp,.int .i64 0,1,by simp[Tryz.f24, *],rfl⟩
   ·have hp':(pref++[f]).any (fun f=>decide (100<f.name.length))=false:=(by rw[List.any_append,hp];have:¬100<f.name.length:=(by omega);simp[this]);have q1:t.fields=(pref++[f])++r:=(by rw[hl2];simp);replace q1:Hid t.fields ((pref++[f])++r):=q1;replace hp':Hid ((pref++[f]).any (fun f=>decide (100<f.name.length))) false:=hp';clear hv hl2 hp hl1;refine GG ?_;exact NX [(0,.cells (cTy t) 26 false)] fun a2 hF2=>⟨pref++[f],r,q1,hp',rfl,(hF2.q 6),rfl⟩
  |nil=>
   rw[List.append_nil] at hl2;have hge2:¬(pref.length:Int)<t.fields.length:=(by rw[hl2];omega);rw[←hl2] at hp;rw[if_neg (by rw[hp];simp)] at hv;clear hp hl1 hge;refine GG ?_;obtain⟨C,hC⟩:∃C,C=t.fields.map (·.ty)++t.of:=⟨_,rfl⟩;rw[←hC] at hv;have hCl:C.length=t.fields.length+t.of.length:=(by rw[hC];simp);have hws:=ac ((t.fields.length:Int)+t.of.length) (by omega) (by omega);clear hix hl2 hge2 hix2;refine aq [(4,4),(9,9),(59,108)] [8,7] (fun k a h=>∃pre rest b,C=pre++rest∧eK 200 (fF n) pre 200=some b∧k=rest.length∧lk a 7=some (.int .i64 b)∧lk a 8=some (.int .i64 pre.length)∧h=[(0,.cells (cTy t) 26 false)]) ⟨[],C,200,rfl,rfl,rfl,by simp[*],by simp[*],rfl⟩ ?_;intro a1 hk hk0 k a h hF hI;replace g1:=hF.a hk 1;replace g2:=hF.a hk 2;replace hl:a.length=111:=hF.len.trans (hk0.trans (by simp[*]));clear hk hk0;obtain⟨pc,rest,b,hl3,hgo,rfl,h7,h8,rfl⟩:=hI;have hb1:=le (fun x=>by have:=(nr n x).1;omega) hgo;have hb2:=hb1.2 (by omega);have hb3:=hb1.1;cases rest with
   |nil=>rw[List.append_nil] at hl3;have hge3:¬(pc.length:Int)<t.fields.length+t.of.length:=(by rw[←hl3,hCl];omega);rw[←hl3] at hgo;rw[hgo] at hv;simp only at hv;have hwb:=ac (b-1) (by omega) (by omega);rw[hv];clear hv ih;refine GG ?_;exact⟨by simp,.int .i64 (b-1),1,by simp[Tryz.f24, *],rfl⟩
   |cons x r=>
    have hx:=ih x;have hx0:=(nr n x).1;have hx1:=(nr n x).2;have hpl:pc.length<t.fields.length+t.of.length:=(by rw[←hCl,hl3];simp);have z0:(pc.length:Int)<t.fields.length+t.of.length:=(by omega);have hw:=ac ((pc.length:Int)+1) (by omega) (by omega);have hwb:=ac (b-200) (by omega) (by omega);have hwc:=ac (b-200+fF n x) (by omega) (by omega);have hsn:eK 200 (fF n) C 200=eK 200 (fF n) (x::r) b:=(by rw[hl3];exact kR hgo);rw[eK] at hsn;rw[hsn] at hv;have hnx:eK 200 (fF n) (pc++[x]) 200=if fF n x=0∨b-200+fF n x≤1 then none else some (b-200+fF n x):=by
     rw[kR hgo,eK];split
     ·rfl
     ·rfl
    have hq:C=(pc++[x])++r:=(by rw[hl3];simp);replace hq:Hid C ((pc++[x])++r):=hq;generalize fF n x=k at *
    by_cases hf:pc.length<t.fields.length
    ·have hfi:(pc.length:Int)<t.fields.length:=(by omega);obtain⟨fp,f,fr,hfl,hfp⟩:∃fp f fr,t.fields=fp++f::fr∧fp.length=pc.length:=⟨t.fields.take pc.length,t.fields[pc.length],t.fields.drop (pc.length+1),by rw[List.getElem_cons_drop];simp,by simp;omega⟩;have hfx:f.ty=x:=(by have e1:C=(fp.map (·.ty))++f.ty::(fr.map (·.ty)++t.of):=(by rw[hC,hfl];simp);rw[hl3] at e1;have:=List.append_inj e1 (by simp[hfp]);simp at this;exact this.2.1.symm);subst hfx;have hrd:(row ad t.fields).drop (pc.length*8)=.str f.name :: .bool f.opt::(cTy f.ty++row ad fr):=(by rw[hfl,←hfp,n9 fp fr f,dw];rfl);have hta:List.take 6 (cTy f.ty++row ad fr)=cTy f.ty:=List.take_left' (bG _);have z3:pc.length≤t.fields.length:=(by omega);have z4:pc.length*8≤t.fields.length*8:=(by omega);clear hfl hfp hl3 hC hCl hgo hb1 hsn;by_cases hk0:k=0
     ·rw[if_pos (.inl hk0)] at hv;simp only at hv;rw[hv];clear hv hnx;subst hk0;refine GG ?_;all_goals (try (refine aC hx ?_))
      refine GG ?_;exact⟨by simp,.int .i64 0,1,by simp[Tryz.f24, *],rfl⟩
     by_cases hk1:b-200+k≤1
     ·rw[if_pos (.inr hk1)] at hv;simp only at hv;rw[hv];clear hv hnx;refine GG ?_;all_goals (try (refine aC hx ?_))
      refine GG ?_;exact⟨by simp,.int .i64 0,1,by simp[Tryz.f24, *],rfl⟩
     rw[if_neg (by omega)] at hnx;replace hnx:Hid (eK 200 (fF n) (pc++[f.ty]) 200) (some (b-200+k)):=hnx;clear hv;refine GG ?_;all_goals (try (refine aC hx ?_))
     refine GG ?_;exact NX [(0,.cells (cTy t) 26 false)] fun a2 hF2=>⟨pc++[f.ty],r,b-200+k,hq,hnx,rfl,(hF2.q 7),(hF2.q 8),rfl⟩
    ·have hfi:¬(pc.length:Int)<t.fields.length:=(by omega);obtain⟨j,hj⟩:∃j:Nat,pc.length=t.fields.length+j:=⟨pc.length-t.fields.length,by omega⟩;have hjl:j<t.of.length:=(by omega);obtain⟨op,y,orr,hol,hop⟩:∃op y orr,t.of=op++y::orr∧op.length=j:=⟨t.of.take j,t.of[j],t.of.drop (j+1),by rw[List.getElem_cons_drop];simp,by simp;omega⟩;have hyx:y=x:=(by have e1:C=(t.fields.map (·.ty)++op)++y::orr:=(by rw[hC,hol];simp);rw[hl3] at e1;have:=List.append_inj e1 (by simp[hop,hj]);simp at this;exact this.2.1.symm);subst hyx;have hrd:(row cTy t.of).drop (j*6)=cTy y++row cTy orr:=(by rw[hol,←hop];exact BZ op orr y);have hta:List.take 6 (cTy y++row cTy orr)=cTy y:=List.take_left' (bG _);have hwj:IntKind.i64.wrap ((pc.length:Int)-t.fields.length)=j:=(by rw[ac _ (by omega) (by omega)];omega);have z3:j≤t.of.length:=(by omega);have z4:j*6≤t.of.length*6:=(by omega);have z5:(j:Int)<t.of.length:=(by omega);have z6:(0:Int)≤j:=(by omega);clear hol hop hl3 hC hCl hgo hb1 hsn hj;by_cases hk0:k=0
     ·rw[if_pos (.inl hk0)] at hv;simp only at hv;rw[hv];clear hv hnx;subst hk0;refine GG ?_;all_goals (try (refine aC hx ?_))
      refine GG ?_;exact⟨by simp,.int .i64 0,1,by simp[Tryz.f24, *],rfl⟩
     by_cases hk1:b-200+k≤1
     ·rw[if_pos (.inr hk1)] at hv;simp only at hv;rw[hv];clear hv hnx;refine GG ?_;all_goals (try (refine aC hx ?_))
      refine GG ?_;exact⟨by simp,.int .i64 0,1,by simp[Tryz.f24, *],rfl⟩
     rw[if_neg (by omega)] at hnx;replace hnx:Hid (eK 200 (fF n) (pc++[y]) 200) (some (b-200+k)):=hnx;clear hv;refine GG ?_;all_goals (try (refine aC hx ?_))
     refine GG ?_;exact NX [(0,.cells (cTy t) 26 false)] fun a2 hF2=>⟨pc++[y],r,b-200+k,hq,hnx,rfl,(hF2.q 7),(hF2.q 8),rfl⟩
theorem f24:∀(n:Nat),n<1000→∀t:Ty,PureOk Tryz.prog Γ 24 [.ag (cTy t),.int .i64 n] (.int .i64 (fF n t))
 |0,_,t=>f24z Γ t
 |n+1,hn,t=>by
  by_cases hs:60<t.fields.length∨60<t.of.length∨60<t.names.length
  ·have h:=f24a Γ t ((n:Int)+1) (by omega) hs;rw[fF,if_pos hs];exact h
  ·exact f24n Γ n (by omega) t hs fun x=>f24 n (by omega) x
theorem f6 (t:Ty):PureOk Tryz.prog Γ 6 [.ag (cTy t)] (.bool (decide (0<fF 20 t))):=by
 have h:=f24 Γ 20 (by omega) t;simp only[Int.cast_ofNat_Int] at h;have ht6:List.take 6 (cTy t)=cTy t:=List.take_of_length_le (by rw[bG];omega);generalize fF 20 t=k at *
 by_cases hk:0<k
 ·refine Y1 6 Tryz.func6 rfl rfl fun a hl g0=>?_
  refine GG ?_;all_goals (try (refine aC h ?_))
  refine GG ?_;exact⟨by simp,.bool true,1,by simp[Tryz.f6, *],by simp[vw,Val.closed,hk]⟩
 ·refine Y1 6 Tryz.func6 rfl rfl fun a hl g0=>?_
  refine GG ?_;all_goals (try (refine aC h ?_))
  refine GG ?_;exact⟨by simp,.bool false,1,by simp[Tryz.f6, *],by simp[vw,Val.closed,hk]⟩
theorem tg {g:Ty→Int}{c:Int}{wt:Ty→Nat}{K:Nat}(hg:∀x,0<g x→(wt x:Int)≤K*(c-g x))(h0:∀x,0≤g x):∀{l:List Ty}{b m:Int},eK c g l b=some m→((l.map wt).sum:Int)≤K*(b-m)
 |[],b,m,h=>by cases h;simp
 |x::l,b,m,h=>by
  rw[eK] at h;split at h
  ·cases h
  ·rename_i hc;have h1:=tg hg h0 h;have h2:=hg x (by have:=h0 x;omega);have h3:(K:Int)*(b-m)=K*(b-c+g x-m)+K*(c-g x):=(by rw[←Int.mul_add];congr 1;omega);rw[List.map_cons,List.sum_cons,h3];omega
theorem AY:∀l:List Fld,(∀f∈l,f.name.length≤100)→wFs l≤101*l.length+((l.map (·.ty)).map wT).sum
 |[],_=>by simp[wFs]
 |f::l,h=>by
  rw[cv,List.map_cons,List.map_cons,List.sum_cons,List.length_cons];have h1:=h f (by simp);have h2:=AY l fun g hg=>h g (by simp[hg])
  omega
theorem A3:∀l:List Ty,wTs l=(l.map wT).sum
 |[]=>rfl
 |t::l=>by rw[wTs,List.map_cons,List.sum_cons,A3 l]
theorem yc:∀(n:Nat)(t:Ty),0<fF n t→(wT t:Int)≤25000*(200-fF n t)
 |0,t,h=>by simp[fF] at h
 |n+1,t,h=>by
  rw[fF] at h ⊢;split at h
  ·cases h
  rename_i h1;rw[if_neg h1];split at h
  ·cases h
  rename_i h2;rw[if_neg h2];split at h
  ·cases h
  rename_i h3;rw[if_neg h3];cases hg:eK 200 (fF n) (t.fields.map (·.ty)++t.of) 200 with
  |none=>rw[hg] at h;cases h
  |some b=>
   simp only;have hs:=tg (K:=25000) (wt:=wT) (fun x hx=>yc n x hx) (fun x=>(nr n x).2) hg;rw[List.map_append,List.sum_append] at hs;have hn:cw t.names≤t.names.length*301:=mP fun s hs=>by
    rcases Nat.lt_or_ge 300 s.length with h4|h4
    ·exfalso;apply h2;rw[List.any_eq_true];exact⟨s,hs,by simpa using h4⟩
    ·exact h4
   have hf:=AY t.fields fun f hf=>by
    rcases Nat.lt_or_ge 100 f.name.length with h4|h4
    ·exfalso;apply h3;rw[List.any_eq_true];exact⟨f,hf,by simpa using h4⟩
    ·exact h4
   rw[jA,A3];have e1:t.names.length≤60:=(by omega);have e2:t.fields.length≤60:=(by omega);have e3:t.names.length*301≤60*301:=Nat.mul_le_mul_right _ e1;have e4:101*t.fields.length≤101*60:=Nat.mul_le_mul_left _ e2;have e5:(((t.fields.map (·.ty)).map wT).sum+(t.of.map wT).sum:Nat)=((((t.fields.map (·.ty)).map wT).sum:Nat):Int)+(((t.of.map wT).sum:Nat):Int):=(by simp);omega
def fE:Nat→Doc→Int
 |0,_=>0
 |n+1,d=>if 600<d.kids.length∨600<d.keys.length∨600<d.str.length then 0
  else match eK 700 (fE n) d.kids 700 with
   |none=>0
   |some b=>if d.keys.any (fun s=>decide (600<s.length)) then 0 else b-1
theorem nq:∀(n:Nat)(d:Doc),fE n d≤699∧0≤fE n d
 |0,d=>by simp[fE]
 |n+1,d=>by
  rw[fE];split
  ·omega
  ·cases h:eK 700 (fE n) d.kids 700 with
   |none=>simp
   |some b=>have hh:=le (fun x=>by have:=(nq n x).1;omega) h;have h1:=hh.2 (by omega);have h2:=hh.1;simp only;split<;>omega
theorem f26z (d:Doc):PureOk Tryz.prog Γ 26 [.ag (aJ d),.int .i64 0] (.int .i64 0):=by
 refine Y2 73 Tryz.func26 rfl rfl fun a hl g0 g1=>?_
 refine GG ?_;all_goals exact⟨by simp,.int .i64 0,1,by simp[Tryz.f26, *],rfl⟩
theorem f26a (d:Doc)(n:Int)(hn:0<n)(h:600<d.kids.length∨600<d.keys.length∨600<d.str.length):PureOk Tryz.prog Γ 26 [.ag (aJ d),.int .i64 n] (.int .i64 0):=by
 have hn':¬n≤0:=by omega
 by_cases h1:(600:Int)<d.kids.length
 ·refine Y2 73 Tryz.func26 rfl rfl fun a hl g0 g1=>?_
  refine GG ?_;all_goals exact⟨by simp,.int .i64 0,1,by simp[Tryz.f26, *],rfl⟩
 by_cases h2:(600:Int)<d.keys.length
 ·refine Y2 73 Tryz.func26 rfl rfl fun a hl g0 g1=>?_
  refine GG ?_;all_goals exact⟨by simp,.int .i64 0,1,by simp[Tryz.f26, *],rfl⟩
 have h3:(600:Int)<d.str.length:=by omega
 refine Y2 73 Tryz.func26 rfl rfl fun a hl g0 g1=>?_
 refine GG ?_;all_goals exact⟨by simp,.int .i64 0,1,by simp[Tryz.f26, *],rfl⟩
theorem f26n (n:Nat)(hn0:n<1000)(d:Doc)(hs:¬(600<d.kids.length∨600<d.keys.length∨600<d.str.length))(ih:∀x,PureOk Tryz.prog Γ 26 [.ag (aJ x),.int .i64 n] (.int .i64 (fE n x))):PureOk Tryz.prog Γ 26 [.ag (aJ d),.int .i64 ((n:Int)+1)] (.int .i64 (fE (n+1) d)):=by
 obtain⟨v,hv⟩:∃v,v=fE (n+1) d:=⟨_,rfl⟩;rw[←hv];rw[fE,if_neg hs] at hv;have hn':¬(n:Int)+1≤0:=by omega
 have hwn:=ac ((n:Int)+1-1) (by omega) (by omega);rw[show(n:Int)+1-1=n by omega] at hwn;have h1:¬(600:Int)<d.kids.length:=by omega
 have h2:¬(600:Int)<d.keys.length:=by omega
 have h3:¬(600:Int)<d.str.length:=by omega
 have h4:d.kids.length≤600:=by omega
 have h5:d.keys.length≤600:=by omega
 clear hs;refine Y2 73 Tryz.func26 rfl rfl fun a hl g0 g1=>?_
 refine GG ?_;refine aq [(4,4),(7,7),(29,56)] [6,5] (fun k a h=>∃pre rest b,d.kids=pre++rest∧eK 700 (fE n) pre 700=some b∧k=rest.length∧lk a 5=some (.int .i64 b)∧lk a 6=some (.int .i64 pre.length)∧h=[(0,.cells (aJ d) 30 false)]) ⟨[],d.kids,700,rfl,rfl,rfl,by simp[*],by simp[*],rfl⟩ ?_;intro a1 hk hk0 k a h hF hI;replace g1:=hF.a hk 1;replace g2:=hF.a hk 2;replace hl:a.length=73:=hF.len.trans (hk0.trans (by simp[*]));clear hk hk0;obtain⟨pc,rest,b,hl3,hgo,rfl,h7,h8,rfl⟩:=hI;have hb1:=le (fun x=>by have:=(nq n x).1;omega) hgo;have hb2:=hb1.2 (by omega);have hb3:=hb1.1;cases rest with
 |nil=>
  rw[List.append_nil] at hl3;have hge3:¬(pc.length:Int)<d.kids.length:=(by rw[hl3];omega);rw[←hl3] at hgo;rw[hgo] at hv;simp only at hv;have hwb:=ac (b-1) (by omega) (by omega);clear ih hl3;refine GG ?_;refine aq [(4,4),(57,70)] [8] (fun k a h=>∃pre rest,d.keys=pre++rest∧pre.any (fun s=>decide (600<s.length))=false∧k=rest.length∧lk a 8=some (.int .i64 pre.length)∧h=[(0,.cells (aJ d) 30 false)]) ⟨[],d.keys,rfl,rfl,rfl,by simp[*],rfl⟩ ?_;intro a1 hk hk0 k a h hF hI;replace g2:=hF.a hk 2;replace g5:=hF.a hk 5;replace hl:a.length=73:=hF.len.trans (hk0.trans (by simp[*]));clear hk hk0;obtain⟨pre,rest,hl1,hp,rfl,hix,rfl⟩:=hI;cases rest with
  |nil=>rw[List.append_nil] at hl1;have hge:¬(pre.length:Int)<d.keys.length:=(by rw[hl1];omega);rw[hl1,if_neg (by rw[hp];simp)] at hv;rw[hv];clear hv hp hl1;refine GG ?_;exact⟨by simp,.int .i64 (b-1),1,by simp[Tryz.f26, *],rfl⟩
  |cons s r=>
   have z1:(pre.length:Int)<d.keys.length:=(by rw[hl1];simp<;>omega);have z2:pre.length<d.keys.length:=(by omega);have z3:pre.length≤d.keys.length:=(by omega);have hrd:(row aZ d.keys).drop pre.length=.str s::row aZ r:=(by rw[hl1];exact fz pre r s);have hk0:(row aZ d.keys)[pre.length]?=some (.str s):=by
    have h:=congrArg (fun l:List Val=>l[0]?) hrd
    simpa using h
   have hw:=ac ((pre.length:Int)+1) (by omega) (by omega);by_cases hsl:(600:Int)<s.length
   ·have hv0:v=0:=(by rw[hv,if_pos];rw[hl1,List.any_append,List.any_cons];have:600<s.length:=(by omega);simp[this]);rw[hv0];clear hv0 hv hl1;refine GG ?_;exact⟨by simp,.int .i64 0,1,by simp[Tryz.f26, *],rfl⟩
   ·have hp':(pre++[s]).any (fun s=>decide (600<s.length))=false:=(by rw[List.any_append,hp];have:¬600<s.length:=(by omega);simp[this]);have q1:d.keys=(pre++[s])++r:=(by rw[hl1];simp);replace q1:Hid d.keys ((pre++[s])++r):=q1;replace hp':Hid ((pre++[s]).any (fun s=>decide (600<s.length))) false:=hp';clear hv hl1 hp;refine GG ?_;exact NX [(0,.cells (aJ d) 30 false)] fun a2 hF2=>⟨pre++[s],r,q1,hp',rfl,(hF2.q 8),rfl⟩
 |cons x r=>
  have hx:=ih x;have hx0:=(nq n x).1;have hx1:=(nq n x).2;have z1:(pc.length:Int)<d.kids.length:=(by rw[hl3];simp<;>omega);have z2:pc.length<d.kids.length:=(by omega);have z3:pc.length≤d.kids.length:=(by omega);have z4:pc.length*5≤d.kids.length*5:=(by omega);have hw:=ac ((pc.length:Int)+1) (by omega) (by omega);have hwb:=ac (b-700) (by omega) (by omega);have hwc:=ac (b-700+fE n x) (by omega) (by omega);have hsn:eK 700 (fE n) d.kids 700=eK 700 (fE n) (x::r) b:=(by rw[hl3];exact kR hgo);rw[eK] at hsn;rw[hsn] at hv;have hnx:eK 700 (fE n) (pc++[x]) 700=if fE n x=0∨b-700+fE n x≤1 then none else some (b-700+fE n x):=by
   rw[kR hgo,eK];split
   ·rfl
   ·rfl
  have hq:d.kids=(pc++[x])++r:=(by rw[hl3];simp);replace hq:Hid d.kids ((pc++[x])++r):=hq;have hrd:(row aJ d.kids).drop (pc.length*5)=aJ x++row aJ r:=(by rw[hl3];exact qJ pc r x);have hta:List.take 5 (aJ x++row aJ r)=aJ x:=List.take_left' (b8 _);generalize fE n x=k at *
  clear hl3 hgo hb1 hsn;by_cases hk0:k=0
  ·rw[if_pos (.inl hk0)] at hv;simp only at hv;rw[hv];clear hv hnx;subst hk0;refine GG ?_;all_goals (try (refine aC hx ?_))
   refine GG ?_;exact⟨by simp,.int .i64 0,1,by simp[Tryz.f26, *],rfl⟩
  by_cases hk1:b-700+k≤1
  ·rw[if_pos (.inr hk1)] at hv;simp only at hv;rw[hv];clear hv hnx;refine GG ?_;all_goals (try (refine aC hx ?_))
   refine GG ?_;exact⟨by simp,.int .i64 0,1,by simp[Tryz.f26, *],rfl⟩
  rw[if_neg (by omega)] at hnx;replace hnx:Hid (eK 700 (fE n) (pc++[x]) 700) (some (b-700+k)):=hnx;clear hv;refine GG ?_;all_goals (try (refine aC hx ?_))
  refine GG ?_;exact NX [(0,.cells (aJ d) 30 false)] fun a2 hF2=>⟨pc++[x],r,b-700+k,hq,hnx,rfl,(hF2.q 5),(hF2.q 6),rfl⟩
theorem f26:∀(n:Nat),n<1000→∀d:Doc,PureOk Tryz.prog Γ 26 [.ag (aJ d),.int .i64 n] (.int .i64 (fE n d))
 |0,_,d=>f26z Γ d
 |n+1,hn,d=>by
  by_cases hs:600<d.kids.length∨600<d.keys.length∨600<d.str.length
  ·have h:=f26a Γ d ((n:Int)+1) (by omega) hs;rw[fE,if_pos hs];exact h
  ·exact f26n Γ n (by omega) d hs fun x=>f26 n (by omega) x
theorem f8 (d:Doc):PureOk Tryz.prog Γ 8 [.ag (aJ d)] (.bool (decide (0<fE 20 d))):=by
 have h:=f26 Γ 20 (by omega) d;simp only[Int.cast_ofNat_Int] at h;have hd5:List.take 5 (aJ d)=aJ d:=List.take_of_length_le (by rw[b8];omega);generalize fE 20 d=k at *
 by_cases hk:0<k
 ·refine Y1 6 Tryz.func8 rfl rfl fun a hl g0=>?_
  refine GG ?_;all_goals (try (refine aC h ?_))
  refine GG ?_;exact⟨by simp,.bool true,1,by simp[Tryz.f8, *],by simp[vw,Val.closed,hk]⟩
 ·refine Y1 6 Tryz.func8 rfl rfl fun a hl g0=>?_
  refine GG ?_;all_goals (try (refine aC h ?_))
  refine GG ?_;exact⟨by simp,.bool false,1,by simp[Tryz.f8, *],by simp[vw,Val.closed,hk]⟩
theorem rA {g:Doc→Int}{c:Int}{wt:Doc→Nat}{K:Nat}(hg:∀x,0<g x→(wt x:Int)≤K*(c-g x))(h0:∀x,0≤g x):∀{l:List Doc}{b m:Int},eK c g l b=some m→((l.map wt).sum:Int)≤K*(b-m)
 |[],b,m,h=>by cases h;simp
 |x::l,b,m,h=>by
  rw[eK] at h;split at h
  ·cases h
  ·rename_i hc;have h1:=rA hg h0 h;have h2:=hg x (by have:=h0 x;omega);have h3:(K:Int)*(b-m)=K*(b-c+g x-m)+K*(c-g x):=(by rw[←Int.mul_add];congr 1;omega);rw[List.map_cons,List.sum_cons,h3];omega
theorem AW:∀l:List Doc,wDs l=(l.map wD).sum
 |[]=>rfl
 |t::l=>by rw[wDs,List.map_cons,List.sum_cons,AW l]
theorem yb:∀(n:Nat)(d:Doc),0<fE n d→(wD d:Int)≤361201*(700-fE n d)
 |0,d,h=>by simp[fE] at h
 |n+1,d,h=>by
  rw[fE] at h ⊢;split at h
  ·cases h
  rename_i h1;rw[if_neg h1];cases hg:eK 700 (fE n) d.kids 700 with
  |none=>rw[hg] at h;cases h
  |some b=>
   rw[hg] at h;simp only at h ⊢;split at h
   ·cases h
   rename_i h2;rw[if_neg h2];have hs:=rA (K:=361201) (wt:=wD) (fun x hx=>yb n x hx) (fun x=>(nq n x).2) hg;have hn:cw d.keys≤d.keys.length*601:=mP fun s hs=>by
    rcases Nat.lt_or_ge 600 s.length with h4|h4
    ·exfalso;apply h2;rw[List.any_eq_true];exact⟨s,hs,by simpa using h4⟩
    ·exact h4
   rw[kC,AW];have e1:d.keys.length≤600:=(by omega);have e3:d.keys.length*601≤600*601:=Nat.mul_le_mul_right _ e1;omega
theorem f8_small {d:Doc}(h:0<fE 20 d):wD d<300000000:=by have h1:=yb 20 d h;omega
theorem f6_small {t:Ty}(h:0<fF 20 t):wT t<5000000:=by have h1:=yc 20 t h;omega
def lf (g:List Lns→Int):List Lns→Int→Option Int
 |[],b=>some b
 |s::r,b=>if 0<fF 20 s.ty∧0<fE 20 s.doc∧0≤g s.subs∧s.swaps.length≤100∧s.a.length+s.b.length≤200∧b+g s.subs≤100 then lf g r (b+g s.subs) else none
def ew:Nat→List Lns→Int
 |0,_=>-1
 |m+1,l=>if 100<l.length then -1 else match lf (ew m) l l.length with
  |some b=>b
  |none=>-1
theorem rB {g:List Lns→Int}:∀{a b:List Lns}{n m:Int},lf g a n=some m→lf g (a++b) n=lf g b m
 |[],b,n,m,h=>by cases h;rfl
 |x::a,b,n,m,h=>by
  rw[lf] at h;rw[List.cons_append,lf];split at h
  ·rename_i hc;rw[if_pos hc];exact rB h
  ·cases h
theorem vJ {g:List Lns→Int}:∀{a:List Lns}{n m:Int},n≤100→lf g a n=some m→n≤m∧m≤100
 |[],n,m,h0,h=>by cases h;exact⟨by omega,h0⟩
 |x::a,n,m,h0,h=>by
  rw[lf] at h;split at h
  ·rename_i hc;have:=vJ hc.2.2.2.2.2 h;omega
  ·cases h
theorem zj:∀(m:Nat)(l:List Lns),-1≤ew m l∧ew m l≤100
 |0,l=>by simp[ew]
 |m+1,l=>by
  rw[ew];split
  ·omega
  ·cases h:lf (ew m) l l.length with
   |none=>simp
   |some b=>have:=vJ (by omega) h;simp only;omega
theorem Bg:∀(m:Nat)(l:List Lns),0≤ew m l→(wNs l:Int)≤257454900*ew m l
 |0,l,h=>by simp[ew] at h
 |m+1,l,h=>by
  rw[ew] at h ⊢;split at h
  ·omega
  rename_i h1;rw[if_neg h1];have key:∀(l:List Lns) (b r:Int),lf (ew m) l b=some r→(wNs l:Int)≤257454900*(r-b+l.length):=by
   intro l;induction l with
   |nil=>intro b r h;cases h;simp[wNs]
   |cons s l ih=>
    intro b r h;rw[lf] at h;split at h
    ·rename_i hc;obtain⟨c1,c2,c3,c4,c5,c6⟩:=hc;have e1:=ih _ _ h;have e2:=Bg m s.subs c3;have e3:=yc 20 s.ty c1;have e4:=yb 20 s.doc c2;simp only[wNs,List.length_cons];rw[eu];omega
    ·cases h
  cases hg:lf (ew m) l l.length with
  |none=>rw[hg] at h;simp at h
  |some b=>have:=key _ _ _ hg;simp only;rw[show b-(l.length:Int)+l.length=b by omega] at this;exact this
theorem f25z (l:List Lns):PureOk Tryz.prog Γ 25 [sls aL l,.int .i64 (-1)] (.int .i64 (-1)):=by
 refine Y2 86 Tryz.func25 rfl rfl fun a hl g0 g1=>?_
 repeat' first|refine G1 ?_|(refine G2 ?_ ?_<;>intro hc hd<;>try exact hd.elim)|fail
 all_goals exact⟨by simp,.int .i64 (-1),1,by simp[Tryz.f25, *],rfl⟩
theorem f25a (l:List Lns)(n:Int)(h:100<l.length):PureOk Tryz.prog Γ 25 [sls aL l,.int .i64 n] (.int .i64 (-1)):=by
 have h1:(100:Int)<l.length:=by omega
 refine Y2 86 Tryz.func25 rfl rfl fun a hl g0 g1=>?_
 refine GG ?_;all_goals exact⟨by simp,.int .i64 (-1),1,by simp[Tryz.f25, *],rfl⟩
theorem f25n (m:Nat)(hm0:m<1000)(l:List Lns)(hs:¬100<l.length)(hsh:∀s∈l,s.a.length<4000000000000000000∧s.b.length<4000000000000000000)(ih:∀s∈l,PureOk Tryz.prog Γ 25 [sls aL s.subs,.int .i64 ((m:Int)-1)] (.int .i64 (ew m s.subs))):PureOk Tryz.prog Γ 25 [sls aL l,.int .i64 (m:Int)] (.int .i64 (ew (m+1) l)):=by
 obtain⟨v,hv⟩:∃v,v=ew (m+1) l:=⟨_,rfl⟩;rw[←hv];rw[ew,if_neg hs] at hv;have hn':¬(m:Int)<0:=by omega
 have hwn:=ac ((m:Int)-1) (by omega) (by omega);have h1:¬(100:Int)<l.length:=by omega
 have h2:l.length≤100:=by omega
 clear hs;refine Y2 86 Tryz.func25 rfl rfl fun a hl g0 g1=>?_
 refine GG ?_;refine aq [(4,4),(7,9),(19,84)] [6,5] (fun k a h=>∃pre rest b,l=pre++rest∧lf (ew m) pre l.length=some b∧k=rest.length∧lk a 5=some (.int .i64 b)∧lk a 6=some (.int .i64 pre.length)∧h=[]) ⟨[],l,l.length,rfl,rfl,rfl,by simp[*],by simp[*],rfl⟩ ?_;intro a1 hk hk0 k a h hF hI;replace g0:=hF.a hk 0;replace g1:=hF.a hk 1;replace hl:a.length=86:=hF.len.trans (hk0.trans (by simp[*]));clear hk hk0;obtain⟨pre,rest,b,hl3,hgo,rfl,h5,h6,rfl⟩:=hI;have hb:=vJ (by omega) hgo;cases rest with
 |nil=>rw[List.append_nil] at hl3;have hge:¬(pre.length:Int)<l.length:=(by rw[hl3];omega);rw[←hl3] at hgo;rw[hgo] at hv;simp only at hv;rw[hv];clear hv ih hl3 hgo;refine GG ?_;exact⟨by simp,.int .i64 b,1,by simp[Tryz.f25, *],rfl⟩
 |cons s r=>
  have hsm:s∈l:=(by rw[hl3];simp);have hx:=ih s hsm;have hab:=hsh s hsm;have hx0:=zj m s.subs;have k6:=f6 Γ s.ty;have k8:=f8 Γ s.doc;have z1:(pre.length:Int)<l.length:=(by rw[hl3];simp<;>omega);have z2:pre.length<l.length:=(by omega);have z3:pre.length≤l.length:=(by omega);have z4:pre.length*16≤l.length*16:=(by omega);have hw:=ac ((pre.length:Int)+1) (by omega) (by omega);have hwb:=ac (b+ew m s.subs) (by omega) (by omega);have hsn:=rB (b:=s::r) hgo;rw[←hl3] at hsn;rw[lf] at hsn;rw[hsn] at hv;have hnx:lf (ew m) (pre++[s]) l.length=if 0<fF 20 s.ty∧0<fE 20 s.doc∧0≤ew m s.subs∧s.swaps.length≤100∧s.a.length+s.b.length≤200∧b+ew m s.subs≤100 then some (b+ew m s.subs) else none:=by
   rw[rB hgo,lf];split
   ·rfl
   ·rfl
  have hq:l=(pre++[s])++r:=(by rw[hl3];simp);replace hq:Hid l ((pre++[s])++r):=hq;have hrd:(row aL l).drop (pre.length*16)=.int .i64 s.kind :: .str s.a :: .str s.b::(cTy s.ty++(aJ s.doc++(sls cO s.swaps::sls aL s.subs::row aL r))):=(by rw[hl3,qM,ey];simp);have hr3:(row aL l).drop (pre.length*16+3)=cTy s.ty++(aJ s.doc++(sls cO s.swaps::sls aL s.subs::row aL r)):=(by rw[←List.drop_drop,hrd];rfl);have hr9:(row aL l).drop (pre.length*16+9)=aJ s.doc++(sls cO s.swaps::sls aL s.subs::row aL r):=(by rw[show pre.length*16+9=pre.length*16+3+6 by omega,←List.drop_drop,hr3];exact List.drop_left' (by simp));have hr14:(row aL l).drop (pre.length*16+14)=sls cO s.swaps::sls aL s.subs::row aL r:=(by rw[show pre.length*16+14=pre.length*16+9+5 by omega,←List.drop_drop,hr9];exact List.drop_left' (by simp));have hr15:(row aL l).drop (pre.length*16+15)=sls aL s.subs::row aL r:=(by rw[show pre.length*16+15=pre.length*16+14+1 by omega,←List.drop_drop,hr14];rfl);have e11:List.drop 11 (cTy s.ty++(aJ s.doc++(sls cO s.swaps::sls aL s.subs::row aL r)))=sls cO s.swaps::sls aL s.subs::row aL r:=(by rw[show 11=6+5 by rfl,←List.drop_drop,List.drop_left' (by simp)];exact List.drop_left' (by simp));have e12:List.drop 12 (cTy s.ty++(aJ s.doc++(sls cO s.swaps::sls aL s.subs::row aL r)))=sls aL s.subs::row aL r:=(by rw[show 12=11+1 by rfl,←List.drop_drop,e11];rfl);have y11:11≤6+(5+(r.length*16+1+1)):=(by omega);have y12:12≤6+(5+(r.length*16+1+1)):=(by omega);have ht6:(cTy s.ty++(aJ s.doc++(sls cO s.swaps::sls aL s.subs::row aL r))).take 6=cTy s.ty:=List.take_left' (by simp);have ht5:(aJ s.doc++(sls cO s.swaps::sls aL s.subs::row aL r)).take 5=aJ s.doc:=List.take_left' (by simp);have hrl:(row aL l).length=l.length*16:=na l;have hw2:=ac ((s.a.length:Int)+s.b.length) (by omega) (by omega);by_cases c1:0<fF 20 s.ty;case neg=>
   rw[if_neg (fun h=>c1 h.1)] at hv;simp only at hv;subst hv;have d1:decide (0<fF 20 s.ty)=false:=decide_eq_false c1;rw[d1] at k6;clear hl3 hgo hsn ih hsh hsm;unfold sls at *
   generalize row aL l=L at *
   generalize l.length=LL at *
   refine GG ?_;all_goals (try (refine aC k6 ?_))
   refine GG ?_;all_goals (try (refine aC k8 ?_))
   refine GG ?_;all_goals (try (refine aC hx ?_))
   refine GG ?_;all_goals exact⟨by simp,.int .i64 (-1),1,by simp[Tryz.f25, *],rfl⟩
  have d1:decide (0<fF 20 s.ty)=true:=decide_eq_true c1;rw[d1] at k6;by_cases c2:0<fE 20 s.doc;case neg=>
   rw[if_neg (fun h=>c2 h.2.1)] at hv;simp only at hv;subst hv;have d2:decide (0<fE 20 s.doc)=false:=decide_eq_false c2;rw[d2] at k8;clear hl3 hgo hsn ih hsh hsm;unfold sls at *
   generalize row aL l=L at *
   generalize l.length=LL at *
   refine GG ?_;all_goals (try (refine aC k6 ?_))
   refine GG ?_;all_goals (try (refine aC k8 ?_))
   refine GG ?_;all_goals (try (refine aC hx ?_))
   refine GG ?_;all_goals exact⟨by simp,.int .i64 (-1),1,by simp[Tryz.f25, *],rfl⟩
  have d2:decide (0<fE 20 s.doc)=true:=decide_eq_true c2;rw[d2] at k8;by_cases c3:0≤ew m s.subs;case neg=>
   rw[if_neg (fun h=>c3 h.2.2.1)] at hv;simp only at hv;subst hv;have c3':ew m s.subs<0:=(by omega);clear hl3 hgo hsn ih hsh hsm;unfold sls at *
   generalize row aL l=L at *
   generalize l.length=LL at *
   refine GG ?_;all_goals (try (refine aC k6 ?_))
   refine GG ?_;all_goals (try (refine aC k8 ?_))
   refine GG ?_;all_goals (try (refine aC hx ?_))
   refine GG ?_;all_goals exact⟨by simp,.int .i64 (-1),1,by simp[Tryz.f25, *],rfl⟩
  have c3':¬ew m s.subs<0:=(by omega);by_cases c4:s.swaps.length≤100;case neg=>
   rw[if_neg (fun h=>c4 h.2.2.2.1)] at hv;simp only at hv;subst hv;have c4':(100:Int)<s.swaps.length:=(by omega);clear hl3 hgo hsn ih hsh hsm;unfold sls at *
   generalize row aL l=L at *
   generalize l.length=LL at *
   refine GG ?_;all_goals (try (refine aC k6 ?_))
   refine GG ?_;all_goals (try (refine aC k8 ?_))
   refine GG ?_;all_goals (try (refine aC hx ?_))
   refine GG ?_;all_goals exact⟨by simp,.int .i64 (-1),1,by simp[Tryz.f25, *],rfl⟩
  have c4':¬(100:Int)<s.swaps.length:=(by omega);by_cases c5:s.a.length+s.b.length≤200;case neg=>
   rw[if_neg (fun h=>c5 h.2.2.2.2.1)] at hv;simp only at hv;subst hv;have c5':(200:Int)<(s.a.length:Int)+s.b.length:=(by omega);clear hl3 hgo hsn ih hsh hsm;unfold sls at *
   generalize row aL l=L at *
   generalize l.length=LL at *
   refine GG ?_;all_goals (try (refine aC k6 ?_))
   refine GG ?_;all_goals (try (refine aC k8 ?_))
   refine GG ?_;all_goals (try (refine aC hx ?_))
   refine GG ?_;all_goals exact⟨by simp,.int .i64 (-1),1,by simp[Tryz.f25, *],rfl⟩
  have c5':¬(200:Int)<(s.a.length:Int)+s.b.length:=(by omega);by_cases c6:b+ew m s.subs≤100;case neg=>
   rw[if_neg (fun h=>c6 h.2.2.2.2.2)] at hv;simp only at hv;subst hv;have c6':(100:Int)<b+ew m s.subs:=(by omega);clear hl3 hgo hsn ih hsh hsm;unfold sls at *
   generalize row aL l=L at *
   generalize l.length=LL at *
   refine GG ?_;all_goals (try (refine aC k6 ?_))
   refine GG ?_;all_goals (try (refine aC k8 ?_))
   refine GG ?_;all_goals (try (refine aC hx ?_))
   refine GG ?_;all_goals exact⟨by simp,.int .i64 (-1),1,by simp[Tryz.f25, *],rfl⟩
  have c6':¬(100:Int)<b+ew m s.subs:=(by omega);rw[if_pos ⟨c1,c2,c3,c4,c5,c6⟩] at hv hnx;clear hl3 hgo hsn ih hsh hsm;unfold sls at *
  generalize row aL l=L at *
  generalize hLL:l.length=LL at *
  replace hLL:Hid l.length LL:=hLL;refine GG ?_;all_goals (try (refine aC k6 ?_))
  refine GG ?_;all_goals (try (refine aC k8 ?_))
  refine GG ?_;all_goals (try (refine aC hx ?_))
  refine GG ?_;exact NX [] fun a2 hF2=>⟨pre++[s],r,b+ew m s.subs,hq,hnx,rfl,(hF2.q 5),(hF2.q 6),rfl⟩
inductive Short:Lns→Prop
 |mk {s:Lns} (ha:s.a.length<4000000000000000000) (hb:s.b.length<4000000000000000000) (hs:∀x∈s.subs,Short x):Short s
theorem f25:∀(m:Nat)(l:List Lns),m≤1000→(∀s∈l,Short s)→PureOk Tryz.prog Γ 25 [sls aL l,.int .i64 ((m:Int)-1)] (.int .i64 (ew m l))
 |0,l,_,_=>f25z Γ l
 |m+1,l,hm,hs=>by
  have e:((m+1:Nat):Int)-1=(m:Int):=(by omega);rw[e];by_cases h:100<l.length
  ·rw[ew,if_pos h];exact f25a Γ l m h
  ·exact f25n Γ m (by omega) l h (fun s hx=>by cases hs s hx with|mk ha hb _=>exact⟨ha,hb⟩) fun s hx=>f25 m s.subs (by omega) (by cases hs s hx with|mk _ _ h=>exact h)
theorem f7 (l:List Lns)(hs:∀s∈l,Short s):PureOk Tryz.prog Γ 7 [sls aL l] (.bool (decide (0≤ew 13 l))):=by
 have k:=f25 Γ 13 l (by omega) hs;have e:((13:Nat):Int)-1=12:=by omega
 rw[e] at k;clear hs;refine Y1 6 Tryz.func7 rfl rfl fun a hl g0=>?_
 refine GG ?_;all_goals (try (refine aC k ?_))
 refine GG ?_;all_goals exact⟨by simp,.bool (decide (0≤ew 13 l)),1,by simp[Tryz.f7, *],rfl⟩

end
end Go.V
end
section
namespace Go.V
open Go Go.Proofs
def EF {α β:Type}(d:α→Option β):List α→Option (List β)
 |[]=>some []
 |x::r=>match d x,EF d r with
  |some y,some l=>some (y::l)
  |_,_=>none
def vD (k:Nat):Nat→List Val→List (List Val)
 |0,_=>[]
 |n+1,l=>l.take k::vD k n (l.drop k)
def dSl {α:Type}(k:Nat)(d:List Val→Option α):Val→Option (List α)
 |.nils=>some []
 |.sl cs n _=>match Nat.beq cs.length (n*k) with
  |true=>EF d (vD k n cs)
  |false=>none
 |_=>none
def Af:List Val→Option Str
 |[.str s]=>some s
 |_=>none
def F4:List Val→Option Int
 |[.int .i64 n]=>some n
 |_=>none
def B4:List Val→Option (Int×Int)
 |[.int .i64 n,.int .i64 m]=>some (n,m)
 |_=>none
def w6:Nat→List Val→Option Doc
 |n+1,[.int .i64 k,.int .i64 m,.str s,ks,ds]=>match dSl 1 Af ks,dSl 5 (w6 n) ds with
  |some ks,some ds=>some (.mk k m s ks ds)
  |_,_=>none
 |_,_=>none
def F3 (d:List Val→Option Ty):List Val→Option Fld
 |.str s :: .bool b::c=>match d c with
  |some t=>some (.mk s b t)
  |none=>none
 |_=>none
def dTy:Nat→List Val→Option Ty
 |n+1,[.int .i64 k,.int .i64 l,.int .i64 h,ns,fs,ts]=>match dSl 1 Af ns,dSl 8 (F3 (dTy n)) fs,dSl 6 (dTy n) ts with
  |some ns,some fs,some ts=>some (.mk k l h ns fs ts)
  |_,_,_=>none
 |_,_=>none
def w7:Nat→List Val→Option Lns
 |n+1,.int .i64 k :: .str a :: .str b::c=>match dTy 20 (c.take 6),w6 20 ((c.drop 6).take 5),c.drop 11 with
  |some t,some d,[sw,su]=>match dSl 2 B4 sw,dSl 16 (w7 n) su with
   |some sw,some su=>some (.mk k a b t d sw su)
   |_,_=>none
  |_,_,_=>none
 |_,_=>none
def B6:List Val→Option Res
 |.int .i64 e::st::ks::c=>match dSl 1 F4 st,dSl 1 Af ks,w6 20 c with
  |some st,some ks,some d=>some ⟨e,st,ks,d⟩
  |_,_,_=>none
 |_=>none
def dSt (c:List Val):Option St:=match w6 20 (c.take 5),c.drop 5 with
 |some d,[r]=>match dSl 8 B6 r with
  |some r=>some ⟨d,r⟩
  |none=>none
 |_,_=>none
theorem WkL.append:∀{a b c d:List Val},WkL a b→WkL c d→WkL (a++c) (b++d)
 |[],[],_,_,_,h=>h
 |x::a,y::b,_,_,h,h'=>⟨h.1,WkL.append h.2 h'⟩
 |[],_::_,_,_,h,_=>h.elim
 |_::_,[],_,_,h,_=>h.elim
theorem tP {α:Type}{k:Nat}{d:List Val→Option α}{c:α→List Val}(hd:∀cs a,d cs=some a→WkL cs (c a)):∀{n:Nat}{cs:List Val}{l:List α},cs.length=n*k→EF d (vD k n cs)=some l→l.length=n∧WkL cs (row c l)
 |0,cs,l,hl,h=>by obtain rfl:cs=[]:=List.eq_nil_of_length_eq_zero (by simpa using hl);cases h;exact⟨rfl,trivial⟩
 |n+1,cs,l,hl,h=>by
  rw[vD,EF] at h;split at h
  ·rename_i y l' h1 h2;cases h;obtain⟨q1,q2⟩:=tP hd (n:=n) (cs:=cs.drop k) (by rw[List.length_drop,hl,Nat.add_mul];omega) h2;refine⟨by simp[q1],?_⟩;rw[row];have:=(hd _ _ h1).append q2
   rwa[List.take_append_drop] at this
  ·cases h
theorem gN {α:Type}{k:Nat}{d:List Val→Option α}{c:α→List Val}(hd:∀cs a,d cs=some a→WkL cs (c a)){v:Val}{l:List α}(h:dSl k d v=some l):Wk v (sls c l):=by
 unfold dSl at h;split at h
 ·cases h;exact Wk.nils
 ·rename_i cs n cap;split at h
  ·rename_i hl;obtain⟨h1,h2⟩:=tP hd (Nat.eq_of_beq_eq_true hl) h;intro F ρ x hx;have:=Wk.cap _ _ _ F ρ x (Wk.sl (n:=n) (cap:=cap) h2 F ρ x hx);show Rel F ρ (.sl (row c l) l.length none) x;rw[h1];exact this
  ·cases h
 ·cases h
theorem qO (cs:List Val)(a:Str)(h:Af cs=some a):WkL cs (aZ a):=by
 unfold Af at h;split at h
 ·cases h;exact⟨Wk.refl _,trivial⟩
 ·cases h
theorem Dd (cs:List Val)(a:Int)(h:F4 cs=some a):WkL cs (cS a):=by
 unfold F4 at h;split at h
 ·cases h;exact⟨Wk.refl _,trivial⟩
 ·cases h
theorem B5 (cs:List Val)(a:Int×Int)(h:B4 cs=some a):WkL cs (cO a):=by
 unfold B4 at h;split at h
 ·cases h;exact⟨Wk.refl _,Wk.refl _,trivial⟩
 ·cases h
theorem ni:∀(n:Nat)(cs:List Val)(a:Doc),w6 n cs=some a→WkL cs (aJ a)
 |0,cs,a,h=>by unfold w6 at h;cases h
 |n+1,cs,a,h=>by
  unfold w6 at h;split at h
  ·rename_i n' k m s ks ds e;cases e;split at h
   ·rename_i ks' ds' h1 h2;cases h;rw[eF];exact⟨Wk.refl _,Wk.refl _,Wk.refl _,gN qO h1,gN (ni n) h2,trivial⟩
   ·cases h
  ·cases h
theorem Dc {d:List Val→Option Ty}(hd:∀cs a,d cs=some a→WkL cs (cTy a))(cs:List Val)(a:Fld)(h:F3 d cs=some a):WkL cs (ad a):=by
 unfold F3 at h;split at h
 ·split at h
  ·rename_i t ht;cases h;rw[dw];exact⟨Wk.refl _,Wk.refl _,hd _ _ ht⟩
  ·cases h
 ·cases h
theorem jc:∀(n:Nat)(cs:List Val)(a:Ty),dTy n cs=some a→WkL cs (cTy a)
 |0,cs,a,h=>by unfold dTy at h;cases h
 |n+1,cs,a,h=>by
  unfold dTy at h;split at h
  ·rename_i n' k l hh ns fs ts e;cases e;split at h
   ·rename_i ns' fs' ts' h1 h2 h3;cases h;rw[fC];exact⟨Wk.refl _,Wk.refl _,Wk.refl _,gN qO h1,gN (Dc (jc n)) h2,gN (jc n) h3,trivial⟩
   ·cases h
  ·cases h
theorem nj:∀(n:Nat)(cs:List Val)(a:Lns),w7 n cs=some a→WkL cs (aL a)
 |0,cs,a,h=>by unfold w7 at h;cases h
 |n+1,cs,a,h=>by
  unfold w7 at h;split at h
  ·rename_i n' k a' b c e;cases e;split at h
   ·rename_i t d sw su h1 h2 h3;split at h
    ·rename_i sw' su' h4 h5;cases h;rw[ey];refine⟨Wk.refl _,Wk.refl _,Wk.refl _,?_⟩;have e:c=c.take 6++((c.drop 6).take 5++[sw,su]):=(by rw[←h3];have:(c.drop 6).drop 5=c.drop 11:=(by rw[List.drop_drop]);rw[←this,List.take_append_drop,List.take_append_drop]);rw[e];exact(jc _ _ _ h1).append ((ni _ _ _ h2).append ⟨gN B5 h4,gN (nj n) h5,trivial⟩)
    ·cases h
   ·cases h
  ·cases h
theorem vE (cs:List Val)(a:Res)(h:B6 cs=some a):WkL cs (ah a):=by
 unfold B6 at h;split at h
 ·split at h
  ·rename_i st' ks' d h1 h2 h3;cases h;exact⟨Wk.refl _,gN Dd h1,gN qO h2,ni _ _ _ h3⟩
  ·cases h
 ·cases h
theorem qr (cs:List Val)(a:St)(h:dSt cs=some a):WkL cs (cSt a):=by
 unfold dSt at h;split at h
 ·rename_i d r h1 h2;split at h
  ·rename_i r' h3;cases h;have e:cs=cs.take 5++[r]:=(by rw[←h2,List.take_append_drop]);rw[e];exact(ni _ _ _ h1).append ⟨gN vE h3,trivial⟩
  ·cases h
 ·cases h
end Go.V
end
