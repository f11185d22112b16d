/-
  A part of a proof: M9 M10 M11 M12 M13 M14 M15.
-/
import Derived.Test.YtkfjenbfbendhaaGreatDoorPk14
import Derived.Test.YtkfjenbfbendhaaGreatDoorPk22
import Derived.Test.YtkfjenbfbendhaaGreatDoorPk27
import Derived.Test.YtkfjenbfbendhaaGreatDoorPk47
set_option linter.unusedSimpArgs false
set_option linter.unusedVariables false
section
set_option maxHeartbeats 4000000
namespace Go.V
open Go Go.Proofs
attribute [local irreducible] W bM WD aO yl aU bU
section
variable (Γ:Glo Tryz.prog)
attribute [local simp] veq bD eD V.del
def zy (p:List Hop×Int):Val:=.tp [sls bn p.1,.int .i64 p.2]
theorem mh (e:Int):Wk (.tp [.nils,.int .i64 e]) (zy ([],e)):=Wk.tp ⟨Wk.nils,Wk.refl _,trivial⟩
theorem f18 (H:fQ Γ)(r:Reg)(hf:FewR r)(x y:Int):PureOk Tryz.prog Γ 18 [.ag (bN r),.int .i64 x,.int .i64 y] (zy (hZ r x y)):=by
 have hs:=hf.s;have hj:=hf.j;have k47:=f47 Γ H r hf;have k1:=f48 Γ r x (by unfold big;omega);have k2:=f48 Γ r y (by unfold big;omega);have k3:=(f49 Γ r x (by omega) hs).ren [] 17 rfl (by simp[co,aV,aS]) (by simp) (by simp[cu]);simp[bJ,ax,tau] at k3;have hlk:=fun(h':Heap) (hg:V.get h' 17=some (.map (mW (bT r x))))=>sW hg y true
 simp only[if_true] at hlk;have hwc:=mQ y (bT r x);have hwl:=fun N=>fO (N:=N) _ hwc
 unfold hZ;clear hf H;by_cases c0:fA r=false
 ·rw[if_pos c0];refine PureOk.wk ?_ (mh 1);rw[c0] at k47;clear hlk k3;refine Y3 36 Tryz.func18 rfl rfl fun a hl g0 g1 g2=>?_
  refine GG ?_;all_goals (try (refine aC k47 ?_))
  refine GG ?_;exact⟨by simp,.tp [.nils,.int .i64 1],1,by simp[Tryz.f18, *],rfl⟩
 rw[if_neg c0];rw[show fA r=true by simpa using c0] at k47;by_cases c1:bF r x=false
 ·rw[if_pos (.inl c1)];refine PureOk.wk ?_ (mh 3);rw[c1] at k1;clear hlk k3;refine Y3 36 Tryz.func18 rfl rfl fun a hl g0 g1 g2=>?_
  refine GG ?_;all_goals (try (refine aC k47 ?_))
  refine GG ?_;all_goals (try (refine aC k1 ?_))
  refine GG ?_;exact⟨by simp,.tp [.nils,.int .i64 3],1,by simp[Tryz.f18, *],rfl⟩
 have c1':bF r x=true:=by simpa using c1
 rw[c1'] at k1;by_cases c2:bF r y=false
 ·rw[if_pos (.inr c2)];refine PureOk.wk ?_ (mh 3);rw[c2] at k2;clear hlk k3;refine Y3 36 Tryz.func18 rfl rfl fun a hl g0 g1 g2=>?_
  refine GG ?_;all_goals (try (refine aC k47 ?_))
  refine GG ?_;all_goals (try (refine aC k1 ?_))
  refine GG ?_;all_goals (try (refine aC k2 ?_))
  refine GG ?_;exact⟨by simp,.tp [.nils,.int .i64 3],1,by simp[Tryz.f18, *],rfl⟩
 have c2':bF r y=true:=by simpa using c2
 rw[c2'] at k2;rw[if_neg (by simp[c1',c2'])];cases hg:gP y (bT r x) with
 |none=>
  rw[hg] at hlk;simp only[Option.isSome_none] at hlk ⊢;refine PureOk.wk ?_ (mh 12);generalize tB y (bT r x)=w0 at *
  generalize bT r x=W0 at *
  refine Y3 36 Tryz.func18 rfl rfl fun a hl g0 g1 g2=>?_
  refine GG ?_;all_goals (try (refine aC k47 ?_))
  refine GG ?_;all_goals (try (refine aC k1 ?_))
  refine GG ?_;all_goals (try (refine aC k2 ?_))
  refine GG ?_;refine aw k3 ?_;refine GG ?_;exact⟨by simp,.tp [.nils,.int .i64 12],1,by simp[Tryz.f18, *],rfl⟩
 |some w=>
  have hw0:tB y (bT r x)=gR bn w:=(by unfold tB;rw[hg]);rw[hg,hw0] at hlk;rw[hw0] at hwc hwl;simp only[Option.isSome_some] at hlk ⊢;refine PureOk.wk (r:=.tp [gR bn w,.int .i64 0]) ?_ (Wk.tp ⟨oA bn w,Wk.refl _,trivial⟩);generalize gR bn w=w0 at *
  generalize bT r x=W0 at *
  refine Y3 36 Tryz.func18 rfl rfl fun a hl g0 g1 g2=>?_
  refine GG ?_;all_goals (try (refine aC k47 ?_))
  refine GG ?_;all_goals (try (refine aC k1 ?_))
  refine GG ?_;all_goals (try (refine aC k2 ?_))
  refine GG ?_;refine aw k3 ?_;refine GG ?_;exact⟨by simp,.tp [w0,.int .i64 0],1,by simp[Tryz.f18, *],by simp[vw,Val.closed,aE,hwc]⟩
theorem f42 (H:fQ Γ)(r:Reg)(hf:FewR r)(x:Int):PureOk Tryz.prog Γ 42 [.ag (bN r),.int .i64 x] (.int .i64 (lQ r x)):=by
 have hs:=hf.s;have k47:=f47 Γ H r hf;unfold lQ bF;clear hf H;generalize hn:r.schemas.length=n at *
 by_cases c0:fA r=false
 ·rw[if_pos c0];rw[c0] at k47;refine Y2 19 Tryz.func42 rfl rfl fun a hl g0 g1=>?_
  refine GG ?_;all_goals (try (refine aC k47 ?_))
  refine GG ?_;exact⟨by simp,.int .i64 1,1,by simp[Tryz.f42, *],rfl⟩
 rw[if_neg c0];rw[show fA r=true by simpa using c0] at k47;by_cases c1:0≤x;case neg=>
  rw[if_pos (by simp[c1])];have c1':x<0:=(by omega);refine Y2 19 Tryz.func42 rfl rfl fun a hl g0 g1=>?_
  refine GG ?_;all_goals (try (refine aC k47 ?_))
  refine GG ?_;exact⟨by simp,.int .i64 3,1,by simp[Tryz.f42, *],rfl⟩
 have c1':¬x<0:=by omega
 by_cases c2:x<n;case neg=>
  rw[if_pos (by simp[c2])];have c2':(n:Int)≤x:=(by omega);refine Y2 19 Tryz.func42 rfl rfl fun a hl g0 g1=>?_
  refine GG ?_;all_goals (try (refine aC k47 ?_))
  refine GG ?_;exact⟨by simp,.int .i64 3,1,by simp[Tryz.f42, *],rfl⟩
 have c2':¬(n:Int)≤x:=by omega
 rw[if_neg (by simp[c1,c2])];refine Y2 19 Tryz.func42 rfl rfl fun a hl g0 g1=>?_
 refine GG ?_;all_goals (try (refine aC k47 ?_))
 refine GG ?_;exact⟨by simp,.int .i64 0,1,by simp[Tryz.f42, *],rfl⟩
theorem f45 (H:fQ Γ)(r:Reg)(x:Int)(ht:bF r x=true)(hT:∀n∈r.schemas,wT n.ty<big)(s:St)(hs:wRs s.res+wD s.doc<big):PureOk Tryz.prog Γ 45 [.ag (bN r),.int .i64 x,.ag (cSt s)] (.int .i64 (jg r x s)):=by
 obtain⟨n1,m1,x1,post1,rfl,l1,d1,t1,i1,rfl⟩:=jr ht;have k11:=H x1.ty s.doc (hT x1 i1) (by omega);have k75:=f75 Γ s.res (by omega);unfold jg;rw[t1];have l2:(n1:Int)<r.schemas.length:=by omega
 have l3:n1≤r.schemas.length:=by omega
 have l5:n1*7≤r.schemas.length*7:=by omega
 have b1:1≤7+post1.length*7:=by omega
 have f1:List.take 6 (cNm x1++row cNm post1).tail=cTy x1.ty:=by show List.take 6 (cTy x1.ty++row cNm post1)=_;exact ed (bG _)
 clear H hT hs i1 t1 ht;generalize cD x1.ty s.doc=b at *
 generalize bC s.res=c at *
 cases b
 ·refine Y3 23 Tryz.func45 rfl rfl fun a hl g0 g1 g2=>?_
  refine GG ?_;refine aM k11 ?_;refine GG ?_;exact⟨by simp,.int .i64 7,1,by simp[Tryz.f45, *],rfl⟩
 ·cases c
  ·refine Y3 23 Tryz.func45 rfl rfl fun a hl g0 g1 g2=>?_
   refine GG ?_;refine aM k11 ?_;refine GG ?_;all_goals (try (refine aC k75 ?_))
   refine GG ?_;exact⟨by simp,.int .i64 1,1,by simp[Tryz.f45, *],rfl⟩
  ·refine Y3 23 Tryz.func45 rfl rfl fun a hl g0 g1 g2=>?_
   refine GG ?_;refine aM k11 ?_;refine GG ?_;all_goals (try (refine aC k75 ?_))
   refine GG ?_;exact⟨by simp,.int .i64 0,1,by simp[Tryz.f45, *],rfl⟩
theorem zr {r:Reg}{n:Nat}{j:Jn}(h:r.joins[n]?=some j):∃post:List Jn,n<r.joins.length∧(row cJn r.joins).drop (n*3)=cJn j++row cJn post∧j∈r.joins:=by
 obtain⟨pre,post,h1,h2,h3⟩:=rR h (i:=(n:Int)) rfl;have hn:n=pre.length:=by omega
 subst hn;refine⟨post,by rw[h1];simp,?_,List.mem_of_getElem? h⟩;rw[h1];exact FV pre post j
theorem f46 (X:XOk Γ)(H:fQ Γ)(r:Reg)(hf:FewR r)(x:Int)(h:Hop){n:Nat}{j:Jn}(hj:r.joins[n]?=some j)(hn:h.join=(n:Int))(ht:bF r x=true)(s s1:St)(e:Int)(hh:ju r x h s=some (s1,e)) :
  PureOk Tryz.prog Γ 46 [.ag (bN r),.int .i64 x,.ag (bn h),.ag (cSt s)] (.tp [.int .i64 (cJ r h),.ag (cSt s1),.int .i64 e]):=by
 obtain⟨n1,m1,x1,post1,rfl,l1,d1,t1,i1,rfl⟩:=jr ht;obtain⟨post2,l2,d2,i2⟩:=zr hj;have hja:=jj hj hn;unfold ju at hh;by_cases ho:okS s=true;case neg=>rw[if_neg ho] at hh;cases hh
 rw[if_pos ho,t1,hja] at hh;unfold okS lim at ho;have ho':=of_decide_eq_true ho;have k10:=(f10 Γ X H x1.ty j.lens h.join h.back s s1 e (hf.n x1 i1).2 (hf.l j i2) (by omega) hh).1;unfold cJ;rw[hja];obtain⟨he,hb⟩:=h;simp only at hn k10 ⊢;subst hn;have g1:(n1:Int)<r.schemas.length:=by omega
 have g2:n1*7≤r.schemas.length*7:=by omega
 have g3:1≤7+post1.length*7:=by omega
 have g4:(n:Int)<r.joins.length:=by omega
 have g5:n*3≤r.joins.length*3:=by omega
 have f1:List.take 6 (cNm x1++row cNm post1).tail=cTy x1.ty:=by show List.take 6 (cTy x1.ty++row cNm post1)=_;exact ed (bG _)
 clear X H hf hj hh ho ho' hja i1 i2 t1 ht;cases hb
 ·refine Y4 46 Tryz.func46 rfl rfl fun a hl g0 g1 g2 g3=>?_
  refine GG ?_;refine aM k10 ?_;refine GG ?_;exact⟨by simp,.tp [.int .i64 j.dst,.ag (cSt s1),.int .i64 e],1,by simp[Tryz.f46, *],by simp[vw,Val.closed,aE]⟩
 ·refine Y4 46 Tryz.func46 rfl rfl fun a hl g0 g1 g2 g3=>?_
  refine GG ?_;refine aM k10 ?_;refine GG ?_;exact⟨by simp,.tp [.int .i64 j.src,.ag (cSt s1),.int .i64 e],1,by simp[Tryz.f46, *],by simp[vw,Val.closed,aE]⟩
theorem AR (d:Doc):cU Tryz.prog 40 [(0,.ag (aJ d))]=some (aJ d++[.nils]):=by cases d;kernel_rfl
theorem I1 (c:List Val)(n:Nat)(k:Option Nat):cU Tryz.prog 40 [(1,.sl c n k)]=some [.int .i64 0,.int .i64 0,.str [],.nils,.nils,.sl c n k]:=by kernel_rfl
theorem AK (d:Doc):WkL (aJ d++[.nils]) (cSt ⟨d,[]⟩):=by
 have app:∀a:List Val,WkL (a++[.nils]) (a++[sls ah []]):=fun a=>by
  induction a with
  |nil=>exact⟨Wk.nils,trivial⟩
  |cons v a ih=>exact⟨Wk.refl v,ih⟩
 exact app (aJ d)
theorem f145 (X:XOk Γ)(H:fQ Γ)(t:Ty)(l:List Lns)(e:Int)(bk:Bool)(d:Doc)(s1:St)(N:List Res)(err:Int)(ht:wT t<big)(hl:wNs l<30000000000)(hd:wD d<20000000000)(hN:wRs N<lim)(hg:jx t l e bk ⟨d,[]⟩=some (s1,N,err)) :
  PureOk Tryz.prog Γ 145 [.ag (cTy t),sls aL l,.int .i64 e,.bool bk,.ag (aJ d)] (sls ah N):=by
 have k1:=((f32 Γ X H t l e bk ⟨d,[]⟩ s1 N err ht hl (by simp[wRs];omega) hg).1).arg (vs:=[.ag (cTy t),sls aL l,.int .i64 e,.bool bk,.ag (aJ d++[.nils])]) ⟨Wk.refl _,Wk.refl _,Wk.refl _,Wk.refl _,Wk.ag (AK d),trivial⟩;unfold lim at hN;have k2:=(f33 Γ ⟨zeroDoc,N⟩ (by show wRs N+wD zeroDoc<_;simp[zeroDoc,wD,cw,wDs,big];omega)).arg (vs:=[.ag [.int .i64 0,.int .i64 0,.str [],.nils,.nils,.sl (row ah N) N.length none]]) ⟨Wk.ag ⟨Wk.refl _,Wk.refl _,Wk.refl _,Wk.nils,Wk.nils,Wk.refl _,trivial⟩,trivial⟩;have hvb:=AR d;have hvr:=I1 (row ah N) N.length none;unfold goV at k1;clear X H hg ht hl hd hN;refine Y5 29 Tryz.func145 rfl rfl fun a hl g0 g1 g2 g3 g4=>?_
 refine GG ?_;refine aC k1 ?_;refine GG ?_;refine aC k2 ?_;refine GG ?_;exact⟨by simp,sls ah N,1,by simp[Tryz.f145, *],by simp[vw,Val.closed,aE]⟩
theorem xD (e:Int)(st:List Int)(ks:List Str):∀(l:List Res)(i:Nat),(fj e st ks l=none→bg (kU e st ks) l i=-1)∧(fj e st ks l≠none→(i:Int)≤bg (kU e st ks) l i)
 |[],i=>⟨fun _=>rfl,fun h=>(h rfl).elim⟩
 |x::l,i=>by
  rw[fj,bg];by_cases c:kU e st ks x=true
  ·rw[if_pos c,if_pos c];exact⟨fun h=>(by cases h),fun _=>Int.le_refl _⟩
  ·rw[if_neg c,if_neg c];obtain⟨h1,h2⟩:=xD e st ks l (i+1);exact⟨h1,fun h=>by have:=h2 h;omega⟩
@[simp] theorem Ge (s:St):(cSt s).drop 6=[]:=List.drop_of_length_le (by simp)
theorem f88 (X:XOk Γ)(H:fQ Γ)(r:Reg)(hf:FewR r)(x:Int)(h:Hop){n:Nat}{j:Jn}(hj:r.joins[n]?=some j)(hn:h.join=(n:Int))(ht:bF r x=true)(s s1:St)(hh:ky r x h s=some s1) :
  PureOk Tryz.prog Γ 88 [.ag (bN r),.int .i64 x,.ag (bn h),.ag (cSt s)] (.ag (cSt s1)):=by
 obtain⟨n1,m1,x1,post1,rfl,l1,d1,t1,i1,rfl⟩:=jr ht;obtain⟨post2,l2,d2,i2⟩:=zr hj;have hja:=jj hj hn;unfold ky yn at hh;by_cases ho:okS s=true;case neg=>rw[if_neg ho] at hh;cases hh
 rw[if_pos ho,t1,hja] at hh;unfold okS lim at ho;have ho':=of_decide_eq_true ho;obtain⟨he,hb⟩:=h;simp only at hn hh;subst hn;cases hg:jx x1.ty j.lens (n:Int) hb ⟨s.doc,[]⟩ with
 |none=>rw[hg] at hh;cases hh
 |some q=>
 obtain⟨q1,N,q3⟩:=q;rw[hg] at hh;simp only[Option.map_some] at hh;by_cases hN:wRs N<lim;case neg=>rw[if_neg hN] at hh;cases hh
 rw[if_pos hN] at hh;simp only[Option.some.injEq] at hh;have k1:=f145 Γ X H x1.ty j.lens (n:Int) hb s.doc q1 N q3 (hf.n x1 i1).2 (hf.l j i2) (by omega) hN hg;unfold lim at hN;have g1:(n1:Int)<r.schemas.length:=by omega
 have g2:n1*7≤r.schemas.length*7:=by omega
 have g3:1≤7+post1.length*7:=by omega
 have g4:(n:Int)<r.joins.length:=by omega
 have g5:n*3≤r.joins.length*3:=by omega
 have g6:2≤3+post2.length*3:=by omega
 have f1:List.take 6 (cNm x1++row cNm post1).tail=cTy x1.ty:=by show List.take 6 (cTy x1.ty++row cNm post1)=_;exact ed (bG _)
 have hNl:=gf N;obtain⟨d,L0⟩:=s;simp only at *
 clear H hf hj ho hja i1 i2 t1 ht hg;refine Y4 53 Tryz.func88 rfl rfl fun a hl g0 g1 g2 g3=>?_
 refine GG ?_;refine aM k1 ?_;clear k1;refine GG ?_;refine aq [(10,10),(33,51)] [32] (fun k a h=>∃pre rest L,N=pre++rest∧k=rest.length∧lk a 32=some (.int .i64 pre.length)∧s1=⟨d,iS L rest⟩∧wRs L≤wRs L0+wRs pre∧h=[(0,.cells (bN r) 50 false),(1,.cells (bn ⟨(n:Int),hb⟩) 92 false),(2,.cells (cSt ⟨d,L⟩) 40 false),(3,.cells [.int .i64 0,.int .i64 0,.str [],.nils,.nils,.nils] 40 false)]) ⟨[],N,L0,rfl,rfl,by simp[*],hh.symm,by simp[wRs],rfl⟩ ?_;intro a1 hk hk0 k a h hF hI;replace g7:=hF.a hk 7;replace g8:=hF.a hk 8;replace g30:=hF.a hk 30;replace g31:=hF.a hk 31;replace hl:a.length=53:=hF.len.trans (hk0.trans (by simp[*]));clear hk hk0;clear hh;obtain⟨pre,rest,L,rfl,rfl,h32,hh,hLw,rfl⟩:=hI;cases rest with
 |nil=>simp only[iS] at hh;subst hh;refine GG ?_;exact⟨by simp,.ag (cSt ⟨d,L⟩),1,by simp[Tryz.f88, *],by simp⟩
 |cons y rl=>
  have hlt:(pre.length:Int)<pre.length+(rl.length+1):=(by omega);rw[i8] at hN;simp only[wRs] at hN;have hw:=ac ((pre.length:Int)+1) (by simp[i8,wRs] at hNl;omega) (by simp[i8,wRs] at hNl;omega);have k146:=f146 Γ L y.edge y.step y.at_ (by unfold big;omega) (by unfold big;omega) (by unfold big;omega);have k147:=f147 Γ X L y (by unfold big;omega) (by unfold wR big;omega);obtain⟨u1,u2⟩:=xD y.edge y.step y.at_ L 0;have hpw:=og L y;rw[iS] at hh;generalize bg (kU y.edge y.step y.at_) L 0=p at *
  clear X;by_cases c:fj y.edge y.step y.at_ L=none
  ·rw[if_pos (by simp[c])] at hh;have c2:p<0:=(by rw[u1 c];decide);clear u1 u2;refine GG ?_;refine aC k146 ?_;refine GG ?_;refine aC k147 ?_;refine GG ?_;exact NX [(0,.cells (bN r) 50 false),(1,.cells (bn ⟨(n:Int),hb⟩) 92 false),(2,.cells (aJ d++[sls ah (jV L y)]) 40 false),(3,.cells [.int .i64 0,.int .i64 0,.str [],.nils,.nils,.nils] 40 false)] fun a2 hF2=>⟨pre++[y],rl,jV L y,by simp,rfl,(hF2.q 32),hh,by simp[i8,wRs];omega,rfl⟩
  ·have c3:(fj y.edge y.step y.at_ L).isNone=false:=by
    cases hq:fj y.edge y.step y.at_ L with
    |none=>exact(c hq).elim
    |some z=>rfl
   rw[c3] at hh;simp only[Bool.false_eq_true,if_false] at hh;have c2:¬p<0:=(by have:=u2 c;omega);clear u1 u2;refine GG ?_;refine aC k146 ?_;refine GG ?_;exact NX [(0,.cells (bN r) 50 false),(1,.cells (bn ⟨(n:Int),hb⟩) 92 false),(2,.cells (cSt ⟨d,L⟩) 40 false),(3,.cells [.int .i64 0,.int .i64 0,.str [],.nils,.nils,.nils] 40 false)] fun a2 hF2=>⟨pre++[y],rl,L,by simp,rfl,(hF2.q 32),hh,by simp[i8,wRs];omega,rfl⟩
def lN (r:Reg):Heap:=[(0,.cells [.fn 89 [] [.pp (bN r),.pr 1 0]] 149 false),(1,.cells [.fn 87 [] [.pp (bN r),.pr 0 0]] 151 false)]
def StV (v:Val)(s:St)(e:Int):Prop:=∃c,v=.tp [.ag c,.int .i64 e]∧WkL c (cSt s)∧aE c=true∧c.length=6∧ae c=true∧(e=0→c=cSt s)
def un (r:Reg)(n:Nat):Prop:=∀(x come:Int)(s s':St)(e:Int),bF r x=true→jG r n x come s=some (s',e)→
 ∃v,StV v s' e∧CallOk Tryz.prog Γ 89 [.int .i64 x,.int .i64 come,.ag (cSt s),.pp (bN r),.pr 1 0] (lN r) 2 true v (lN r) 2
theorem f87 (X:XOk Γ)(H:fQ Γ)(r:Reg)(hr:RegOk r)(hf:FewR r)(n:Nat)(ih:un Γ r n)(x:Int)(h:Hop)(hh:h∈dF r x)(s s':St)(e:Int)(ht:mM r (jG r n) x h s=some (s',e)) :
  ∃v,StV v s' e∧CallOk Tryz.prog Γ 87 [.int .i64 x,.ag (bn h),.ag (cSt s),.pp (bN r),.pr 0 0] (lN r) 2 true v (lN r) 2:=by
 obtain⟨h1,h2,_,h4,h5,m,h6,j,h7,_⟩:=hr.hop hh;unfold mM at ht;cases q1:ky r x h s with
 |none=>rw[q1] at ht;cases ht
 |some s1=>
 rw[q1] at ht;simp only at ht;have k88:=f88 Γ X H r hf x h h7 h6 h1 s s1 q1;cases q2:ju r x h s1 with
 |none=>rw[q2] at ht;cases ht
 |some p=>
 obtain⟨s2,e2⟩:=p;rw[q2] at ht;simp only at ht;have k46:=f46 Γ X H r hf x h h7 h6 h1 s1 s2 e2 q2;have hrc:=en r;have hrt:(bN r).take 2=bN r:=rfl;have hr0:=tN r;have hr1:=tO r;have hlo:=fun N=>aD (N:=N) _ hrc
 have hrl:=lV r;by_cases c2:e2=0;case neg=>
  rw[if_pos c2] at ht;cases ht;refine⟨.tp [.ag (cSt s'),.int .i64 e],⟨_,rfl,WkL.refl _,iK _,qN _,mV _,fun _=>rfl⟩,?_⟩;unfold lN;generalize bN r=cr at *
  clear ih X H hf hr hh h1 h2 h4 h5 h6 h7 q1 q2;refine J5 58 Tryz.func87 rfl rfl fun a hl g0 g1 g2 g3 g4=>?_
  refine GG ?_;refine aM k88 ?_;refine GG ?_;refine aM k46 ?_;refine GG ?_;exact⟨by simp,by simp[Tryz.f87, *],(by (repeat (first|exact aP|refine aK (by simp[V.get, *]) ?_)))⟩
 rw[if_neg (by simp[c2])] at ht;subst c2;cases q3:jG r n (cJ r h) h.join s2 with
 |none=>rw[q3] at ht;cases ht
 |some p=>
 obtain⟨s3,e3⟩:=p;rw[q3] at ht;simp only at ht;obtain⟨v3,⟨c3,rfl,w3,cc3,cl3,ck3,cz3⟩,k3⟩:=ih (cJ r h) h.join s2 s3 e3 h2 q3;have hco:=fun N=>aD (N:=N) _ cc3
 have k3':=fun N (hN:2≤N)=>k3.any (by simp[lN,aV,aS,bW,cN,aD, *]) hN
 have hct:List.take 6 c3=c3:=List.take_of_length_le (by omega);by_cases z:e3=0;case neg=>
  rw[if_pos z] at ht;cases ht;refine⟨.tp [.ag c3,.int .i64 e],⟨_,rfl,w3,cc3,cl3,ck3,cz3⟩,?_⟩;unfold lN at *
  generalize bN r=cr at *
  clear ih X H hf hr hh h1 h2 h4 h5 h6 h7 q1 q2 q3 w3 k3 cz3;refine J5 58 Tryz.func87 rfl rfl (fun a hl g0 g1 g2 g3 g4=>?_) (hl:=by simp[aS,aV,hco]);refine GG ?_;refine aM k88 ?_;refine GG ?_;refine aM k46 ?_;refine GG ?_;refine aw (k3' _ (by omega)) ?_;refine GG ?_;exact⟨by simp,by simp[Tryz.f87, *],(by (repeat (first|exact aP|refine aK (by simp[V.get, *]) ?_)))⟩
 rw[if_neg (by simp[z])] at ht;subst z;have k46b:=(f46 Γ X H r hf (cJ r h) (li h) h7 (show(li h).join=_ from h6) h2 s3 s' e ht).arg (vs:=[.ag (bN r),.int .i64 (cJ r h),.ag [.int .i64 h.join,.bool (!h.back)],.ag c3]) ⟨Wk.refl _,Wk.refl _,Wk.refl _,Wk.ag w3,trivial⟩;refine⟨.tp [.ag (cSt s'),.int .i64 e],⟨_,rfl,WkL.refl _,iK _,qN _,mV _,fun _=>rfl⟩,?_⟩;unfold lN at *
 generalize bN r=cr at *
 clear ih X H hf hr hh h1 h2 h4 h5 h6 h7 q1 q2 q3 w3 k3 cz3 ht;refine J5 58 Tryz.func87 rfl rfl fun a hl g0 g1 g2 g3 g4=>?_
 refine GG ?_;refine aM k88 ?_;refine GG ?_;refine aM k46 ?_;refine GG ?_;refine aw (k3' _ (by omega)) ?_;refine GG ?_;refine aC k46b ?_;refine GG ?_;exact⟨by simp,by simp[Tryz.f87, *],(by (repeat (first|exact aP|refine aK (by simp[V.get, *]) ?_)))⟩
theorem DO:WkL [.int .i64 0,.int .i64 0,.str [],.nils,.nils,.nils] (cSt bu):=⟨Wk.refl _,Wk.refl _,Wk.refl _,Wk.nils,Wk.nils,Wk.nils,trivial⟩
theorem f89 (X:XOk Γ)(H:fQ Γ)(r:Reg)(hr:RegOk r)(hf:FewR r)(n:Nat)(ih:un Γ r n):un Γ r (n+1):=by
 intro x come s s' e hx hfill;have k87:=fun h hh s s' e=>f87 Γ X H r hr hf n ih x h hh s s' e
 rw[jG,hr.hopsT] at hfill;by_cases ho:okS s=true;case neg=>rw[if_neg ho] at hfill;cases hfill
 rw[if_pos ho] at hfill;unfold okS lim at ho;have ho':=of_decide_eq_true ho;have k45:=f45 Γ H r x hx (fun n hn=>(hf.n n hn).2) s (by unfold big;omega);have k90:=f90 Γ r x (by have:=hf.j;omega);rw[hr.hopsT] at k90;have hlen:=ko x r.joins 0;have hln:(dF r x).length<1000000:=by have:=hf.j;unfold dF;omega
 cases q:lg (mM r (jG r n) x) come (dF r x) s (jg r x s) with
 |none=>rw[q] at hfill;cases hfill
 |some p=>
 obtain⟨s1,e1⟩:=p;rw[q] at hfill;simp only at hfill;generalize hrun:mM r (jG r n) x=run at *
 generalize jg r x s=f0 at *
 generalize dF r x=hops at *
 have hrc:=en r;have hrt:(bN r).take 2=bN r:=rfl;have hlo:=fun N=>aD (N:=N) _ hrc
 have hrl:=lV r;have hv40:=xr;clear ih X H hf hr hx ho ho' hlen hrun;obtain⟨v,hv1,hv2⟩:∃v,StV v s' e∧((e1≠0∧v=.tp [.ag [.int .i64 0,.int .i64 0,.str [],.nils,.nils,.nils],.int .i64 e1])∨(e1=0∧v=.tp [.ag (cSt s1),.int .i64 0])):=by
  by_cases z:e1=0
  ·rw[if_neg (by simp[z])] at hfill;cases hfill;exact⟨_,⟨_,rfl,WkL.refl _,iK _,qN _,mV _,fun _=>rfl⟩,.inr ⟨z,rfl⟩⟩
  ·rw[if_pos z] at hfill;cases hfill;exact⟨_,⟨_,rfl,DO,rfl,rfl,rfl,fun h=>(z h).elim⟩,.inl ⟨z,rfl⟩⟩
 refine⟨v,hv1,?_⟩;clear hv1 hfill;have hvl:aS 2 v=true:=by
  rcases hv2 with ⟨_,rfl⟩|⟨_,rfl⟩
  ·rfl
  ·simp[aS,aV]
 unfold lN at *
 generalize bN r=cr at *
 refine J5 47 Tryz.func89 rfl rfl (fun a hl g0 g1 g2 g3 g4=>?_) (hl:=hvl);refine GG ?_;refine aC k45 ?_;refine GG ?_;refine aC k90 ?_;refine GG ?_;refine aq [(12,12),(22,41)] [21,10] (fun k a h=>∃pre rest sc ec c,hops=pre++rest∧k=rest.length∧lk a 21=some (.int .i64 pre.length)∧lk a 10=some (.int .i64 ec)∧lg run come rest sc ec=some (s1,e1)∧(ec=0→c=cSt sc)∧aE c=true∧c.length=6∧ae c=true∧h=[(0,.cells [.fn 89 [] [.pp cr,.pr 1 0]] 149 false),(1,.cells [.fn 87 [] [.pp cr,.pr 0 0]] 151 false),(2,.cells c 40 false),(3,.cells [.int .i64 0,.int .i64 0,.str [],.nils,.nils,.nils] 40 false)]) ⟨[],hops,s,f0,cSt s,rfl,rfl,by simp[*],by simp[*],q,fun _=>rfl,iK _,qN _,mV _,rfl⟩ ?_;intro a1 hk hk0 k a h hF hI;replace g0:=hF.a hk 0;replace g1:=hF.a hk 1;replace g4:=hF.a hk 4;replace g7:=hF.a hk 7;replace g8:=hF.a hk 8;replace g19:=hF.a hk 19;replace g20:=hF.a hk 20;replace hl:a.length=47:=hF.len.trans (hk0.trans (by simp[*]));clear hk hk0;clear q;obtain⟨pre,rest,sc,ec,c,rfl,rfl,h21,h10,hq,hz,hcc,hcl,hck,rfl⟩:=hI;have hco:=fun N=>aD (N:=N) _ hcc
 have hct:List.take 6 c=c:=List.take_of_length_le (by omega);cases rest with
 |nil=>
  simp only[lg,Option.some.injEq,Prod.mk.injEq] at hq;obtain⟨rfl,rfl⟩:=hq;clear k87;rcases hv2 with ⟨z,rfl⟩|⟨z,rfl⟩
  ·refine GG ?_;exact⟨by simp,by simp[Tryz.f89, *],(by (repeat (first|exact aP|refine aK (by simp[V.get, *]) ?_)))⟩
  ·have:=hz z;subst this;subst z;refine GG ?_;exact⟨by simp,by simp[Tryz.f89, *],(by (repeat (first|exact aP|refine aK (by simp[V.get, *]) ?_)))⟩
 |cons h rl=>
  have hlt:(pre.length:Int)<pre.length+(rl.length+1):=(by omega);have hw:=ac ((pre.length:Int)+1) (by simp at hln;omega) (by simp at hln;omega);rw[lg] at hq;by_cases z:ec=0;case neg=>rw[if_neg (fun q=>z q.1)] at hq;clear k87 hv2 hvl;refine GG ?_;exact NX [(0,.cells [.fn 89 [] [.pp cr,.pr 1 0]] 149 false),(1,.cells [.fn 87 [] [.pp cr,.pr 0 0]] 151 false),(2,.cells c 40 false),(3,.cells [.int .i64 0,.int .i64 0,.str [],.nils,.nils,.nils] 40 false)] fun a2 hF2=>⟨pre++[h],rl,sc,ec,c,by simp,rfl,(hF2.q 21),(hF2.q 10),hq,hz,hcc,hcl,hck,rfl⟩
  by_cases zc:h.join=come
  ·rw[if_neg (fun q=>q.2 zc)] at hq;clear k87 hv2 hvl;refine GG ?_;exact NX [(0,.cells [.fn 89 [] [.pp cr,.pr 1 0]] 149 false),(1,.cells [.fn 87 [] [.pp cr,.pr 0 0]] 151 false),(2,.cells c 40 false),(3,.cells [.int .i64 0,.int .i64 0,.str [],.nils,.nils,.nils] 40 false)] fun a2 hF2=>⟨pre++[h],rl,sc,ec,c,by simp,rfl,(hF2.q 21),(hF2.q 10),hq,hz,hcc,hcl,hck,rfl⟩
  ·rw[if_pos ⟨z,zc⟩] at hq;have:=hz z;subst this;subst z;cases q2:run h sc with
   |none=>rw[q2] at hq;cases hq
   |some p=>
   obtain⟨s2,e2⟩:=p;rw[q2] at hq;simp only at hq;obtain⟨v2,⟨c2,rfl,w2,cc2,cl2,ck2,cz2⟩,k2⟩:=k87 h (by simp) sc s2 e2 (by rw[←q2]);have hco2:=fun N=>aD (N:=N) _ cc2
   have hct2:List.take 6 c2=c2:=List.take_of_length_le (by omega);have k2':=fun N (hN:2≤N)=>k2.any (by simp[aV,aS,bW,cN,aD, *]) hN
   clear k87 hv2 hvl q2 w2 k2 hz;refine GG ?_;refine aw (k2' _ (by omega)) ?_;refine GG ?_;exact NX [(0,.cells [.fn 89 [] [.pp cr,.pr 1 0]] 149 false),(1,.cells [.fn 87 [] [.pp cr,.pr 0 0]] 151 false),(2,.cells c2 40 false),(3,.cells [.int .i64 0,.int .i64 0,.str [],.nils,.nils,.nils] 40 false)] fun a2 hF2=>⟨pre++[h],rl,s2,e2,c2,by simp,rfl,(hF2.q 21),(hF2.q 10),hq,cz2,cc2,cl2,ck2,rfl⟩
theorem wu (X:XOk Γ)(H:fQ Γ)(r:Reg)(hr:RegOk r)(hf:FewR r):∀n,un Γ r n
 |0=>fun x come s s' e _ h=>by rw[jG] at h;cases h
 |n+1=>f89 Γ X H r hr hf n (wu X H r hr hf n)
def stV (s:St)(e:Int):Val:=.tp [.ag (cSt s),.int .i64 e]
theorem StV.wk {v:Val}{s:St}{e:Int}(h:StV v s e):Wk v (stV s e):=by obtain⟨c,rfl,hw,_⟩:=h;exact Wk.tp ⟨Wk.ag hw,Wk.refl _,trivial⟩
theorem f43 (X:XOk Γ)(H:fQ Γ)(r:Reg)(hr:RegOk r)(hf:FewR r)(x:Int)(hx:bF r x=true)(s s':St)(e:Int)(hs:okS s=true)(hh:hJ r x s=some (s',e)) :
  PureOk Tryz.prog Γ 43 [.ag (bN r),.int .i64 x,.ag (cSt s)] (stV s' e):=by
 unfold okS lim at hs;have hs':=of_decide_eq_true hs;have k33:=f33 Γ s (by unfold big;omega);obtain⟨v,hv,k⟩:=wu Γ X H r hr hf _ x (-1) s s' e hx hh;refine PureOk.wk ?_ hv.wk;obtain⟨c,rfl,_,hcc,hcl,hck,_⟩:=hv;have hco:=fun N=>aD (N:=N) _ hcc
 have hct:List.take 6 c=c:=List.take_of_length_le (by omega);have hrc:=en r;have hrl:=lV r;have hlo:=fun N=>aD (N:=N) _ hrc
 have hrr:=fun t=>aH t _ hrc
 have hsr:=fun t=>aH t _ (iK s)
 have hcr:=fun t=>aH t _ hcc
 have k1:=k.ren [4,6] 10 rfl (by simp[lN,co,fg,aV,aS,aD,Val.flat, *]) (by simp) (by simp[lN,cu]);simp[lN,bJ,b9,cK,ax,tau,hrr,hsr,hcr] at k1;have hrt:(bN r).take 2=bN r:=rfl;clear X H hr hf hx hs hs' hh k;generalize bN r=cr at *
 refine Y3 19 Tryz.func43 rfl rfl fun a hl g0 g1 g2=>?_
 (repeat' refine fM ?_);refine dM ?_;(repeat' first|refine eR ?_|refine gK ?_);refine db ?_;simp only[eH,cX,cV]
 refine jt (h1:=[(0,.cells cr 50 false)]) (h2:=[(1,.cells (cSt s) 40 false),(2,.cells [.int .i64 0,.int .i64 0,.str [],.nils,.nils,.nils] 40 false)]) (cr.length+20) [(3,.pp cr)] (by (repeat (first|exact aP|refine aK (by simp[V.get, *]) ?_))) (by (repeat (first|exact aP|refine aK (by simp[V.get, *]) ?_))) (by simp) (by simp only[List.mem_cons,List.not_mem_nil,or_false,forall_eq_or_imp,forall_eq];exact⟨.pr 0 0,by simp[*],od rfl hrc (by omega)⟩) ?_;simp only[setTs];refine GG ?_;refine aM k33 ?_;refine GG ?_;refine bl k1 ?_;refine GG ?_;exact⟨by simp,.tp [.ag c,.int .i64 e],1,by simp[Tryz.f43, *],by simp[vw,Val.closed,aE, *]⟩
theorem rD {r:Reg}{n:Nat}{x come:Int}{s:St}{p:St×Int}(h:jG r n x come s=some p):okS s=true:=by
 cases n with
 |zero=>rw[jG] at h;cases h
 |succ n=>
  rw[jG] at h;by_cases c:okS s=true
  ·exact c
  ·rw[if_neg c] at h;cases h
theorem CD {r:Reg}{x:Int}(h:lQ r x=0):fA r=true∧bF r x=true:=by
 unfold lQ at h;by_cases c:fA r=false
 ·rw[if_pos c] at h;cases h
 ·rw[if_neg c] at h;by_cases d:bF r x=false
  ·rw[if_pos d] at h;cases h
  ·exact⟨by simpa using c,by simpa using d⟩
theorem mK (e:Int):Wk (.tp [.ag [.int .i64 0,.int .i64 0,.str [],.nils,.nils,.nils],.int .i64 e]) (stV bu e):=Wk.tp ⟨Wk.ag DO,Wk.refl _,trivial⟩
theorem f41 (X:XOk Γ)(H:fQ Γ)(r:Reg)(hf:FewR r)(x:Int)(s s':St)(e:Int)(hh:pS r x s=some (s',e)) :
  PureOk Tryz.prog Γ 41 [.ag (bN r),.int .i64 x,.ag (cSt s)] (stV s' e):=by
 have k42:=f42 Γ H r hf x;have hv40:=xr;unfold pS at hh;by_cases c0:lQ r x=0;case neg=>
  rw[if_pos c0] at hh;cases hh;refine PureOk.wk ?_ (mK _);generalize lQ r x=m at *
  clear X H hf;refine Y3 31 Tryz.func41 rfl rfl fun a hl g0 g1 g2=>?_
  refine GG ?_;all_goals (try (refine aC k42 ?_))
  refine GG ?_;exact⟨by simp,.tp [.ag [.int .i64 0,.int .i64 0,.str [],.nils,.nils,.nils],.int .i64 m],1,by simp[Tryz.f41, *],rfl⟩
 rw[if_neg (by simp[c0])] at hh;rw[c0] at k42;obtain⟨hR,hx⟩:=CD c0;have hr:=ka hR;cases q:hJ r x s with
 |none=>rw[q] at hh;cases hh
 |some p=>
 obtain⟨s1,e1⟩:=p;rw[q] at hh;simp only at hh;have k43:=f43 Γ X H r hr hf x hx s s1 e1 (rD q) q;unfold stV at k43;by_cases c1:e1=0;case neg=>
  rw[if_pos c1] at hh;cases hh;refine PureOk.wk ?_ (mK _);clear X H hf hr hR hx q;refine Y3 31 Tryz.func41 rfl rfl fun a hl g0 g1 g2=>?_
  refine GG ?_;all_goals (try (refine aC k42 ?_))
  refine GG ?_;all_goals (try (refine aC k43 ?_))
  refine GG ?_;exact⟨by simp,.tp [.ag [.int .i64 0,.int .i64 0,.str [],.nils,.nils,.nils],.int .i64 e],1,by simp[Tryz.f41, *],rfl⟩
 rw[if_neg (by simp[c1])] at hh;subst c1;have k43b:=f43 Γ X H r hr hf x hx s1 s' e (rD hh) hh;unfold stV at *
 clear X H hf hr hR hx q hh;refine Y3 31 Tryz.func41 rfl rfl fun a hl g0 g1 g2=>?_
 refine GG ?_;all_goals (try (refine aC k42 ?_))
 refine GG ?_;all_goals (try (refine aC k43 ?_))
 refine GG ?_;all_goals (try (refine aC k43b ?_))
 refine GG ?_;exact⟨by simp,.tp [.ag (cSt s'),.int .i64 e],1,by simp[Tryz.f41, *],by simp[vw,Val.closed,aE]⟩
theorem f15 (X:XOk Γ)(H:fQ Γ)(r:Reg)(hf:FewR r)(x:Int)(d:Doc)(s':St)(e:Int)(hh:pS r x ⟨d,[]⟩=some (s',e)) :
  PureOk Tryz.prog Γ 15 [.ag (bN r),.int .i64 x,.ag (aJ d)] (stV s' e):=by
 have k41:=(f41 Γ X H r hf x ⟨d,[]⟩ s' e hh).arg (vs:=[.ag (bN r),.int .i64 x,.ag (aJ d++[.nils])]) ⟨Wk.refl _,Wk.refl _,Wk.ag (AK d),trivial⟩;have hvb:=AR d;unfold stV at *
 clear X H hf hh;refine Y3 15 Tryz.func15 rfl rfl fun a hl g0 g1 g2=>?_
 refine GG ?_;all_goals (try (refine aC k41 ?_))
 refine GG ?_;exact⟨by simp,.tp [.ag (cSt s'),.int .i64 e],1,by simp[Tryz.f15, *],by simp[vw,Val.closed,aE]⟩
theorem f44 (x y:Res)(hx:wR x<big)(hy:wR y<big):PureOk Tryz.prog Γ 44 [.ag (ah x),.ag (ah y)] (.bool (decide (dP x y=0))):=by
 unfold wR at hx hy;have h1:=f37 Γ x y (by omega) (by omega) (by omega) (by omega);generalize dP x y=p1 at *
 clear hx hy;refine Y2 9 Tryz.func44 rfl rfl fun a hl g0 g1=>?_
 refine GG ?_;all_goals (try (refine aC h1 ?_))
 refine GG ?_;all_goals first|(refine⟨by simp,.bool (decide (p1=0)),1,?_,rfl⟩;(simp[Tryz.f44, *]<;>grind [List.length_eq_zero_iff]);done)|skip
theorem wl:∀l m,Bd l m=eE (fun x y=>decide (dP x y=0)) l m
 |[],[]=>rfl
 |[],_::_=>rfl
 |_::_,[]=>rfl
 |_::l,_::m=>by rw[Bd,eE,wl l m]
theorem f16 (X:XOk Γ)(H:fQ Γ)(r:Reg)(hf:FewR r)(x:Int)(s:St)(h0:lQ r x=0)(hs:okS s=true)(h1:hJ r x s=some (s,0))(h2:hJ r x ⟨s.doc,[]⟩=some (s,0)) :
  PureOk Tryz.prog Γ 16 [.ag (bN r),.int .i64 x,.ag (cSt s)] (.bool true):=by
 have k42:=f42 Γ H r hf x;rw[h0] at k42;obtain⟨hR,hx⟩:=CD h0;have hr:=ka hR;have k43:=f43 Γ X H r hr hf x hx s s 0 hs h1;have k43b:=(f43 Γ X H r hr hf x hx ⟨s.doc,[]⟩ s 0 (rD h2) h2).arg (vs:=[.ag (bN r),.int .i64 x,.ag (aJ s.doc++[.nils])]) ⟨Wk.refl _,Wk.refl _,Wk.ag (AK s.doc),trivial⟩;unfold okS lim at hs;have hs':=of_decide_eq_true hs;have k13:=f13 Γ s s (by unfold big;omega) (by unfold big;omega);have k38:=f38 Γ s.res s.res (fun x y=>decide (dP x y=0)) (by have:=gf s.res;unfold big;omega) (by have:=gf s.res;unfold big;omega) 44 [] [] (fun u hu w hw=>f44 Γ u w (by have:=fa hu;unfold wR big;omega) (by have:=fa hw;unfold wR big;omega)) (by kernel_rfl) rfl rfl;rw[←wl,tf] at k38;have e13:eqS s s=true:=by
  have hrefl:∀l:List Res,vG l l=true:=fun l=>by
   induction l with
   |nil=>rfl
   |cons a l ih=>rw[vG,ih,(m8 a.doc a.doc).2 rfl];have:dP a a=0:=(by rw[kY];exact(iE.zero _ _).2 rfl);simp[this]
  rw[eqS,hrefl,(m8 s.doc s.doc).2 rfl];rfl
 rw[e13] at k13;have hvb:=AR s.doc;unfold stV at *
 clear X H hf hr hR hx hs hs' h1 h2 h0 e13;refine Y3 50 Tryz.func16 rfl rfl fun a hl g0 g1 g2=>?_
 refine GG ?_;all_goals (try (refine aC k42 ?_))
 refine GG ?_;all_goals (try (refine aC k43 ?_))
 refine GG ?_;all_goals (try (refine aC k13 ?_))
 refine GG ?_;all_goals (try (refine aC k43b ?_))
 refine GG ?_;all_goals (try (refine aC k38 ?_))
 refine GG ?_;exact⟨by simp,.bool true,1,by simp[Tryz.f16, *],rfl⟩
def Walk (r:Reg):Int→List Hop→Prop
 |_,[]=>True
 |x,h::w=>h∈dF r x∧Walk r (cJ r h) w
theorem Walk.snoc {r:Reg}{h:Hop}:∀{w:List Hop}{x:Int},Walk r x w→h∈dF r (kG r x w)→Walk r x (w++[h])
 |[],_,_,hh=>⟨hh,trivial⟩
 |_::w,_,hw,hh=>⟨hw.1,Walk.snoc (w:=w) hw.2 hh⟩
theorem ui {r:Reg}(H:RegOk r){a:Int}(ha:bF r a=true):∀(n:Nat)(x:Int)(w:List Hop),w.length=n→(x,w)∈bT r a→Walk r a w
 |n,x,w,hn,hx=>by
  rcases(cg ha).1.lnk x w hx with ⟨rfl,rfl⟩|⟨q,v,h,rfl,h2,h3,rfl⟩
  ·trivial
  ·cases n with
   |zero=>simp at hn
   |succ n=>refine(ui H ha n q v (by simpa using hn) h2).snoc ?_;rw[mR H ha h2];exact h3
theorem EH {r:Reg}{a b:Int}(h:(hZ r a b).2=0):fA r=true∧bF r a=true∧(b,(hZ r a b).1)∈bT r a:=by
 unfold hZ at h ⊢;by_cases c0:fA r=false
 ·rw[if_pos c0] at h;cases h
 rw[if_neg c0] at h ⊢;by_cases c1:bF r a=false∨bF r b=false
 ·rw[if_pos c1] at h;cases h
 rw[if_neg c1] at h ⊢;simp only[not_or,Bool.not_eq_false] at c0 c1;cases hg:gP b (bT r a) with
 |none=>rw[hg] at h;cases h
 |some w=>exact⟨c0,c1.1,oE hg⟩
theorem rN {r:Reg}{s':St}{e:Int}(he:e≠0):∀{w:List Hop}{x:Int}{s:St},fT r x w s=some (s',e)→s'=bu
 |[],x,s,h=>by simp only[fT,Option.some.injEq,Prod.mk.injEq] at h;exact(he h.2.symm).elim
 |k::w,x,s,h=>by
  rw[fT] at h;cases q:ju r x k s with
  |none=>rw[q] at h;cases h
  |some p=>
   rw[q] at h;simp only at h;by_cases c:p.2=0
   ·rw[if_neg (by simp[c])] at h;exact rN he h
   ·rw[if_pos c] at h;cases h;rfl
theorem f17 (X:XOk Γ)(H:fQ Γ)(r:Reg)(hf:FewR r)(x y:Int)(s s':St)(e:Int)(hh:GoR r x y s=some (s',e)) :
  PureOk Tryz.prog Γ 17 [.ag (bN r),.int .i64 x,.int .i64 y,.ag (cSt s)] (stV s' e):=by
 have k18:=f18 Γ H r hf x y;have hv40:=xr;unfold zy at k18;unfold GoR at hh;by_cases c0:(hZ r x y).2=0;case neg=>
  rw[if_pos c0] at hh;cases hh;refine PureOk.wk ?_ (mK _);generalize hZ r x y=p at *
  obtain⟨p1,p2⟩:=p;simp only at c0 k18 ⊢;clear X H hf;refine Y4 64 Tryz.func17 rfl rfl fun a hl g0 g1 g2 g3=>?_
  refine GG ?_;all_goals (try (refine aC k18 ?_))
  refine GG ?_;exact⟨by simp,.tp [.ag [.int .i64 0,.int .i64 0,.str [],.nils,.nils,.nils],.int .i64 p2],1,by simp[Tryz.f17, *],rfl⟩
 rw[if_neg (by simp[c0])] at hh;obtain⟨hR,hx,hp⟩:=EH c0;have hr:=ka hR;have hwk:=ui hr hx _ _ _ rfl hp;have hwl:=A5 hx hp;by_cases c1:okS s=false
 ·rw[if_pos c1] at hh;cases hh
 rw[if_neg c1] at hh;have hs:okS s=true:=by simpa using c1
 unfold okS lim at hs;have hs':=of_decide_eq_true hs;have k45:=f45 Γ H r x hx (fun n hn=>(hf.n n hn).2) s (by unfold big;omega);have k33:=f33 Γ s (by unfold big;omega);have hsl:=hf.s;generalize hZ r x y=p at *
 obtain⟨way,p2⟩:=p;simp only at *
 subst c0;generalize jg r x s=f0 at *
 clear hp hs hs' c1;by_cases c2:f0≠0∧way=[]
 ·rw[if_pos c2] at hh;cases hh;obtain⟨c3,rfl⟩:=c2;refine PureOk.wk ?_ (mK _);clear X H hf hr hR hx hwk;refine Y4 64 Tryz.func17 rfl rfl fun a hl g0 g1 g2 g3=>?_
  refine GG ?_;all_goals (try (refine aC k18 ?_))
  refine GG ?_;all_goals (try (refine aC k45 ?_))
  refine GG ?_;exact⟨by simp,.tp [.ag [.int .i64 0,.int .i64 0,.str [],.nils,.nils,.nils],.int .i64 e],1,by simp[Tryz.f17, *],rfl⟩
 rw[if_neg c2] at hh;obtain⟨v,hv,hv2⟩:∃v,Wk v (stV s' e)∧((e=0∧v=.tp [.ag (cSt s'),.int .i64 e])∨(e≠0∧v=.tp [.ag [.int .i64 0,.int .i64 0,.str [],.nils,.nils,.nils],.int .i64 e])):=by
  by_cases z:e=0
  ·exact⟨_,Wk.refl _,.inl ⟨z,rfl⟩⟩
  ·have:=rN z hh;subst this;exact⟨_,mK _,.inr ⟨z,rfl⟩⟩
 refine PureOk.wk ?_ hv;clear hv;by_cases z:f0=0
 ·subst z;clear c2;refine Y4 64 Tryz.func17 rfl rfl fun a hl g0 g1 g2 g3=>?_
  refine GG ?_;all_goals (try (refine aC k18 ?_))
  refine GG ?_;all_goals (try (refine aC k45 ?_))
  refine GG ?_;all_goals (try (refine aC k33 ?_))
  refine GG ?_;refine aq [(9,9),(11,11),(15,15),(46,62)] [45,13] (fun k a h=>∃pre rest xc sc,way=pre++rest∧k=rest.length∧lk a 45=some (.int .i64 pre.length)∧lk a 13=some (.int .i64 xc)∧Walk r xc rest∧fT r xc rest sc=some (s',e)∧h=[(0,.cells (bN r) 50 false),(1,.cells (cSt sc) 40 false),(2,.cells [.int .i64 0,.int .i64 0,.str [],.nils,.nils,.nils] 40 false)]) ⟨[],way,x,s,rfl,rfl,by simp[*],by simp[*],hwk,hh,rfl⟩ ?_;intro a1 hk hk0 k a h hF hI;replace g4:=hF.a hk 4;replace g7:=hF.a hk 7;replace g8:=hF.a hk 8;replace g43:=hF.a hk 43;replace g44:=hF.a hk 44;replace hl:a.length=64:=hF.len.trans (hk0.trans (by simp[*]));clear hk hk0;clear hh hwk;obtain⟨pre,rest,xc,sc,rfl,rfl,h45,h13,hwk,hh,rfl⟩:=hI;cases rest with
  |nil=>
   simp only[fT,Option.some.injEq,Prod.mk.injEq] at hh;obtain⟨rfl,rfl⟩:=hh;have hve:v=.tp [.ag (cSt sc),.int .i64 0]:=by
    rcases hv2 with ⟨_,h⟩|⟨h,_⟩
    ·exact h
    ·exact(h rfl).elim
   subst hve;clear X H hf hr hwk hv2;refine GG ?_;exact⟨by simp,.tp [.ag (cSt sc),.int .i64 0],1,by simp[Tryz.f17, *],by simp[vw,Val.closed,aE]⟩
  |cons h rl=>
   have hlt:(pre.length:Int)<pre.length+(rl.length+1):=(by omega);have hw:=ac ((pre.length:Int)+1) (by simp at hwl;omega) (by simp at hwl;omega);obtain⟨u1,u2⟩:=hwk;obtain⟨v1,v2,_,v4,v5,m,v6,j,v7,_⟩:=hr.hop u1;rw[fT] at hh;cases q:ju r xc h sc with
   |none=>rw[q] at hh;cases hh
   |some p=>
   obtain⟨s2,e2⟩:=p;rw[q] at hh;simp only at hh;have k46:=f46 Γ X H r hf xc h v7 v6 v1 sc s2 e2 q;clear X H hf hr u1 v1 v2 v4 v5 v6 v7 q;by_cases c3:e2=0
   ·rw[if_neg (by simp[c3])] at hh;subst c3;refine GG ?_;refine aC k46 ?_;refine GG ?_;exact NX [(0,.cells (bN r) 50 false),(1,.cells (cSt s2) 40 false),(2,.cells [.int .i64 0,.int .i64 0,.str [],.nils,.nils,.nils] 40 false)] fun a2 hF2=>⟨pre++[h],rl,cJ r h,s2,by simp,rfl,(hF2.q 45),(hF2.q 13),u2,hh,rfl⟩
   ·rw[if_pos c3] at hh;cases hh;have hve:v=.tp [.ag [.int .i64 0,.int .i64 0,.str [],.nils,.nils,.nils],.int .i64 e]:=by
     rcases hv2 with ⟨h,_⟩|⟨_,h⟩
     ·exact(c3 h).elim
     ·exact h
    subst hve;clear hv2;refine GG ?_;refine aC k46 ?_;refine GG ?_;exact⟨by simp,.tp [.ag [.int .i64 0,.int .i64 0,.str [],.nils,.nils,.nils],.int .i64 e],1,by simp[Tryz.f17, *],rfl⟩
 ·have hne:¬way=[]:=fun h=>c2 ⟨z,h⟩
  have hlw:¬(way.length:Int)=0:=fun h=>c2 ⟨z,List.eq_nil_of_length_eq_zero (by omega)⟩
  clear c2;refine Y4 64 Tryz.func17 rfl rfl fun a hl g0 g1 g2 g3=>?_
  refine GG ?_;all_goals (try (refine aC k18 ?_))
  refine GG ?_;all_goals (try (refine aC k45 ?_))
  refine GG ?_;all_goals (try (refine aC k33 ?_))
  refine GG ?_;refine aq [(9,9),(11,11),(15,15),(46,62)] [45,13] (fun k a h=>∃pre rest xc sc,way=pre++rest∧k=rest.length∧lk a 45=some (.int .i64 pre.length)∧lk a 13=some (.int .i64 xc)∧Walk r xc rest∧fT r xc rest sc=some (s',e)∧h=[(0,.cells (bN r) 50 false),(1,.cells (cSt sc) 40 false),(2,.cells [.int .i64 0,.int .i64 0,.str [],.nils,.nils,.nils] 40 false)]) ⟨[],way,x,s,rfl,rfl,by simp[*],by simp[*],hwk,hh,rfl⟩ ?_;intro a1 hk hk0 k a h hF hI;replace g4:=hF.a hk 4;replace g7:=hF.a hk 7;replace g8:=hF.a hk 8;replace g43:=hF.a hk 43;replace g44:=hF.a hk 44;replace hl:a.length=64:=hF.len.trans (hk0.trans (by simp[*]));clear hk hk0;clear hh hwk;obtain⟨pre,rest,xc,sc,rfl,rfl,h45,h13,hwk,hh,rfl⟩:=hI;cases rest with
  |nil=>
   simp only[fT,Option.some.injEq,Prod.mk.injEq] at hh;obtain⟨rfl,rfl⟩:=hh;have hve:v=.tp [.ag (cSt sc),.int .i64 0]:=by
    rcases hv2 with ⟨_,h⟩|⟨h,_⟩
    ·exact h
    ·exact(h rfl).elim
   subst hve;clear X H hf hr hwk hv2;refine GG ?_;exact⟨by simp,.tp [.ag (cSt sc),.int .i64 0],1,by simp[Tryz.f17, *],by simp[vw,Val.closed,aE]⟩
  |cons h rl=>
   have hlt:(pre.length:Int)<pre.length+(rl.length+1):=(by omega);have hw:=ac ((pre.length:Int)+1) (by simp at hwl;omega) (by simp at hwl;omega);obtain⟨u1,u2⟩:=hwk;obtain⟨v1,v2,_,v4,v5,m,v6,j,v7,_⟩:=hr.hop u1;rw[fT] at hh;cases q:ju r xc h sc with
   |none=>rw[q] at hh;cases hh
   |some p=>
   obtain⟨s2,e2⟩:=p;rw[q] at hh;simp only at hh;have k46:=f46 Γ X H r hf xc h v7 v6 v1 sc s2 e2 q;clear X H hf hr u1 v1 v2 v4 v5 v6 v7 q;by_cases c3:e2=0
   ·rw[if_neg (by simp[c3])] at hh;subst c3;refine GG ?_;refine aC k46 ?_;refine GG ?_;exact NX [(0,.cells (bN r) 50 false),(1,.cells (cSt s2) 40 false),(2,.cells [.int .i64 0,.int .i64 0,.str [],.nils,.nils,.nils] 40 false)] fun a2 hF2=>⟨pre++[h],rl,cJ r h,s2,by simp,rfl,(hF2.q 45),(hF2.q 13),u2,hh,rfl⟩
   ·rw[if_pos c3] at hh;cases hh;have hve:v=.tp [.ag [.int .i64 0,.int .i64 0,.str [],.nils,.nils,.nils],.int .i64 e]:=by
     rcases hv2 with ⟨h,_⟩|⟨_,h⟩
     ·exact(c3 h).elim
     ·exact h
    subst hve;clear hv2;refine GG ?_;refine aC k46 ?_;refine GG ?_;exact⟨by simp,.tp [.ag [.int .i64 0,.int .i64 0,.str [],.nils,.nils,.nils],.int .i64 e],1,by simp[Tryz.f17, *],rfl⟩
def pb (r:Reg):Bool:=decide (r.schemas.length≤20)&&decide (r.joins.length≤20)&&r.schemas.all (fun n=>decide (0<fF 20 n.ty))&&r.joins.all (fun j=>decide (0≤ew 13 j.lens))
theorem f39 (r:Reg)(hsh:∀j∈r.joins,∀s∈j.lens,Short s):PureOk Tryz.prog Γ 39 [.ag (bN r)] (.bool (pb r)):=by
 obtain⟨S,J⟩:=r;have k6:=fun t=>f6 Γ t
 have k7:∀j∈J,PureOk Tryz.prog Γ 7 [sls aL j.lens] (.bool (decide (0≤ew 13 j.lens))):=fun j hj=>f7 Γ j.lens (hsh j hj)
 clear hsh;unfold pb;simp only;by_cases c1:S.length≤20;case neg=>
  have c1':(20:Int)<S.length:=(by omega);rw[decide_eq_false c1];refine Y1 49 Tryz.func39 rfl rfl fun a hl g0=>?_
  refine GG ?_;exact⟨by simp,.bool false,1,by simp[Tryz.f39, *],rfl⟩
 have c1':¬(20:Int)<S.length:=by omega
 by_cases c2:J.length≤20;case neg=>
  have c2':(20:Int)<J.length:=(by omega);rw[decide_eq_false c2,Bool.and_false];refine Y1 49 Tryz.func39 rfl rfl fun a hl g0=>?_
  refine GG ?_;exact⟨by simp,.bool false,1,by simp[Tryz.f39, *],rfl⟩
 have c2':¬(20:Int)<J.length:=by omega
 rw[decide_eq_true c1,decide_eq_true c2];simp only[Bool.true_and,Bool.and_true];obtain⟨v,hv⟩:∃v,v=(S.all (fun n=>decide (0<fF 20 n.ty))&&J.all (fun j=>decide (0≤ew 13 j.lens))):=⟨_,rfl⟩;rw[←hv];refine Y1 49 Tryz.func39 rfl rfl fun a hl g0=>?_
 refine GG ?_;refine aq [(2,2),(4,4),(17,32)] [3] (fun k a h=>∃pre rest,S=pre++rest∧k=rest.length∧lk a 3=some (.int .i64 pre.length)∧v=(rest.all (fun n=>decide (0<fF 20 n.ty))&&J.all (fun j=>decide (0≤ew 13 j.lens)))∧h=[(0,.cells (bN ⟨S,J⟩) 50 false)]) ⟨[],S,rfl,rfl,by simp[*],hv,rfl⟩ ?_;intro a1 hk hk0 k a h hF hI;replace g1:=hF.a hk 1;replace hl:a.length=49:=hF.len.trans (hk0.trans (by simp[*]));clear hk hk0;clear hv;obtain⟨pre,rest,rfl,rfl,h3,hv,rfl⟩:=hI;cases rest with
 |nil=>
  have hv1:v=J.all (fun j=>decide (0≤ew 13 j.lens)):=(by simpa using hv);clear hv k6;simp only[List.append_nil] at *
  refine GG ?_;refine aq [(2,2),(6,6),(33,48)] [5] (fun k a h=>∃pre2 rest2,J=pre2++rest2∧k=rest2.length∧lk a 5=some (.int .i64 pre2.length)∧v=rest2.all (fun j=>decide (0≤ew 13 j.lens))∧h=[(0,.cells (bN ⟨pre,J⟩) 50 false)]) ⟨[],J,rfl,rfl,by simp[*],hv1,rfl⟩ ?_;intro a1 hk hk0 k a h hF hI;replace g1:=hF.a hk 1;replace hl:a.length=49:=hF.len.trans (hk0.trans (by simp[*]));clear hk hk0;clear hv1;obtain⟨pre2,rest2,rfl,rfl,h5,hv,rfl⟩:=hI;cases rest2 with
  |nil=>
   have hv1:v=true:=(by simpa using hv);clear hv k7;subst hv1;simp only[List.append_nil] at *
   refine GG ?_;exact⟨by simp,.bool true,1,by simp[Tryz.f39, *],rfl⟩
  |cons j rl=>
   have hlt:(pre2.length:Int)<pre2.length+(rl.length+1):=(by omega);have hw:=ac ((pre2.length:Int)+1) (by simp at c2;omega) (by simp at c2;omega);have hle:2≤3+rl.length*3:=(by omega);have k:=k7 j (by simp);rw[List.all_cons] at hv;clear k7;generalize decide (0≤ew 13 j.lens)=b at *
   cases b
   ·have hv1:v=false:=(by simpa using hv);clear hv;subst hv1;refine GG ?_;all_goals (try (refine aC k ?_))
    refine GG ?_;exact⟨by simp,.bool false,1,by simp[Tryz.f39, *],rfl⟩
   ·have hv1:v=rl.all (fun j=>decide (0≤ew 13 j.lens)):=(by simpa using hv);clear hv;refine GG ?_;all_goals (try (refine aC k ?_))
    refine GG ?_;exact NX [(0,.cells (bN ⟨pre,pre2++j::rl⟩) 50 false)] fun a2 hF2=>⟨pre2++[j],rl,by simp,rfl,(hF2.q 5),hv1,rfl⟩
 |cons n rl=>
  have hlt:(pre.length:Int)<pre.length+(rl.length+1):=(by omega);have hw:=ac ((pre.length:Int)+1) (by simp at c1;omega) (by simp at c1;omega);have hle:1≤7+rl.length*7:=(by omega);have f1:List.take 6 (cNm n++row cNm rl).tail=cTy n.ty:=(by show List.take 6 (cTy n.ty++row cNm rl)=_;exact ed (bG _));have k:=k6 n.ty;rw[List.all_cons] at hv;clear k6 k7;generalize decide (0<fF 20 n.ty)=b at *
  cases b
  ·have hv1:v=false:=(by simpa using hv);clear hv;subst hv1;refine GG ?_;all_goals (try (refine aC k ?_))
   refine GG ?_;exact⟨by simp,.bool false,1,by simp[Tryz.f39, *],rfl⟩
  ·have hv1:v=(rl.all (fun n=>decide (0<fF 20 n.ty))&&J.all (fun j=>decide (0≤ew 13 j.lens))):=(by simpa using hv);clear hv;refine GG ?_;all_goals (try (refine aC k ?_))
   refine GG ?_;exact NX [(0,.cells (bN ⟨pre++n::rl,J⟩) 50 false)] fun a2 hF2=>⟨pre++[n],rl,by simp,rfl,(hF2.q 3),hv1,rfl⟩
theorem f40z (d:Doc):PureOk Tryz.prog Γ 40 [.ag (cSt ⟨d,[]⟩)] (.bool (decide (0<fE 20 d))):=by
 have k8:=f8 Γ d;generalize decide (0<fE 20 d)=b at *
 have hz:cSt ⟨d,[]⟩=aJ d++[.sl [] 0 none]:=rfl;rw[hz];have ht:List.take 5 (aJ d++[.sl [] 0 none])=aJ d:=ed (b8 d);cases b
 ·refine Y1 53 Tryz.func40 rfl rfl fun a hl g0=>?_
  refine GG ?_;all_goals (try (refine aC k8 ?_))
  refine GG ?_;exact⟨by simp,.bool false,1,by simp[Tryz.f40, *],rfl⟩
 ·refine Y1 53 Tryz.func40 rfl rfl fun a hl g0=>?_
  refine GG ?_;all_goals (try (refine aC k8 ?_))
  refine GG ?_;refine aq [(2,2),(5,5),(17,52)] [4] (fun k a h=>k=0∧lk a 4=some (.int .i64 0)∧h=[(0,.cells (aJ d++[.sl [] 0 none]) 40 false)]) ⟨rfl,by simp[*],rfl⟩ ?_;intro a1 hk hk0 k a h hF hI;replace g1:=hF.a hk 1;replace hl:a.length=53:=hF.len.trans (hk0.trans (by simp[*]));clear hk hk0;obtain⟨rfl,h4,rfl⟩:=hI;refine GG ?_;exact⟨by simp,.bool true,1,by simp[Tryz.f40, *],rfl⟩
theorem f14 (r:Reg)(d:Doc)(hsh:∀j∈r.joins,∀s∈j.lens,Short s):PureOk Tryz.prog Γ 14 [.ag (bN r),.ag (cSt ⟨d,[]⟩)] (.bool (pb r&&decide (0<fE 20 d))):=by
 have k1:=f39 Γ r hsh;have k2:=f40z Γ d;generalize pb r=b1 at *
 generalize decide (0<fE 20 d)=b2 at *
 clear hsh;cases b1
 ·refine Y2 15 Tryz.func14 rfl rfl fun a hl g0 g1=>?_
  refine GG ?_;all_goals (try (refine aC k1 ?_))
  refine GG ?_;all_goals (try (refine aC k2 ?_))
  refine GG ?_;exact⟨by simp,.bool false,1,by simp[Tryz.f14, *],rfl⟩
 ·refine Y2 15 Tryz.func14 rfl rfl fun a hl g0 g1=>?_
  refine GG ?_;all_goals (try (refine aC k1 ?_))
  refine GG ?_;all_goals (try (refine aC k2 ?_))
  refine GG ?_;exact⟨by simp,.bool b2,1,by simp[Tryz.f14, *],rfl⟩
end
end Go.V
end
