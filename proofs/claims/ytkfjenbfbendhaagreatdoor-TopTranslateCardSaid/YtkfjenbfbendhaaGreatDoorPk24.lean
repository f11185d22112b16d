/-
  A part of a proof: A7 A8 A9 A10 L9 L10 L11 L12 L13.
-/
import Derived.Test.YtkfjenbfbendhaaGreatDoorPk15
import Derived.Test.YtkfjenbfbendhaaGreatDoorPk21
import Derived.Test.YtkfjenbfbendhaaGreatDoorPk22
import Derived.Test.YtkfjenbfbendhaaGreatDoorPk23
set_option linter.unusedSimpArgs false
set_option linter.unusedVariables false
section
set_option maxHeartbeats 4000000
namespace Go.V
open Go Go.Proofs
attribute [local irreducible] W bM WD aO yl aU bU
section
variable (Γ:Glo Tryz.prog)
attribute [local simp] veq
theorem GK {P:Program}{h:Heap}{id n:Nat}{cs us:List Val}{t:TypeId}{o:Bool}(hg:get h id=some (.cells cs t o))(h1:vwL P h n cs=some us):vw P h (n+1) (.pr id 0)=some (.pp us):=by rw[vw];simp only[Val.closed,Bool.false_eq_true,if_false,hg,Nat.zero_le,if_true,List.drop_zero,h1,Option.map_some]
theorem f78c (d:Doc)(hne:d.kids≠[])(hb:wD d<big):CallOk Tryz.prog Γ 78 [.ag (aJ d)] [] 0 true (.ag [.int .i64 d.kind,.int .i64 d.num,.str d.str,sls aZ d.keys,.so 0 0 d.kids.length none]) [(0,.cells (row aJ d.kids) 30 true)] 1:=by
 have hk:=gJ d;have hk2:=kD d;have h1:=f71 Γ d.keys (by simp only[big] at *;omega);have ih':∀x∈d.kids,PureOk Tryz.prog Γ 78 [.ag (aJ x)] (.ag (aJ x)):=fun x hx=>f78 Γ x (by have:=pP hx;simp only[big] at *;omega)
 cases hkids:d.kids with
 |nil=>exact(hne hkids).elim
 |cons x0 r0=>
  rw[hkids] at hk ih';have h2:=(f138c Γ x0 r0 (by simp at hk;simp only[big] at *;omega)).ren [] 2 rfl (by simp[co]) (by simp) rfl;simp at h2;rw[eF,hkids];obtain⟨ds,hds⟩:∃ds,x0::r0=ds:=⟨_,rfl⟩;have hlen:(r0.length:Int)+1=ds.length:=(by rw[←hds];simp);have hlen2:r0.length+1=ds.length:=(by rw[←hds];simp);have hrow:aJ x0++row aJ r0=row aJ ds:=(by rw[←hds];rfl);rw[hrow,hlen2] at h2;rw[hds] at hk ih' ⊢;clear hrow hlen hlen2 hne;refine bc Tryz.func78 rfl (by simp[Tryz.f78]) (by omega) (by simp[aS,aV]) (by simp[bW,cN,aS,aV,aD]) ?_;intro a hl ha;replace hl:a.length=29:=hl;have g0:=ha 0 _ rfl;clear ha;refine GG ?_;refine aM h1 ?_;refine GG ?_;refine bl h2 ?_;clear h1 h2;refine GG ?_;refine aq [(3,4),(17,27)] [16] (fun k a h=>h=[(7,.cells (row aJ ds) 30 true),(0,.cells [.int .i64 d.kind,.int .i64 d.num,.str d.str,sls aZ d.keys,.so 7 0 ds.length none] 30 false),(1,.cells [.int .i64 0,.int .i64 0,.str [],.nils,.nils] 30 false)]∧∃pre rest,ds=pre++rest∧k=rest.length∧lk a 16=some (.int .i64 pre.length)) ⟨by simp[V.put,aY, *],[],ds,rfl,rfl,by simp[*]⟩ ?_;intro a1 hk hk0 k a h hF hI;replace g1:=hF.a hk 1;replace g2:=hF.a hk 2;replace g14:=hF.a hk 14;replace g15:=hF.a hk 15;replace hl:a.length=29:=hF.len.trans (hk0.trans (by simp[*]));clear hk hk0;obtain⟨rfl,pre,rest,rfl,rfl,h16⟩:=hI;cases rest with
  |nil=>
   simp only[List.append_nil] at *
   refine GG ?_;exact⟨by simp,[(7,0)],.ag [.int .i64 d.kind,.int .i64 d.num,.str d.str,sls aZ d.keys,.so 7 0 pre.length none],[(7,.cells (row aJ pre) 30 true)],.ag [.int .i64 d.kind,.int .i64 d.num,.str d.str,sls aZ d.keys,.so 7 0 pre.length none],_,by simp,by simp,by simp[Tryz.f78,V.get,V.put,aY, *],by simp[ax,cK,aH],by simp[bJ,b9,aH],by (repeat (first|exact aP|refine aK (by simp[V.get, *]) ?_)),Clo.refl _ _⟩
  |cons x r=>have hlt:(pre.length:Int)<pre.length+(r.length+1):=(by omega);have hw:=ac ((pre.length:Int)+1) (by simp at hk;simp only[big] at *;omega) (by simp at hk;simp only[big] at *;omega);have hx:=ih' x (by simp);clear ih';refine GG ?_;refine aM hx ?_;clear hx;refine GG ?_;exact NX [(7,.cells (row aJ (pre++x::r)) 30 true),(0,.cells [.int .i64 d.kind,.int .i64 d.num,.str d.str,sls aZ d.keys,.so 7 0 (pre++x::r).length none] 30 false),(1,.cells [.int .i64 0,.int .i64 0,.str [],.nils,.nils] 30 false)] fun a2 hF2=>⟨rfl,pre++[x],r,by simp,rfl,(hF2.q 16)⟩
end
section
variable (Γ:Glo Tryz.prog)
attribute [local simp] veq bD eD V.del
def wf (e:Int)(bk:Bool)(subs:List Lns)(st:List Int)(ks:List Str)(s:Str)(y:Doc)(w:Wlk):Option (Wlk×Doc):=
 if okK y then (match eb e bk subs 0 st (ks++[s]) w (ofD y) with
  |some (w',f')=>some (w',ay f')
  |none=>none) else none
theorem yX {e:Int}{bk:Bool}{subs:List Lns}{st:List Int}{ks:List Str}{s:Str}{y:Doc}{w w1:Wlk}{y1:Doc}(h:wf e bk subs st ks s y w=some (w1,y1)):okK y=true∧∃f1,eb e bk subs 0 st (ks++[s]) w (ofD y)=some (w1,f1)∧y1=ay f1:=by
 unfold wf at h;split at h
 ·rename_i ho;refine⟨ho,?_⟩;split at h
  ·rename_i w2 f2 h2;cases h;exact⟨f2,h2,rfl⟩
  ·cases h
 ·cases h
theorem f199z (e:Int)(bk:Bool)(s:Lns)(st:List Int)(ks:List Str)(w:Wlk)(f:Flds)(hb:wF f<10000000000)(hk:(bv s.a f).keys=[]) :
  Mth Γ 199 e bk s st ks w f w (ar s.a (bv s.a f) f):=by
 have hwx:=ml s.a f;have k1:=(f78 Γ (bv s.a f) (by unfold big;omega)).arg (vs:=[.ag (cZ s.a f)]) ⟨oB s.a f,trivial⟩;have hcl:=fD e bk w;have hcx:=ep s.a f;have hlk:=fun(h:Heap) (hg:V.get h 0=some (.map (mF f)))=>fK bp hg s.a false
 simp only[if_false,Bool.false_eq_true] at hlk;have hu:=fun(h:Heap) (hg:V.get h 0=some (.map (mF f)))=>eI bp hg s.a (bv s.a f)
 unfold Mth plV;generalize cW e bk w=W0 at *
 generalize cZ s.a f=cx at *
 generalize bv s.a f=x at *
 have hlo:=fun N=>aD (N:=N) _ hcl
 have hlox:=fun N=>aD (N:=N) _ hcx
 have hd5:List.take 5 (aJ x)=aJ x:=List.take_of_length_le (by rw[b8];omega);clear hb hwx;refine J4 45 Tryz.func199 rfl rfl fun a hl g0 g1 g2 g3=>?_
 refine GG ?_;all_goals (try (refine aC k1 ?_))
 refine GG ?_;refine aq [(9,10),(20,40)] [19] (fun k a h=>k=0∧lk a 19=some (.int .i64 0)∧h=[(0,.map (mF f)),(1,.cells W0 135 false),(2,.cells (aL s) 122 false),(3,.cells [sls cS st,sls aZ ks] 138 false),(8,.cells (aJ x) 30 false)]) ⟨rfl,by simp[*],rfl⟩ ?_;intro a1 hk hk0 k a h hF hI;replace g0:=hF.a hk 0;replace g1:=hF.a hk 1;replace g6:=hF.a hk 6;replace g7:=hF.a hk 7;replace g8:=hF.a hk 8;replace g17:=hF.a hk 17;replace g18:=hF.a hk 18;replace hl:a.length=45:=hF.len.trans (hk0.trans (by simp[*]));clear hk hk0;obtain⟨_,h19,rfl⟩:=hI;refine GG ?_;exact⟨by simp,by simp[Tryz.f199, *],by (repeat (first|exact aP|refine aK (by simp[V.get, *]) ?_))⟩
theorem we {run:Str→Doc→Wlk→Option (Wlk×Doc)}{k:Str}{kr:List Str}{ds:List Doc}{w w':Wlk}{l:List Doc}(h:gv run (k::kr) ds w=some (w',l)):∃y dr w1 y1 l1,ds=y::dr∧run k y w=some (w1,y1)∧gv run kr dr w1=some (w',l1)∧l=y1::l1:=by
 cases ds with
 |nil=>cases h
 |cons y dr=>
  rw[gv] at h;split at h
  ·rename_i w1 y1 h1;split at h
   ·rename_i w2 l1 h2;cases h;exact⟨y,dr,w1,y1,l1,rfl,h1,h2,rfl⟩
   ·cases h
  ·cases h
theorem f199c (e:Int)(bk:Bool)(s:Lns)(st:List Int)(ks:List Str)(w:Wlk)(f:Flds)(w':Wlk)(l:List Doc)(x:Doc)(hx:bI s.a f=some x)(hR:pT Γ s.subs)(hb:wF f<10000000000)(hst:st.length+ak s.subs<1000000)(hks:ks.length+1+ak s.subs<1000000)(hne:x.kids≠[])
  (hr:gv (wf e bk s.subs st ks) x.keys x.kids w=some (w',l)):Mth Γ 199 e bk s st ks w f w' (ar s.a (.mk x.kind x.num x.str x.keys l) f):=by
 have hwx:=zI hx;have hwk:=kD x;have hwd:=gJ x;have hxD:wD x<20000000000:=by omega
 have hkid:∀y∈x.kids,wD y<big:=fun y hy=>by have:=pP hy;unfold big;omega
 have k1:=(f78c Γ x hne (by unfold big;omega)).ren [] 8 rfl (by simp[co,aV,aS,aD]) (by simp) (by simp);simp[bJ,b9,cK,ax,tau,aH] at k1;have hc:=(fq hx).1;have hlk:=fun(h:Heap) (hg:V.get h 0=some (.map (mF f)))=>fK bp hg s.a false
 simp only[if_false,Bool.false_eq_true,hc] at hlk;have hu:=fun(h:Heap) (hg:V.get h 0=some (.map (mF f))) (ls:List Doc)=>eI bp hg s.a (.mk x.kind x.num x.str x.keys ls)
 have hcW:=fun w1=>fD e bk w1
 unfold Mth plV;have hlo:=fun N w1=>aD (N:=N) _ (hcW w1)
 clear hx hc hwx hb hne;refine J4 45 Tryz.func199 rfl rfl fun a hl g0 g1 g2 g3=>?_
 refine GG ?_;refine aw k1 ?_;refine GG ?_;clear k1 hlk;refine aq [(9,10),(20,40)] [19] (fun k a h=>∃kp kr dd dr wI lr,x.keys=kp++kr∧dd.length=kp.length∧(dd++dr).length=x.kids.length∧(∀y∈dr,y∈x.kids)∧gv (wf e bk s.subs st ks) kr dr wI=some (w',lr)∧l=dd++lr∧k=kr.length∧lk a 19=some (.int .i64 dd.length)∧h=[(8,.cells (row aJ (dd++dr)) 30 true),(0,.map (mF f)),(1,.cells (cW e bk wI) 135 false),(2,.cells (aL s) 122 false),(3,.cells [sls cS st,sls aZ ks] 138 false),(9,.cells [.int .i64 x.kind,.int .i64 x.num,.str x.str,sls aZ x.keys,.so 8 0 x.kids.length none] 30 false)]) ⟨[],x.keys,[],x.kids,w,l,rfl,rfl,rfl,fun _ h=>h,hr,rfl,rfl,by simp[*],rfl⟩ ?_;intro a1 hk hk0 k a h hF hI;replace g0:=hF.a hk 0;replace g1:=hF.a hk 1;replace g6:=hF.a hk 6;replace g7:=hF.a hk 7;replace g8:=hF.a hk 8;replace g17:=hF.a hk 17;replace g18:=hF.a hk 18;replace hl:a.length=45:=hF.len.trans (hk0.trans (by simp[*]));clear hk hk0;obtain⟨kp,kr,dd,dr,wI,lr,hkk,hdl,hdn,hdm,hrr,hll,rfl,h19,rfl⟩:=hI;clear hr;cases kr with
 |nil=>
  have hw0:w'=wI∧lr=dr:=(by cases hrr;exact⟨rfl,rfl⟩);obtain⟨rfl,rfl⟩:=hw0;subst hll;have hge:¬(dd.length:Int)<x.keys.length:=(by rw[hkk,hdl];simp);have hu2:∀(h:Heap),V.get h 0=some (.map (mF f))→gj Tryz.prog 203 h (.mp 0) (.str s.a) (.ag [.int .i64 x.kind,.int .i64 x.num,.str x.str,.sl (row aZ x.keys) x.keys.length none,.sl (row aJ (dd++lr)) x.kids.length none])=some (V.put h 0 (.map (mF (ar s.a (.mk x.kind x.num x.str x.keys (dd++lr)) f)))):=fun h hg=>by have:=hu h hg (dd++lr);rw[eF] at this;unfold sls at this;rw[←hdn];exact this
  clear hu hdm hkk hdl hR hrr;have hcl:=gl (dd++lr);have hrl:(row aJ (dd++lr)).length=x.kids.length*5:=(by rw[kd,hdn]);generalize row aJ (dd++lr)=R at *
  refine jt (h1:=[(8,.cells R 30 true),(9,.cells [.int .i64 x.kind,.int .i64 x.num,.str x.str,sls aZ x.keys,.so 8 0 x.kids.length none] 30 false)]) (h2:=[(0,.map (mF f)),(1,.cells (cW e bk w') 135 false),(2,.cells (aL s) 122 false),(3,.cells [sls cS st,sls aZ ks] 138 false)]) (R.length+20) [(8,.pp [.int .i64 x.kind,.int .i64 x.num,.str x.str,sls aZ x.keys,.sl R x.kids.length none])] (by (repeat (first|exact aP|refine aK (by simp[V.get, *]) ?_))) (by (repeat (first|exact aP|refine aK (by simp[V.get, *]) ?_))) (by simp) (by simp only[List.mem_cons,List.not_mem_nil,or_false,forall_eq_or_imp,forall_eq];exact⟨.pr 9 0,by simp[*],GK rfl (aI (aG (by simp)) (aI (aG (by simp)) (aI (aG (by simp)) (aI (aG (by simp)) (aI (dD rfl (by rw[hrl,D9]) hcl (by omega)) bP)))))⟩) ?_;simp only[setTs];refine GG ?_;exact⟨by simp,by simp[Tryz.f199, *],by (repeat (first|exact aP|refine aK (by simp[V.get, *]) ?_))⟩
 |cons key kr=>
  obtain⟨y,dr',w1,y1,l1,rfl,hr1,hr2,rfl⟩:=we hrr;obtain⟨ho,f1,hf1,rfl⟩:=yX hr1;have k76:=(hR e bk st (ks++[key]) wI y w1 f1 ho (hkid y (hdm y (by simp))) hst (by simp;omega) hf1).2.ren [1] 21 rfl (by simp[co,fg,aV,aS,aD,hcW,plV]) (by simp) (by simp);simp[bJ,b9,cK,ax,tau,aH,hcW,plV] at k76;have k268:=f268 Γ st ks key (by unfold big;omega);have hlen:dd.length+1≤x.kids.length:=(by rw[←hdn];simp);have hkl:dd.length+1≤x.keys.length:=(by rw[hkk,hdl];simp);have hlt:(dd.length:Int)<x.keys.length:=(by omega);have hltN:dd.length<x.keys.length:=(by omega);have hleN:dd.length≤x.keys.length:=(by omega);have hlt2:(dd.length:Int)<x.kids.length:=(by omega);have hlt2N:dd.length<x.kids.length:=(by omega);have hw:=ac ((dd.length:Int)+1) (by omega) (by omega);have hrk:(row aZ x.keys).drop dd.length=.str key::row aZ kr:=(by rw[hkk,hdl];exact fz kp kr key);have hd5:List.take 5 (aJ y++row aJ dr')=aJ y:=List.take_left' (b8 y);have hsp:(row aJ (dd++y::dr')).take (dd.length*5)++(aJ (ay f1)++(row aJ (dd++y::dr')).drop (dd.length*5+5))=row aJ (dd++[ay f1]++dr'):=(by have:=AG b8 (dd++y::dr') dd.length (by simp) (ay f1);unfold aY at this;rw[b8,List.append_assoc] at this;rw[this];congr 1;simp);have q1:x.keys=(kp++[key])++kr:=(by rw[hkk];simp);have q2:(dd++[ay f1]).length=(kp++[key]).length:=(by simp[hdl]);have q3:(dd++[ay f1]++dr').length=x.kids.length:=(by rw[←hdn];simp);have q4:∀z∈dr',z∈x.kids:=fun z hz=>hdm z (by simp[hz])
  have q5:l=dd++[ay f1]++l1:=(by rw[hll];simp);replace q1:Hid x.keys ((kp++[key])++kr):=q1;replace q2:Eqn (dd++[ay f1]).length (kp++[key]).length:=q2;replace q3:Eqn (dd++[ay f1]++dr').length x.kids.length:=q3;clear hu hR hkid hdm hkk hdl hdn hll hrr hr1 ho hf1 hst hks hwk hwd;refine GG ?_;refine aM k268 ?_;refine GG ?_;refine bl k76 ?_;refine GG ?_;exact NX [(8,.cells (row aJ (dd++[ay f1]++dr')) 30 true),(0,.map (mF f)),(1,.cells (cW e bk w1) 135 false),(2,.cells (aL s) 122 false),(3,.cells [sls cS st,sls aZ ks] 138 false),(9,.cells [.int .i64 x.kind,.int .i64 x.num,.str x.str,sls aZ x.keys,.so 8 0 x.kids.length none] 30 false)] fun a2 hF2=>⟨kp++[key],kr,dd++[ay f1],dr',w1,l1,q1,q2,q3,q4,hr2,q5,rfl,(hF2.q 19),rfl⟩
end
section
variable (Γ:Glo Tryz.prog)
def xh (e:Int)(back:Bool)(k:Int)(a b:Str)(ty:Ty)(d:Doc)(sw:List (Int×Int))(subs:List Lns)(st:List Int)(ks:List Str)(w:Wlk)(f:Flds):Option (Wlk×Flds):=
  let x:=bv a f
  if k=1 then some (w,iI a b f)
  else if k=2 then some (kN e st ks a ty d w f)
  else if k=3 then some (iB e st ks a w f)
  else if k=4 then
   if okK x then
    match bI b (ofD x) with
    |some y=>some (w,ar a (ay (dq b (ofD x))) (ar b y f))
    |none=>some (w,ar a (ay (ofD x)) f)
   else none
  else if k=5 then
   if okK x then
    match bI b f with
    |some y=>some (w,ar a (ay (ar b y (ofD x))) (dq b f))
    |none=>some (w,ar a (ay (ofD x)) f)
   else none
  else if k=6 then some (w,ar a (.mk 3 0 [] [] [x]) f)
  else if k=7 then
   match x.kids with
   |y::_=>some (w,ar a y f)
   |[]=>none
  else if k=8 then some (w,ar a (.mk 4 (fP x.num sw) [] [] []) f)
  else if k=9 then
   if okK x then
    match eb e back subs 0 st ks w (ofD x) with
    |some (w',f')=>some (w',ar a (ay f') f)
    |none=>none
   else none
  else
   match gv (wf e back subs st ks) x.keys x.kids w with
   |some (w',l)=>some (w',ar a (.mk x.kind x.num x.str x.keys l) f)
   |none=>none
theorem AL (e:Int)(bk:Bool)(k0:Int)(a0 b0:Str)(ty:Ty)(d:Doc)(sw:List (Int×Int))(subs:List Lns)(st:List Int)(ks:List Str)(w:Wlk)(f:Flds):lP e bk (.mk k0 a0 b0 ty d sw subs) st ks w f=xh e bk (if bk then dC k0 else k0) (if bk&&decide (k0=1) then b0 else a0) (if bk&&decide (k0=1) then a0 else b0) ty d sw subs st ks w f:=by rw[lP];rfl
def tS (bk:Bool)(s:Lns):Lns:=if bk then pN s else s
theorem FC (bk:Bool)(k0:Int)(a0 b0:Str)(ty:Ty)(d:Doc)(sw:List (Int×Int))(subs:List Lns):tS bk (.mk k0 a0 b0 ty d sw subs)=.mk (if bk then dC k0 else k0) (if bk&&decide (k0=1) then b0 else a0) (if bk&&decide (k0=1) then a0 else b0) ty d sw subs:=by
 cases bk
 ·rfl
 ·by_cases h:k0=1<;>simp[tS,pN,h,Lns.kind,Lns.a,Lns.b,Lns.ty,Lns.doc,Lns.swaps,Lns.subs]
theorem I8 (bk:Bool)(s:Lns):wN (tS bk s)=wN s:=by
 obtain⟨k0,a0,b0,ty,d,sw,subs⟩:=s;rw[FC];simp only[wN];by_cases h:bk&&decide (k0=1)
 ·simp only[h,if_true];omega
 ·simp only[h,if_false,Bool.false_eq_true]
theorem wG {e:Int}{st:List Int}{ks:List Str}{a:Str}{ty:Ty}{d:Doc}{w:Wlk}{f:Flds}(h:cH f):cH (kN e st ks a ty d w f).2:=by unfold kN;split<;>exact bV _ _ h
theorem EX (X:XOk Γ)(H:fQ Γ)(e:Int)(bk:Bool)(k:Int)(a b:Str)(ty:Ty)(d:Doc)(sw:List (Int×Int))(subs:List Lns)(st:List Int)(ks:List Str)(w:Wlk)(f:Flds)(w':Wlk)(f':Flds)(hR:pT Γ subs)(hn:cH f)(hb:dV w f=true)(hs:wN (.mk k a b ty d sw subs)<30000000000)(hst:st.length+ak subs<1000000)(hks:ks.length+1+ak subs<1000000)
  (hr:xh e bk k a b ty d sw subs st ks w f=some (w',f')):cH f'∧Mth Γ (qv k) e bk (.mk k a b ty d sw subs) st ks w f w' f':=by
 have hb':wRs w.res+wRs w.needs+wF f<10000000000:=by unfold dV lim at hb;exact of_decide_eq_true hb
 have hss:sw.length<big:=by simp only[wN] at hs;unfold big;omega
 unfold xh at hr;unfold qv;simp only at hr;by_cases h1:k=1
 ·rw[if_pos h1] at hr ⊢;cases hr;exact⟨lw a b hn,f190 Γ e bk (.mk k a b ty d sw subs) st ks w f⟩
 rw[if_neg h1] at hr ⊢;by_cases h2:k=2
 ·rw[if_pos h2] at hr ⊢;have hr:=Option.some.inj hr;have e1:w'=(kN e st ks a ty d w f).1:=(by rw[hr]);have e2:f'=(kN e st ks a ty d w f).2:=(by rw[hr]);subst e1;subst e2;exact⟨wG hn,f191 Γ X H e bk (.mk k a b ty d sw subs) st ks w f (by omega) (by omega) (by omega) (by omega)⟩
 rw[if_neg h2] at hr ⊢;by_cases h3:k=3
 ·rw[if_pos h3] at hr ⊢;cases hr;exact⟨gc a hn,f192 Γ X e bk (.mk k a b ty d sw subs) st ks w f (by omega) (by omega) (by omega)⟩
 rw[if_neg h3] at hr ⊢;by_cases h4:k=4
 ·rw[if_pos h4] at hr ⊢;split at hr;case isFalse=>cases hr
  rename_i ho;have hq:some (w,ar a (ay (gX b b (ofD (bv a f)) f).1) (gX b b (ofD (bv a f)) f).2)=some (w',f'):=(by rw[←hr];unfold gX;cases bI b (ofD (bv a f))<;>rfl);cases hq;exact⟨bV _ _ (mg (dR _) hn).2,f193 Γ e bk (.mk k a b ty d sw subs) st ks w f hn (by omega) ho⟩
 rw[if_neg h4] at hr ⊢;by_cases h5:k=5
 ·rw[if_pos h5] at hr ⊢;split at hr;case isFalse=>cases hr
  rename_i ho;have hq:some (w,ar a (ay (gX b b f (ofD (bv a f))).2) (gX b b f (ofD (bv a f))).1)=some (w',f'):=(by rw[←hr];unfold gX;cases bI b f<;>rfl);cases hq;exact⟨bV _ _ (mg hn (dR _)).1,f194 Γ e bk (.mk k a b ty d sw subs) st ks w f hn (by omega) ho⟩
 rw[if_neg h5] at hr ⊢;by_cases h6:k=6
 ·rw[if_pos h6] at hr ⊢;cases hr;exact⟨bV _ _ hn,f195 Γ e bk (.mk k a b ty d sw subs) st ks w f (by omega)⟩
 rw[if_neg h6] at hr ⊢;by_cases h7:k=7
 ·rw[if_pos h7] at hr ⊢;cases hx:(bv a f).kids with
  |nil=>rw[hx] at hr;cases hr
  |cons y r=>rw[hx] at hr;cases hr;exact⟨bV _ _ hn,f196 Γ e bk (.mk k a b ty d sw subs) st ks w f y r hx⟩
 rw[if_neg h7] at hr ⊢;by_cases h8:k=8
 ·rw[if_pos h8] at hr ⊢;cases hr;exact⟨bV _ _ hn,f197 Γ e bk (.mk k a b ty d sw subs) st ks w f hss⟩
 rw[if_neg h8] at hr ⊢;by_cases h9:k=9
 ·rw[if_pos h9] at hr ⊢;split at hr;case isFalse=>cases hr
  rename_i ho;split at hr;case h_2=>cases hr
  rename_i w1 f1 h10;cases hr;exact⟨bV _ _ hn,f198 Γ e bk (.mk k a b ty d sw subs) st ks w f w' f1 hR (by omega) ho hst (by simp only[Lns.subs];omega) h10⟩
 rw[if_neg h9] at hr ⊢;split at hr;case h_2=>cases hr
 rename_i w1 l h10;cases hr;refine⟨bV _ _ hn,?_⟩;cases hk:(bv a f).keys with
 |nil=>rw[hk] at h10;have h11:w=w'∧(bv a f).kids=l:=(by cases h10;exact⟨rfl,rfl⟩);obtain⟨rfl,rfl⟩:=h11;have:=f199z Γ e bk (.mk k a b ty d sw subs) st ks w f (by omega) hk;have e1:Doc.mk (bv a f).kind (bv a f).num (bv a f).str [] (bv a f).kids=bv a f:=(by rw[←hk];generalize bv a f=z;cases z;rfl);rw[e1];exact this
 |cons s0 r0=>rw[←hk];have hne:∃y r,(bv a f).kids=y::r:=(by rw[hk] at h10;obtain⟨y,dr,_,_,_,hd,_⟩:=we h10;exact⟨y,dr,hd⟩);obtain⟨y,r,hd⟩:=hne;obtain⟨x,hx,hxk⟩:=uF hd;have hg:=(fq hx).2;rw[hg] at h10 ⊢;exact f199c Γ e bk (.mk k a b ty d sw subs) st ks w f w' l x hx hR (by omega) hst hks (by rw[hxk];simp) h10
attribute [local simp] veq bD eD V.del
def oh (e:Int)(bk:Bool)(st:List Int)(ks:List Str):List (Lns×Nat)→Wlk→Flds→Wlk→Flds→Prop
 |[],w,f,w',f'=>w=w'∧f=f'
 |p::r,w,f,w',f'=>dV w f=true∧∃w1 f1,lP e bk p.1 (st++[(p.2:Int)]) ks w f=some (w1,f1)∧oh e bk st ks r w1 f1 w' f'
theorem ug {e:Int}{bk:Bool}{st:List Int}{ks:List Str}:∀{a b:List (Lns×Nat)}{w:Wlk}{f:Flds}{w1:Wlk}{f1:Flds}{w2:Wlk}{f2:Flds},oh e bk st ks a w f w1 f1→oh e bk st ks b w1 f1 w2 f2→oh e bk st ks (a++b) w f w2 f2
 |[],b,w,f,w1,f1,w2,f2,⟨h1,h2⟩,hb=>by subst h1;subst h2;exact hb
 |p::a,b,w,f,w1,f1,w2,f2,⟨h0,w3,f3,h1,h2⟩,hb=>⟨h0,w3,f3,h1,ug h2 hb⟩
theorem ip {e:Int}{st:List Int}{ks:List Str}:∀{l:List Lns}{k:Nat}{w:Wlk}{f:Flds}{w':Wlk}{f':Flds},eb e false l k st ks w f=some (w',f')→oh e false st ks (l.zipIdx k) w f w' f'∧dV w' f'=true∧dV w f=true
 |[],k,w,f,w',f',h=>by
  rw[eb] at h;split at h
  ·rename_i hs;cases h;exact⟨⟨rfl,rfl⟩,hs,hs⟩
  ·cases h
 |s::l,k,w,f,w',f',h=>by
  rw[eb,if_neg (by simp)] at h;split at h
  ·rename_i hs;split at h
   ·rename_i w1 f1 h1;have ih:=ip h;exact⟨⟨hs,w1,f1,h1,ih.1⟩,ih.2.1,hs⟩
   ·cases h
  ·cases h
theorem io {e:Int}{st:List Int}{ks:List Str}:∀{l:List Lns}{k:Nat}{w:Wlk}{f:Flds}{w':Wlk}{f':Flds},eb e true l k st ks w f=some (w',f')→oh e true st ks (l.zipIdx k).reverse w f w' f'∧dV w' f'=true∧dV w f=true
 |[],k,w,f,w',f',h=>by
  rw[eb] at h;split at h
  ·rename_i hs;cases h;exact⟨⟨rfl,rfl⟩,hs,hs⟩
  ·cases h
 |s::l,k,w,f,w',f',h=>by
  rw[eb,if_pos rfl] at h;split at h
  ·rename_i w1 f1 h1;have ih:=io h1;split at h
   ·rename_i w2 f2 h2;split at h
    ·rename_i hs;cases h;refine⟨?_,hs,ih.2.2⟩;rw[List.zipIdx_cons,List.reverse_cons];exact ug ih.1 ⟨ih.2.1,w',f',h2,rfl,rfl⟩
    ·cases h
   ·cases h
  ·cases h
def its (bk:Bool)(l:List Lns):List (Lns×Nat):=if bk then (l.zipIdx 0).reverse else l.zipIdx 0
theorem CR {e:Int}{bk:Bool}{st:List Int}{ks:List Str}{l:List Lns}{w:Wlk}{f:Flds}{w':Wlk}{f':Flds}(h:eb e bk l 0 st ks w f=some (w',f')):oh e bk st ks (its bk l) w f w' f':=by
 cases bk
 ·exact(ip h).1
 ·exact(io h).1
theorem zq (bk:Bool)(l:List Lns):(its bk l).length=l.length:=by unfold its;split<;>simp
theorem DP {l:List Lns}{pre r:List (Lns×Nat)}{s:Lns}{j k:Nat}(h:l.zipIdx k=pre++(s,j)::r):j=k+pre.length∧∃lp lr,l=lp++s::lr∧lp.length=pre.length:=by
 induction l generalizing k pre with
 |nil=>simp at h
 |cons x l ih=>
  rw[List.zipIdx_cons] at h;cases pre with
  |nil=>simp only[List.nil_append,List.cons.injEq,Prod.mk.injEq] at h;obtain⟨⟨rfl,rfl⟩,_⟩:=h;exact⟨by simp,[],l,rfl,rfl⟩
  |cons p pre=>simp only[List.cons_append,List.cons.injEq] at h;obtain⟨h1,lp,lr,rfl,h3⟩:=ih h.2;refine⟨by simp;omega,x::lp,lr,rfl,by simp[h3]⟩
theorem Fh {bk:Bool}{l:List Lns}{pre r:List (Lns×Nat)}{s:Lns}{j:Nat}(h:its bk l=pre++(s,j)::r):(if bk then j+pre.length+1=l.length else j=pre.length)∧∃lp lr,l=lp++s::lr∧lp.length=j:=by
 have hl:=zq bk l;unfold its at h;cases bk
 ·simp only[Bool.false_eq_true,if_false] at h ⊢;obtain⟨h1,lp,lr,h2,h3⟩:=DP h;exact⟨by omega,lp,lr,h2,by omega⟩
 ·simp only[if_true] at h ⊢;have h':=congrArg List.reverse h;rw[List.reverse_reverse,List.reverse_append,List.reverse_cons,List.append_assoc] at h';simp only[List.cons_append,List.nil_append] at h';obtain⟨h1,lp,lr,h2,h3⟩:=DP h';have hll:l.length=lp.length+1+lr.length:=(by rw[h2];simp;omega);have hzl:=congrArg List.length h';simp at hzl h1 h3;exact⟨by omega,lp,lr,h2,by omega⟩
theorem Cf {e:Int}{bk:Bool}{k:Int}{a b:Str}{ty:Ty}{d:Doc}{sw:List (Int×Int)}{subs:List Lns}{st:List Int}{ks:List Str}{w:Wlk}{f:Flds}{w':Wlk}{f':Flds}(hn:cH f)(hr:xh e bk k a b ty d sw subs st ks w f=some (w',f')):cH f':=by
 unfold xh at hr;simp only at hr;split at hr
 ·cases hr;exact lw a b hn
 split at hr
 ·have e2:f'=(kN e st ks a ty d w f).2:=(by rw[Option.some.inj hr]);subst e2;exact wG hn
 split at hr
 ·cases hr;exact gc a hn
 split at hr
 ·split at hr
  ·split at hr<;>cases hr<;>first|exact bV _ _ (bV _ _ hn)|exact bV _ _ hn
  ·cases hr
 split at hr
 ·split at hr
  ·split at hr<;>cases hr<;>first|exact bV _ _ (gc _ hn)|exact bV _ _ hn
  ·cases hr
 split at hr
 ·cases hr;exact bV _ _ hn
 split at hr
 ·split at hr<;>cases hr;exact bV _ _ hn
 split at hr
 ·cases hr;exact bV _ _ hn
 split at hr
 ·split at hr
  ·split at hr<;>cases hr;exact bV _ _ hn
  ·cases hr
 ·split at hr<;>cases hr;exact bV _ _ hn
theorem yE {e:Int}{bk:Bool}{st:List Int}{ks:List Str}:∀{r:List (Lns×Nat)}{w:Wlk}{f:Flds}{w':Wlk}{f':Flds},cH f→oh e bk st ks r w f w' f'→cH f'
 |[],w,f,w',f',h,hw=>by obtain⟨_,h2⟩:=hw;subst h2;exact h
 |p::r,w,f,w',f',h,hw=>by obtain⟨_,w1,f1,h1,h2⟩:=hw;obtain⟨⟨k0,a0,b0,ty,d,sw,subs⟩,j⟩:=p;rw[AL] at h1;exact yE (Cf h h1) h2
theorem wb {l:List Lns}{s:Lns}(h:s∈l):ak s.subs+1≤ak l:=by
 induction l with
 |nil=>cases h
 |cons x l ih=>
  rw[ak];rcases List.mem_cons.1 h with rfl|h
  ·have:kf s=ak s.subs:=(by cases s;rfl);omega
  ·have:=ih h;omega
theorem Cg (X:XOk Γ)(H:fQ Γ)(e:Int)(bk:Bool)(s:Lns)(st:List Int)(ks:List Str)(w:Wlk)(f:Flds)(w':Wlk)(f':Flds)(hR:pT Γ s.subs)(hn:cH f)(hb:dV w f=true)(hs:wN s<30000000000)(hst:st.length+ak s.subs<1000000)(hks:ks.length+1+ak s.subs<1000000)
  (hr:lP e bk s st ks w f=some (w',f')):cH f'∧Mth Γ (qv (tS bk s).kind) e bk (tS bk s) st ks w f w' f':=by
 have hw:wN (tS bk s)<30000000000:=by rw[I8];exact hs
 clear hs;obtain⟨k0,a0,b0,ty,d,sw,subs⟩:=s;rw[AL] at hr;rw[FC] at hw ⊢;exact EX Γ X H e bk _ _ _ ty d sw subs st ks w f w' f' hR hn hb hw hst hks hr
theorem F2 (e:Int)(bk:Bool)(w:Wlk):(cW e bk w).length=5:=rfl
theorem D7 (e:Int)(bk:Bool)(w:Wlk):(cW e bk w)[1]?=some (.bool bk):=rfl
theorem F1 (e:Int)(bk:Bool)(w:Wlk)(h:1<(cW e bk w).length):(cW e bk w)[1]=.bool bk:=rfl
attribute [local simp] F2 D7 F1
theorem r9 (k:Int):bS Tryz.prog (qv k)=true:=by
 unfold qv;repeat' split
 all_goals kernel_rfl
theorem f76 (X:XOk Γ)(H:fQ Γ)(l:List Lns)(hw:wNs l<30000000000)(hRs:∀s∈l,pT Γ s.subs):pT Γ l:=by
 intro e bk st ks w d w' f' ho hd hst hks hr;have hwk:=CR hr;have hsm:dV w' f'=true:=by cases bk;exact(ip hr).2.1;exact(io hr).2.1
 have hwf:wF f'<100000000000:=by unfold dV lim at hsm;have:=of_decide_eq_true hsm;omega
 have k130:=(f130 Γ d hd ((vY d).1 ho)).ren [] 5 rfl (by simp[co,aV,aS,aD]) (by simp) (by simp);simp[bJ,b9,cK,ax,tau,aH] at k130;have hno:=dR d;have hd5:List.take 5 (aJ d)=aJ d:=List.take_of_length_le (by rw[b8];omega);generalize ofD d=f0 at *
 have hno':=yE hno hwk;refine⟨hno',?_⟩;have hcW:=fun w1=>fD e bk w1
 have hlo:=fun N w1=>aD (N:=N) _ (hcW w1)
 unfold plV;refine J4 52 Tryz.func76 rfl rfl fun a hl g0 g1 g2 g3=>?_
 refine GG ?_;refine aw k130 ?_;refine GG ?_;refine aq [(10,12),(18,49)] [17] (fun k a h=>∃pre rest wI fI,its bk l=pre++rest∧k=rest.length∧lk a 17=some (.int .i64 pre.length)∧oh e bk st ks rest wI fI w' f'∧cH fI∧h=[(5,.map (mF fI)),(0,.cells (cW e bk wI) 135 false),(1,.cells (aJ d) 30 false),(2,.cells [sls cS st,sls aZ ks] 138 false),(3,.cells [.int .i64 0,.int .i64 0,.str [],.nils,.nils] 30 false)]) ⟨[],its bk l,w,f0,rfl,rfl,by simp[*],hwk,hno,rfl⟩ ?_;intro a1 hk hk0 k a h hF hI;replace g0:=hF.a hk 0;replace g1:=hF.a hk 1;replace g7:=hF.a hk 7;replace g8:=hF.a hk 8;replace g9:=hF.a hk 9;replace g16:=hF.a hk 16;replace hl:a.length=52:=hF.len.trans (hk0.trans (by simp[*]));clear hk hk0;obtain⟨pre,rest,wI,fI,hit,rfl,h17,hwr,hnI,rfl⟩:=hI;have hil:=zq bk l;cases rest with
 |nil=>obtain⟨rfl,rfl⟩:=hwr;have hge:¬(pre.length:Int)<l.length:=(by rw[←hil,hit];simp);have k134:=(f134 Γ fI hnI hwf).ren [5] 12 rfl (by simp[co,aV,aS]) (by simp) (by simp);simp[bJ,b9,cK,ax,tau,aH] at k134;clear hit hil hwk hno hRs hr;refine GG ?_;refine aw k134 ?_;refine GG ?_;exact⟨by simp,by simp[Tryz.f76,V.get, *],by (repeat (first|exact aP|refine aK (by simp[V.get, *]) ?_))⟩
 |cons p r=>
  obtain⟨s,j⟩:=p;obtain⟨hat,lp,lr,hl1,hlp⟩:=Fh hit;obtain⟨hsw,w1,f1,hst1,hwr1⟩:=hwr;simp only at hst1;have hsl:s∈l:=(by rw[hl1];simp);have hln:pre.length<l.length:=(by rw[←hil,hit];simp<;>omega);have hlb:l.length<30000000000:=(by have:=jX l;omega);have hdp:=wb hsl;have hwn:=dg hsl;obtain⟨hn1,hm⟩:=Cg Γ X H e bk s (st++[(j:Int)]) ks wI fI w1 f1 (hRs s hsl) hnI hsw (by omega) (by simp;omega) (by omega) hst1;have k131:=f131 Γ s (by unfold big;omega);have k133:=f133 Γ st ks (j:Int) (by unfold big;omega);obtain⟨lq,s0,lq2,hl2,hlq⟩:∃lq s0 lq2,l=lq++s0::lq2∧lq.length=pre.length:=⟨l.take pre.length,l[pre.length],l.drop (pre.length+1),by rw[List.getElem_cons_drop];simp,by simp;omega⟩;have hrd0:(row aL l).drop (pre.length*16)=aL s0++row aL lq2:=(by rw[hl2,←hlq];exact qM lq lq2 s0);have hta0:List.take 16 (aL s0++row aL lq2)=aL s0:=List.take_left' (fB s0);have hrd1:(row aL l).drop (j*16)=aL s++row aL lr:=(by rw[hl1,←hlp];exact qM lp lr s);have hta1:List.take 16 (aL s++row aL lr)=aL s:=List.take_left' (fB s);have hjl:j<l.length:=(by rw[hl1];simp;omega);have hrl:(row aL l).length=l.length*16:=na l;have hw2:=ac ((pre.length:Int)+1) (by omega) (by omega);have hit':its bk l=(pre++[(s,j)])++r:=(by rw[hit];simp);replace hit':Hid (its bk l) ((pre++[(s,j)])++r):=hit';have z1:(pre.length:Int)<l.length:=(by omega);have z2:pre.length≤l.length:=(by omega);have z3:pre.length*16≤l.length*16:=(by omega);have z4:(j:Int)<l.length:=(by omega);have z5:j≤l.length:=(by omega);have z6:j*16≤l.length*16:=(by omega);have z7:(0:Int)≤j:=(by omega);have hdz:List.drop 16 (aL s0)=[]:=List.drop_eq_nil_of_le (by rw[fB];omega);clear hRs hwk hr hno' hwf hsm hno k130 ho hd hst hks hsw hst1 hsl hdp hwn hil hw hnI;unfold sls at *
  generalize row aL l=L at *
  generalize l.length=LL at *
  cases bk
  ·simp only[Bool.false_eq_true,if_false] at hat;have hlz:s0=s∧lq2=lr:=(by rw[hl2] at hl1;have:=List.append_inj hl1 (by omega);simp at this;exact this.2);obtain⟨rfl,rfl⟩:=hlz;subst hat;clear hl1 hl2 hit hlq hlp;have k132:=(f132 Γ s0.kind).ren [0] 19 rfl (by simp[co,aV,aS]) (by simp) (by simp);simp[bJ,b9,cK,ax,tau] at k132;simp only[tS,Bool.false_eq_true,if_false] at hm;unfold Mth plV sls at hm;have hm':=hm.ren [5,0] 19 rfl (by simp[co,fg,aV,aS,aD,hcW]) (by simp) (by simp);simp[bJ,b9,cK,ax,tau,aH,hcW] at hm';clear hm;refine GG ?_;refine jB k132 ?_;refine GG ?_;refine aM k133 ?_;refine GG ?_;refine bl hm' ?_ (hp:=r9 _);refine GG ?_;exact NX [(5,.map (mF f1)),(0,.cells (cW e false w1) 135 false),(1,.cells (aJ d) 30 false),(2,.cells [.sl (row cS st) st.length none,.sl (row aZ ks) ks.length none] 138 false),(3,.cells [.int .i64 0,.int .i64 0,.str [],.nils,.nils] 30 false)] fun a2 hF2=>⟨pre++[(s0,pre.length)],r,w1,f1,hit',rfl,(hF2.q 17),hwr1,hn1,rfl⟩
  ·simp only[if_true] at hat;have y1:=ac ((LL:Int)-1) (by omega) (by omega);have y2:IntKind.i64.wrap ((LL:Int)-1-pre.length)=j:=(by rw[ac _ (by omega) (by omega)];omega);clear hl1 hl2 hit hlq hlp;have k132:=(f132 Γ (tS true s).kind).ren [0] 30 rfl (by simp[co,aV,aS]) (by simp) (by simp);simp[bJ,b9,cK,ax,tau] at k132;have ets:tS true s=pN s:=rfl;rw[ets] at k132 hm;unfold Mth plV sls at hm;have hm':=hm.ren [5,0] 30 rfl (by simp[co,fg,aV,aS,aD,hcW]) (by simp) (by simp);simp[bJ,b9,cK,ax,tau,aH,hcW] at hm';generalize pN s=s2 at *
   clear hm ets;refine GG ?_;refine aC k131 ?_;refine GG ?_;refine jB k132 ?_;refine GG ?_;refine aM k133 ?_;refine GG ?_;refine bl hm' ?_ (hp:=r9 _);refine GG ?_;exact NX [(5,.map (mF f1)),(0,.cells (cW e true w1) 135 false),(1,.cells (aJ d) 30 false),(2,.cells [.sl (row cS st) st.length none,.sl (row aZ ks) ks.length none] 138 false),(3,.cells [.int .i64 0,.int .i64 0,.str [],.nils,.nils] 30 false)] fun a2 hF2=>⟨pre++[(s,j)],r,w1,f1,hit',rfl,(hF2.q 17),hwr1,hn1,rfl⟩
end
section
variable (Γ:Glo Tryz.prog)
attribute [local simp] veq ee
def bt (R:Ty)(e:Int):Val:=.tp [.ag (cTy R),.int .i64 e]
theorem f180 (r:Ty)(f:Fld)(s:Lns)(hb:wT r+wN s+wT f.ty+9<big)(hg:gd r):PureOk Tryz.prog Γ 180 [.ag (cTy r),.ag (ad f),.ag (aL s)] (if dA s.b=false then bt r 1 else if (fieldR r s.b).isSome then bt r 5 else bt (dv (bE r s.a) (.mk s.b f.opt f.ty)) 0):=by
 have hw:=eu s;have h1:=f127 Γ r s.b (by omega);have h2:=f107 Γ s.b (by omega);have h3:=f260 Γ r s.a (by omega);have h4:aj s.b r.fields=none→PureOk Tryz.prog Γ 178 [.ag (cTy (bE r s.a)),.ag (.str s.b :: .bool f.opt::cTy f.ty)] (.ag (cTy (dv (bE r s.a) (.mk s.b f.opt f.ty)))):=fun he=>f178 Γ (bE r s.a) (.mk s.b f.opt f.ty) (by have:=du (bE r s.a);have:=mr r s.a;omega) (pt hg.srt _) (by rw[nt];simp[Fld.name,he])
 rw[dw f];unfold nE at h1;rw[hg.fieldR] at *
 have hcl:=bG f.ty;have hcc:=eW f.ty;unfold bt;generalize bE r s.a=r1 at *
 generalize dv r1 (.mk s.b f.opt f.ty)=r2 at *
 cases hn:dA s.b with
 |false=>
  rw[hn] at h2;generalize (aj s.b r.fields).isSome=B at *
  generalize (aj s.b r.fields).getD lL=G at *
  clear h3 h4 hb hg hw;simp only[if_true];refine Y3 35 Tryz.func180 rfl rfl fun a hl g0 g1 g2=>?_
  refine GG ?_;all_goals (try (refine aC h1 ?_))
  refine GG ?_;all_goals (try (refine aC h2 ?_))
  refine GG ?_;exact⟨by simp,.tp [.ag (cTy r),.int .i64 1],1,by simp[Tryz.f180,V.get,V.put,aY, *],aG (by simp[Val.closed,aE])⟩
 |true=>
  rw[hn] at h2;cases hf:aj s.b r.fields with
  |some g=>
   rw[hf] at h1;simp only[Option.isSome_some,if_true,Option.getD_some,Bool.true_eq_false,if_false] at h1 ⊢;clear h3 h4 hb hg hw;refine Y3 35 Tryz.func180 rfl rfl fun a hl g0 g1 g2=>?_
   refine GG ?_;all_goals (try (refine aC h1 ?_))
   refine GG ?_;all_goals (try (refine aC h2 ?_))
   refine GG ?_;exact⟨by simp,.tp [.ag (cTy r),.int .i64 5],1,by simp[Tryz.f180,V.get,V.put,aY, *],aG (by simp[Val.closed,aE])⟩
  |none=>
   rw[hf] at h1;replace h4:=h4 hf;simp only[Option.isSome_none,if_true,Option.getD_none,Bool.true_eq_false,Bool.false_eq_true,if_false] at h1 ⊢;clear hb hg hw;refine Y3 35 Tryz.func180 rfl rfl fun a hl g0 g1 g2=>?_
   refine GG ?_;all_goals (try (refine aC h1 ?_))
   refine GG ?_;all_goals (try (refine aC h2 ?_))
   refine GG ?_;refine aM h3 ?_;refine GG ?_;refine aM h4 ?_;refine GG ?_;exact⟨by simp,.tp [.ag (cTy r2),.int .i64 0],1,by simp[Tryz.f180,V.get,V.put,aY, *],aG (by simp[Val.closed,aE])⟩
theorem f181 (H:fQ Γ)(r:Ty)(f:Fld)(s:Lns)(hb:wT r+wN s+wT f.ty+9<big):PureOk Tryz.prog Γ 181 [.ag (cTy r),.ag (ad f),.ag (aL s)] (if eqT f.ty s.ty=false then bt r 7 else bt (bE r s.a) (eQ s.ty s.doc)):=by
 have hw:=eu s;have h1:=f22 Γ f.ty s.ty (by omega) (by omega);have h2:=f260 Γ r s.a (by omega);have h3:=f179 Γ H s.ty s.doc (by omega) (by omega);rw[dw f];have hcl:=bG f.ty;have hcc:=eW f.ty;unfold bt;generalize bE r s.a=r1 at *
 generalize eQ s.ty s.doc=e at *
 clear hw hb;cases hq:eqT f.ty s.ty with
 |false=>
  rw[hq] at h1;simp only[if_true];refine Y3 24 Tryz.func181 rfl rfl fun a hl g0 g1 g2=>?_
  refine GG ?_;all_goals (try (refine aC h1 ?_))
  refine GG ?_;exact⟨by simp,.tp [.ag (cTy r),.int .i64 7],1,by simp[Tryz.f181,V.get,V.put,aY, *],aG (by simp[Val.closed,aE])⟩
 |true=>
  rw[hq] at h1;simp only[Bool.true_eq_false,if_false];refine Y3 24 Tryz.func181 rfl rfl fun a hl g0 g1 g2=>?_
  refine GG ?_;all_goals (try (refine aC h1 ?_))
  refine GG ?_;refine aM h2 ?_;refine GG ?_;refine aM h3 ?_;refine GG ?_;exact⟨by simp,.tp [.ag (cTy r1),.int .i64 e],1,by simp[Tryz.f181,V.get,V.put,aY, *],aG (by simp[Val.closed,aE])⟩
@[simp] theorem K0 (t:Ty):cU Tryz.prog 125 [(0,.ag (cTy t))]=some (cTy t):=by cases t;kernel_rfl
theorem po (r:Ty)(n:Str)(u:Ty):(eq r n u).fields=gE n u r.fields:=rfl
theorem C5 (r:Ty)(n:Str)(u:Ty):(eq r n u).fields.length≤n.length+1+wT u+wT r:=by
 have h1:=vx (eq r n u).fields;rw[po] at *
 unfold gE at *
 rw[Bu] at h1;have h2:=B7 n r.fields;have h3:=jA r;simp only[Fld.name,Fld.ty] at h1;omega
theorem f182 (r:Ty)(f:Fld)(s:Lns)(hb:wT r+wN s+wT f.ty+9<big)(hg:gd r)(hfa:aj s.a r.fields=some f) :
  PureOk Tryz.prog Γ 182 [.ag (cTy r),.ag (ad f),.ag (aL s)] (if f.ty.kind=1 then (match aj s.b f.ty.fields with|none=>bt r 9|some g=>if g.opt=true then bt r 7 else if (aj s.b r.fields).isSome then bt r 5 else bt (dv (eq r s.a (bE f.ty s.b)) g) 0) else bt r 7):=by
 have hw:=eu s;have hty:=(hg.fld hfa).2.2;have hwo:=mr f.ty s.b;have h1:=f127 Γ f.ty s.b (by omega);have h2:=f127 Γ r s.b (by omega);have h3:=f260 Γ f.ty s.b (by omega);have h4:=f261 Γ r s.a (bE f.ty s.b) (by omega) hg.srt;rw[dw f];have hcl:=bG f.ty;have hcc:=eW f.ty;unfold nE at h1 h2;rw[hg.fieldR] at h2;unfold bt;by_cases hk:f.ty.kind=1;case neg=>
  rw[if_neg hk];clear h1 h2 h3 h4;refine Y3 57 Tryz.func182 rfl rfl fun a hl g0 g1 g2=>?_
  refine GG ?_;exact⟨by simp,.tp [.ag (cTy r),.int .i64 7],1,by simp[Tryz.f182,V.get,V.put,aY, *],aG (by simp[Val.closed,aE])⟩
 rw[if_pos hk];unfold fieldR at h1;rw[if_pos hk] at h1;cases hfb:aj s.b f.ty.fields with
 |none=>
  simp only;rw[hfb] at h1;simp only[Option.isSome_none,Option.getD_none] at h1;generalize (aj s.b r.fields).isSome=B at *
  generalize (aj s.b r.fields).getD lL=G at *
  clear h3 h4 hb hwo hw hfa hty;refine Y3 57 Tryz.func182 rfl rfl fun a hl g0 g1 g2=>?_
  refine GG ?_;all_goals (try (refine aC h1 ?_))
  refine GG ?_;all_goals (try (refine aC h2 ?_))
  refine GG ?_;exact⟨by simp,.tp [.ag (cTy r),.int .i64 9],1,by simp[Tryz.f182,V.get,V.put,aY, *],aG (by simp[Val.closed,aE])⟩
 |some g=>
  simp only;rw[hfb] at h1;simp only[Option.isSome_some,Option.getD_some] at h1;cases ho:g.opt with
  |true=>
   simp only[if_true];generalize (aj s.b r.fields).isSome=B at *
   generalize (aj s.b r.fields).getD lL=G at *
   clear h3 h4 hb hwo hw hfa hty;refine Y3 57 Tryz.func182 rfl rfl fun a hl g0 g1 g2=>?_
   refine GG ?_;all_goals (try (refine aC h1 ?_))
   refine GG ?_;all_goals (try (refine aC h2 ?_))
   refine GG ?_;exact⟨by simp,.tp [.ag (cTy r),.int .i64 7],1,by simp[Tryz.f182,V.get,V.put,aY, *],aG (by simp[Val.closed,aE])⟩
  |false=>
   simp only[Bool.false_eq_true,if_false];cases hrb:aj s.b r.fields with
   |some q=>
    rw[hrb] at h2;simp only[Option.isSome_some,if_true,Option.getD_some] at h2 ⊢;clear h3 h4 hb hwo hw hfa hty;refine Y3 57 Tryz.func182 rfl rfl fun a hl g0 g1 g2=>?_
    refine GG ?_;all_goals (try (refine aC h1 ?_))
    refine GG ?_;all_goals (try (refine aC h2 ?_))
    refine GG ?_;exact⟨by simp,.tp [.ag (cTy r),.int .i64 5],1,by simp[Tryz.f182,V.get,V.put,aY, *],aG (by simp[Val.closed,aE])⟩
   |none=>
    rw[hrb] at h2;simp only[Option.isSome_none,Bool.false_eq_true,if_false,Option.getD_none] at h2 ⊢;have hab:s.a≠s.b:=fun e=>by rw[e,hrb] at hfa;cases hfa
    have h5:=f178 Γ (eq r s.a (bE f.ty s.b)) g (by have:=C5 r s.a (bE f.ty s.b);omega) (fJ _ _ hg.srt) (by rw[po,bx,(cY hfb).1,if_neg hab,hrb]);generalize dv (eq r s.a (bE f.ty s.b)) g=R2 at *
    generalize eq r s.a (bE f.ty s.b)=R1 at *
    generalize bE f.ty s.b=R0 at *
    clear hb hwo hw hfa hty;refine Y3 57 Tryz.func182 rfl rfl fun a hl g0 g1 g2=>?_
    refine GG ?_;all_goals (try (refine aC h1 ?_))
    refine GG ?_;all_goals (try (refine aC h2 ?_))
    refine GG ?_;refine aM h3 ?_;refine GG ?_;refine aM h4 ?_;refine GG ?_;refine aM h5 ?_;refine GG ?_;exact⟨by simp,.tp [.ag (cTy R2),.int .i64 0],1,by simp[Tryz.f182,V.get,V.put,aY, *],aG (by simp[Val.closed,aE])⟩
theorem GD (r:Ty)(n:Str)(u:Ty):wT (eq r n u)≤wT r+n.length+1+wT u:=by unfold eq;have h1:=DE (bE r n) (.mk n false u);have h2:=mr r n;simp only[Fld.name,Fld.ty] at h1;omega
theorem f183 (r:Ty)(f:Fld)(s:Lns)(hb:3*wT r+wN s+2*wT f.ty+99<big)(hg:gd r)(hfa:aj s.a r.fields=some f) :
  PureOk Tryz.prog Γ 183 [.ag (cTy r),.ag (ad f),.ag (aL s)] (match aj s.b r.fields with|none=>bt r 9|some g=>if g.opt=true∨f.ty.kind≠1∨s.a=s.b then bt r 7 else if (aj s.b f.ty.fields).isSome then bt r 5 else bt (bE (eq r s.a (dv f.ty g)) s.b) 0):=by
 have hw:=eu s;have hty:=(hg.fld hfa).2.2;have h1:=f127 Γ r s.b (by omega);have h2:=f127 Γ f.ty s.b (by omega);rw[dw f];have hcl:=bG f.ty;have hcc:=eW f.ty;unfold nE at h1 h2;rw[hg.fieldR] at h1;unfold bt;cases hrb:aj s.b r.fields with
 |none=>
  simp only;rw[hrb] at h1;simp only[Option.isSome_none,Option.getD_none] at h1;clear h2 hb hw hfa hty;refine Y3 64 Tryz.func183 rfl rfl fun a hl g0 g1 g2=>?_
  refine GG ?_;all_goals (try (refine aC h1 ?_))
  refine GG ?_;exact⟨by simp,.tp [.ag (cTy r),.int .i64 9],1,by simp[Tryz.f183,V.get,V.put,aY, *],aG (by simp[Val.closed,aE])⟩
 |some g=>
  simp only;rw[hrb] at h1;simp only[Option.isSome_some,Option.getD_some] at h1;by_cases hbad:g.opt=true∨f.ty.kind≠1∨s.a=s.b
  ·rw[if_pos hbad];clear h2 hb hw hfa hty;have fin:∀x y z:Bool,(g.opt=x)→(decide (f.ty.kind=1)=y)→(decide (s.a=s.b)=z)→True:=fun _ _ _ _ _ _=>trivial
   clear fin;cases ho:g.opt with
   |true=>
    refine Y3 64 Tryz.func183 rfl rfl fun a hl g0 g1 g2=>?_
    refine GG ?_;all_goals (try (refine aC h1 ?_))
    refine GG ?_;exact⟨by simp,.tp [.ag (cTy r),.int .i64 7],1,by simp[Tryz.f183,V.get,V.put,aY, *],aG (by simp[Val.closed,aE])⟩
   |false=>
    by_cases hk:f.ty.kind=1
    ·have hab:s.a=s.b:=by
      rcases hbad with h|h|h
      ·rw[ho] at h;cases h
      ·exact(h hk).elim
      ·exact h
     clear hbad;refine Y3 64 Tryz.func183 rfl rfl fun a hl g0 g1 g2=>?_
     refine GG ?_;all_goals (try (refine aC h1 ?_))
     refine GG ?_;exact⟨by simp,.tp [.ag (cTy r),.int .i64 7],1,by simp[Tryz.f183,V.get,V.put,aY, *],aG (by simp[Val.closed,aE])⟩
    ·clear hbad;refine Y3 64 Tryz.func183 rfl rfl fun a hl g0 g1 g2=>?_
     refine GG ?_;all_goals (try (refine aC h1 ?_))
     refine GG ?_;exact⟨by simp,.tp [.ag (cTy r),.int .i64 7],1,by simp[Tryz.f183,V.get,V.put,aY, *],aG (by simp[Val.closed,aE])⟩
  ·rw[if_neg hbad];have ho:g.opt=false:=by
    cases h:g.opt with
    |false=>rfl
    |true=>exact(hbad (.inl h)).elim
   have hk:f.ty.kind=1:=Decidable.byContradiction fun h=>hbad (.inr (.inl h))
   have hab:¬s.a=s.b:=fun h=>hbad (.inr (.inr h))
   clear hbad;unfold fieldR at h2;rw[if_pos hk] at h2;have gdf:gd f.ty:=⟨hty,hk⟩;cases hfb:aj s.b f.ty.fields with
   |some q=>
    rw[hfb] at h2;simp only[Option.isSome_some,if_true,Option.getD_some] at h2 ⊢;clear hb hw hfa hty;refine Y3 64 Tryz.func183 rfl rfl fun a hl g0 g1 g2=>?_
    refine GG ?_;all_goals (try (refine aC h1 ?_))
    refine GG ?_;all_goals (try (refine aC h2 ?_))
    refine GG ?_;exact⟨by simp,.tp [.ag (cTy r),.int .i64 5],1,by simp[Tryz.f183,V.get,V.put,aY, *],aG (by simp[Val.closed,aE])⟩
   |none=>
    rw[hfb] at h2;simp only[Option.isSome_none,Bool.false_eq_true,if_false,Option.getD_none] at h2 ⊢;have hgw:=fy (cY hrb).2;have hww:=DE f.ty g;have hsw:=GD r s.a (dv f.ty g);have h3:=f178 Γ f.ty g (by have:=du f.ty;omega) gdf.srt (by rw[(cY hrb).1,hfb]);have h4:=f261 Γ r s.a (dv f.ty g) (by omega) hg.srt;have h5:=f260 Γ (eq r s.a (dv f.ty g)) s.b (by omega);generalize bE (eq r s.a (dv f.ty g)) s.b=R2 at *
    generalize eq r s.a (dv f.ty g)=R1 at *
    generalize dv f.ty g=R0 at *
    clear hb hw hfa hty hgw hww hsw gdf;refine Y3 64 Tryz.func183 rfl rfl fun a hl g0 g1 g2=>?_
    refine GG ?_;all_goals (try (refine aC h1 ?_))
    refine GG ?_;all_goals (try (refine aC h2 ?_))
    refine GG ?_;refine aM h3 ?_;refine GG ?_;refine aM h4 ?_;refine GG ?_;refine aM h5 ?_;refine GG ?_;exact⟨by simp,.tp [.ag (cTy R2),.int .i64 0],1,by simp[Tryz.f183,V.get,V.put,aY, *],aG (by simp[Val.closed,aE])⟩
@[simp] theorem Ln (a b c:Int)(i o n:Nat)(k:Option Nat):cU Tryz.prog 26 [(0,.int .i64 a),(1,.int .i64 b),(2,.int .i64 c),(5,.so i o n k)]=some [.int .i64 a,.int .i64 b,.int .i64 c,.nils,.nils,.so i o n k]:=by kernel_rfl
theorem f184 (r:Ty)(f:Fld)(s:Lns)(hb:3*wT r+wN s+2*wT f.ty+99<big)(hg:gd r)(hfa:aj s.a r.fields=some f) :
  PureOk Tryz.prog Γ 184 [.ag (cTy r),.ag (ad f),.ag (aL s)] (if eG f.ty=true then bt (eq r s.a (.mk 3 1 1 [] [] [f.ty])) 0 else bt r 7):=by
 have hw:=eu s;have h1:=f259 Γ f.ty;have h2:=f261 Γ r s.a (.mk 3 1 1 [] [] [f.ty]) (by omega) hg.srt;rw[dw f];have hcl:=bG f.ty;have hcc:=eW f.ty;unfold bt;cases hs:eG f.ty with
 |false=>
  rw[hs] at h1;simp only[Bool.false_eq_true,if_false];clear h2 hw hb hfa hg;refine Y3 21 Tryz.func184 rfl rfl fun a hl g0 g1 g2=>?_
  refine GG ?_;all_goals (try (refine aC h1 ?_))
  refine GG ?_;exact⟨by simp,.tp [.ag (cTy r),.int .i64 7],1,by simp[Tryz.f184,V.get,V.put,aY, *],aG (by simp[Val.closed,aE])⟩
 |true=>
  rw[hs] at h1;simp only[if_true];have h3:PureOk Tryz.prog Γ 261 [.ag (cTy r),.str s.a,.ag [.int .i64 3,.int .i64 1,.int .i64 1,.nils,.nils,.sl (cTy f.ty) 1 (some 1)]] (.ag (cTy (eq r s.a (.mk 3 1 1 [] [] [f.ty])))):=(by refine h2.arg ⟨Wk.refl _,Wk.refl _,Wk.ag ⟨Wk.refl _,Wk.refl _,Wk.refl _,Wk.nils,Wk.nils,?_,trivial⟩,trivial⟩;show Wk _ (Val.sl (row cTy [f.ty]) 1 none);rw[cM,eh,List.append_nil];exact Wk.cap _ _ _);generalize eq r s.a (.mk 3 1 1 [] [] [f.ty])=R2 at *
  have hv:vwL Tryz.prog [(13,.cells (cTy f.ty) 26 false)] 60 [.ag (cTy r),.str s.a,.ag [.int .i64 3,.int .i64 1,.int .i64 1,.nils,.nils,.so 13 0 1 (some 1)]]=some [.ag (cTy r),.str s.a,.ag [.int .i64 3,.int .i64 1,.int .i64 1,.nils,.nils,.sl (cTy f.ty) 1 (some 1)]]:=
   aI (aG (by simp[Val.closed])) (aI (aG rfl) (aI (fL (by simp[aE,Val.closed]) (aI (aG rfl) (aI (aG rfl) (aI (aG rfl) (aI (aG rfl) (aI (aG rfl) (aI (dD (t:=26) rfl (by simp) (by simp) (by simp)) bP))))))) bP))
  have h4:=CallOk.freeze 15 h3 hv;clear h2 h3 hv hw hb hfa hg;refine Y3 21 Tryz.func184 rfl rfl fun a hl g0 g1 g2=>?_
  refine GG ?_;all_goals (try (refine aC h1 ?_))
  refine GG ?_;refine aw h4 ?_;refine GG ?_;exact⟨by simp,.tp [.ag (cTy R2),.int .i64 0],1,by simp[Tryz.f184,V.get,V.put,aY, *],aG (by simp[Val.closed,aE])⟩
theorem yo {t:Ty}(h:bq t=true)(hk:t.kind=2∨t.kind=3):∃u,t.of=[u]∧bq u=true:=by obtain⟨u,hu,h2⟩:=im h hk;exact⟨u,by rw[hu];rfl,h2⟩
theorem f185 (r:Ty)(f:Fld)(s:Lns)(hb:3*wT r+wN s+2*wT f.ty+99<big)(hg:gd r)(hfa:aj s.a r.fields=some f) :
  PureOk Tryz.prog Γ 185 [.ag (cTy r),.ag (ad f),.ag (aL s)] (if f.ty.kind=3∧f.ty.lo=1∧f.ty.hi=1 then (match f.ty.of with|[]=>bt r 7|u::_=>if eG u=true then bt (eq r s.a u) 0 else bt r 7) else bt r 7):=by
 have hw:=eu s;have hty:=(hg.fld hfa).2.2;have h2:=fun u=>f261 Γ r s.a u (by omega) hg.srt
 rw[dw f];have hcl:=bG f.ty;have hcc:=eW f.ty;have hta:List.take 6 (cTy f.ty)=cTy f.ty:=List.take_of_length_le (by omega);unfold bt;by_cases hk:f.ty.kind=3;case neg=>
  rw[if_neg (by simp[hk])];clear h2 hw hb hfa hg;refine Y3 41 Tryz.func185 rfl rfl fun a hl g0 g1 g2=>?_
  refine GG ?_;exact⟨by simp,.tp [.ag (cTy r),.int .i64 7],1,by simp[Tryz.f185,V.get,V.put,aY, *],aG (by simp[Val.closed,aE])⟩
 obtain⟨u,hu,_⟩:=yo hty (.inr hk);by_cases hlo:f.ty.lo=1;case neg=>
  rw[if_neg (by simp[hlo])];clear h2 hw hb hfa hg;refine Y3 41 Tryz.func185 rfl rfl fun a hl g0 g1 g2=>?_
  refine GG ?_;exact⟨by simp,.tp [.ag (cTy r),.int .i64 7],1,by simp[Tryz.f185,V.get,V.put,aY, *],aG (by simp[Val.closed,aE])⟩
 by_cases hhi:f.ty.hi=1;case neg=>
  rw[if_neg (by simp[hhi])];clear h2 hw hb hfa hg;refine Y3 41 Tryz.func185 rfl rfl fun a hl g0 g1 g2=>?_
  refine GG ?_;exact⟨by simp,.tp [.ag (cTy r),.int .i64 7],1,by simp[Tryz.f185,V.get,V.put,aY, *],aG (by simp[Val.closed,aE])⟩
 rw[if_pos ⟨hk,hlo,hhi⟩,hu];simp only;have h1:=f259 Γ u;replace h2:=h2 u;have htu:List.take 6 (row cTy [u])=cTy u:=by rw[cM,eh,List.append_nil];exact List.take_of_length_le (by rw[bG];omega)
 have hlu:(row cTy [u]).length=6:=by rw[cM,eh,List.append_nil];exact bG u
 have hsl:sls cTy [u]=.sl (row cTy [u]) 1 none:=rfl;cases hs:eG u with
 |false=>
  rw[hs] at h1;simp only[Bool.false_eq_true,if_false];clear h2 hw hb hfa hg;refine Y3 41 Tryz.func185 rfl rfl fun a hl g0 g1 g2=>?_
  refine GG ?_;all_goals (try (refine aC h1 ?_))
  refine GG ?_;exact⟨by simp,.tp [.ag (cTy r),.int .i64 7],1,by simp[Tryz.f185,V.get,V.put,aY, *],aG (by simp[Val.closed,aE])⟩
 |true=>
  rw[hs] at h1;simp only[if_true];generalize eq r s.a u=R2 at *
  clear hw hb hfa hg;refine Y3 41 Tryz.func185 rfl rfl fun a hl g0 g1 g2=>?_
  refine GG ?_;all_goals (try (refine aC h1 ?_))
  refine GG ?_;refine aM h2 ?_;refine GG ?_;exact⟨by simp,.tp [.ag (cTy R2),.int .i64 0],1,by simp[Tryz.f185,V.get,V.put,aY, *],aG (by simp[Val.closed,aE])⟩
end
end Go.V
end
