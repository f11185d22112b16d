/-
  A part of a proof: L5 R9 L6 W1 Y1.
-/
import Derived.Test.YtkfjenbfbendhaaGreatDoorLk14
import Derived.Test.YtkfjenbfbendhaaGreatDoorLk15
set_option linter.unusedSimpArgs false
set_option linter.unusedVariables false
section
set_option maxHeartbeats 4000000
namespace Go.V
open Go Go.Proofs
attribute [local irreducible] W bO WD aO yl aS bW
section
variable (Γ:Glo Tryz.prog)
attribute [local simp] veq kW oD jA pk
theorem Clo.cut {P:Program}{id n:Nat}{cs cs':List Val}{ty:TypeId}:Clo P (.so id 0 n none) [(id,.cells (cs++cs') ty true)] (.so id 0 n none) [(id,.cells cs ty true)]:=by
 intro F ρ w0 O w y m hr
 refine⟨?_,hr⟩
 obtain⟨L,x,h1,h2,h3,c',rfl,h5,h6,h7,h8⟩:=m.own id (.cells (cs++cs') ty true) (by simp[get])
 have hb:BRel P F ρ L (.cells cs ty true) (.cells c' ty (0,0)):=by
  refine⟨c',rfl,h5,h6,?_,fun ho=>by cases ho⟩
  have:=h7.take cs.length
  rw[List.take_take,List.take_left,Nat.min_eq_left (by simp)] at this
  exact this
 have:=m.reblk (blk':=.cells cs ty true) (blk:=.cells (cs++cs') ty true) (by simp[get]) h1 h3 hb
 simpa[put] using this
theorem tw {zs:List Val}(hz:zs≠[]){n:Nat}{v:Val}(h:v∈jB zs n):v∈zs:=by
 unfold jB at h
 obtain⟨i,_,rfl⟩:=List.mem_map.1 h
 have hp:0<zs.length:=List.length_pos_iff.2 hz
 have hi:i % zs.length<zs.length:=Nat.mod_lt _ hp
 rw[List.getD_eq_getElem?_getD,List.getElem?_eq_getElem hi]
 exact List.getElem_mem hi
theorem jt:∀l:List Val,aE l=true↔∀v∈l,v.closed=true
 |[]=>by simp[aE]
 |v::l=>by rw[aE,Bool.and_eq_true,jt l];simp
theorem lP:∀l:List Val,ai l=true↔∀v∈l,gq v=true
 |[]=>by simp[ai]
 |v::l=>by rw[ai,Bool.and_eq_true,lP l];simp
theorem ui {zs:List Val}(hz:zs≠[])(hc:aE zs=true)(n:Nat):aE (jB zs n)=true:=(jt _).2 fun v hv=>(jt _).1 hc v (tw hz hv)
theorem va {zs:List Val}(hz:zs≠[])(hc:ai zs=true)(n:Nat):ai (jB zs n)=true:=(lP _).2 fun v hv=>(lP _).1 hc v (tw hz hv)
theorem nC {α:Type}{p:α→Bool}:∀{l:List α}{j:Nat},bg p l j=-1→∀x∈l,p x=false
 |[],_,_,_,h=>by cases h
 |y::l,j,h,x,hx=>by
  rw[bg] at h
  split at h
  ·
   omega
  ·
   rename_i hp
   rcases List.mem_cons.1 hx with rfl|hx
   ·
    simpa using hp
   ·
    exact nC h x hx
theorem nD {α:Type}{p:α→Bool}:∀{l:List α}{j:Nat},bg p l j≠-1→∃pre x r,l=pre++x::r∧(∀y∈pre,p y=false)∧p x=true∧bg p l j=((j+pre.length:Nat):Int)
 |[],_,h=>(h rfl).elim
 |y::l,j,h=>by
  rw[bg] at h ⊢
  split
  ·
   rename_i hp
   exact⟨[],y,l,rfl,by simp,hp,by simp⟩
  ·
   rename_i hp
   rw[if_neg hp] at h
   obtain⟨pre,x,r,h1,h2,h3,h4⟩:=nD h
   refine⟨y::pre,x,r,by rw[h1];rfl,fun z hz=>?_,h3,by rw[h4];simp;omega⟩
   rcases List.mem_cons.1 hz with rfl|hz
   ·
    simpa using hp
   ·
    exact h2 z hz
theorem f310 (f:Fld)(n:Str):PureOk Tryz.prog Γ 310 [.ag (aZ f),.pp [.str n]] (.bool (decide (f.name=n))):=by
 refine Y2 8 Tryz.func310 rfl rfl fun a hl g0 g1=>?_
 repeat' first|refine G1 ?_|(refine G2 ?_ ?_<;>intro hc hd<;>try exact hd.elim)|fail
 all_goals first|(refine⟨by simp,.bool (decide (f.name=n)),1,?_,rfl⟩;(simp[Tryz.f310, *]<;>grind [List.length_eq_zero_iff]);done)|skip
theorem oc (n:Str):∀l m:List Fld,bZ n (l++m)=bZ n l++bZ n m
 |[],m=>rfl
 |f::l,m=>by
  simp only[List.cons_append,bZ,oc n l m]
  split<;>rfl
theorem rv {n:Str}:∀{l:List Fld},(∀f∈l,decide (f.name=n)=false)→bZ n l=l
 |[],_=>rfl
 |f::l,h=>by
  rw[bZ,if_neg (by simpa using h f (by simp)),rv fun g hg=>h g (by simp[hg])]
theorem f309z (nm:Str):PureOk Tryz.prog Γ 309 [.sl [] 0 none,.fn 310 [] [.pp [.str nm]]] (.sl [] 0 none):=by
 have h1:=f263 Γ [] (fun f=>decide (f.name=nm)) (by simp[big]) 310 [] [.pp [.str nm]] (fun x hx=>f310 Γ x nm) (by kernel_rfl) rfl rfl
 have h2:PureOk Tryz.prog Γ 263 [.sl [] 0 none,.fn 310 [] [.pp [.str nm]]] (.int .i64 (-1)):=h1
 refine Y2 42 Tryz.func309 rfl rfl fun a hl g0 g1=>?_
 repeat' first|refine G1 ?_|(refine G2 ?_ ?_<;>intro hc hd<;>try exact hd.elim)|fail
 all_goals (try (refine aC h2 ?_))
 repeat' first|refine G1 ?_|(refine G2 ?_ ?_<;>intro hc hd<;>try exact hd.elim)|fail
 exact⟨by simp,.sl [] 0 none,1,by simp[Tryz.f309, *],rfl⟩
theorem f309m (nm:Str)(fs:List Fld)(hne:fs≠[])(hb:fs.length<big):CallOk Tryz.prog Γ 309 [.so 0 0 fs.length none,.fn 310 [] [.pp [.str nm]]] [(0,.cells (row aZ fs) 112 true)] 1 true (.so 0 0 (bZ nm fs).length none) [(0,.cells (row aZ (bZ nm fs)) 112 true)] 1:=by
 have hx:∀f∈fs,PureOk Tryz.prog Γ 310 [.ag (aZ f),.pp [.str nm]] (.bool (decide (f.name=nm))):=fun f _=>f310 Γ f nm
 have h1:=f263 Γ fs (fun f=>decide (f.name=nm)) hb 310 [] [.pp [.str nm]] (fun x hx=>f310 Γ x nm) (by kernel_rfl) rfl rfl
 simp only[big] at hb
 refine ba Tryz.func309 rfl (by simp[Tryz.f309]) (by omega) (by simp[aR,aa]) (by simp[bc,cz]) ?_
 intro a hl ha
 replace hl:a.length=42:=hl
 have g0:=ha 0 _ rfl
 have g1:=ha 1 _ rfl
 clear ha
 by_cases hi:bg (fun f=>decide (f.name=nm)) fs 0=-1
 ·
  rw[rv (nC hi)]
  rw[hi] at h1
  clear hi hx
  repeat' first|refine G1 ?_|(refine G2 ?_ ?_<;>intro hc hd<;>try exact hd.elim)|fail
  refine fk ((row aZ fs).length+20) h1 ?_ ⟨[.so 0 0 fs.length none,.fn 310 [] [.pp [.str nm]]],by simp[*],aI (dC rfl (by simp) (by simp) (by omega)) (aI (aG (by simp[Val.closed,aE])) bR)⟩
  repeat' first|refine G1 ?_|(refine G2 ?_ ?_<;>intro hc hd<;>try exact hd.elim)|fail
  exact⟨by simp,[],.so 0 0 fs.length none,[(0,.cells (row aZ fs) 112 true)],_,_,by simp,by simp,by simp[Tryz.f309, *],by simp,by simp,by (repeat (first|exact aU|refine aP (by simp[V.get, *]) ?_)),Clo.refl _ _⟩
 ·
  obtain⟨pre0,x0,r0,e1,e2,e3,e4⟩:=nD hi
  rw[e4] at h1
  have hd0:bZ nm (pre0++[x0])=pre0:=by rw[oc,rv e2];simp only[bZ];rw[if_pos (by simpa using e3)];simp
  have hw0:=ad ((pre0.length:Int)+1) (by omega) (by rw[e1] at hb;simp at hb;omega)
  have hn1:¬(pre0.length:Int)=-1:=by omega
  obtain⟨n,hn⟩:∃n,Hid n fs.length:=⟨_,rfl⟩
  rw[show fs.length=n from hn.symm] at g0 hb
  have e5:sls aZ fs=.sl (row aZ fs) n none:=by rw[show n=fs.length from hn]
  rw[e5] at h1
  have hcn:(row aZ fs).length=n*8:=by rw[show n=fs.length from hn];simp
  have e1':Hid fs (pre0++x0::r0):=e1
  clear hi e1 e2 e3 e4 e5 hne
  repeat' first|refine G1 ?_|(refine G2 ?_ ?_<;>intro hc hd<;>try exact hd.elim)|fail
  refine fk ((row aZ fs).length+20) h1 ?_ ⟨[.so 0 0 n none,.fn 310 [] [.pp [.str nm]]],by simp[*],aI (dC (t:=112) (cs:=row aZ fs) rfl (by simp[hcn]) (by simp) (by omega)) (aI (aG (by simp[Val.closed,aE])) bR)⟩
  clear h1
  repeat' first|refine G1 ?_|(refine G2 ?_ ?_<;>intro hc hd<;>try exact hd.elim)|fail
  refine am [(7,7),(16,35)] [6,5] (fun k a h=>∃done rest G,Hid fs (done++rest)∧k=rest.length∧Hid G.length ((done.length-(bZ nm done).length)*8)∧(bZ nm done).length<done.length∧aE G=true∧ai G=true∧lk a 5=some (.int .i64 (bZ nm done).length)∧lk a 6=some (.int .i64 done.length)∧h=[(0,.cells (row aZ (bZ nm done)++(G++row aZ rest)) 112 true)]) ⟨pre0++[x0],r0,aZ x0,by simpa[Hid] using e1',rfl,by simp[Hid,hd0],by simp[hd0],by simp,by simp,by simp[*],by simp[*],by unfold Hid at e1';simp[hd0,e1',bd]⟩ ?_
  intro a1 hk hk0 k a h hF hI
  replace g0:=hF.a hk 0
  replace g1:=hF.a hk 1
  replace hl:a.length=42:=hF.len.trans (hk0.trans (by simp[*]))
  clear hk hk0
  obtain⟨done,rest,G,hf,rfl,hG,hlt,hG2,hG3,h5,h6,rfl⟩:=hI
  obtain⟨i,hi⟩:∃i,Hid i (bZ nm done).length:=⟨_,rfl⟩
  obtain⟨g,hg⟩:∃g,Hid done.length (i+g):=⟨done.length-(bZ nm done).length,by unfold Hid at hi ⊢;omega⟩
  obtain⟨K,hK⟩:∃K,Hid K (row aZ (bZ nm done)):=⟨_,rfl⟩
  have hKl:K.length=i*8:=by unfold Hid at hK hi;rw[hK,hi];simp
  have hGl:G.length=g*8:=by unfold Hid at hG hg hi;rw[hG,hg,←hi];congr 1;omega
  have hKc:aE K=true:=by unfold Hid at hK;rw[hK];simp
  have hg0:0<g:=by unfold Hid at hg hi;omega
  have hnl:Hid n (i+g+rest.length):=by unfold Hid at hn hf hg ⊢;rw[hn,hf,List.length_append,hg]
  rw[show(bZ nm done).length=i from hi.symm] at h5
  rw[show done.length=i+g from hg] at h6
  rw[show row aZ (bZ nm done)=K from hK.symm]
  rw[show n=i+g+rest.length from hnl] at g0 hb
  clear hlt hG hnl hcn e1' hd0 hw0 hn1
  cases rest with
  |nil=>
   have hfd:fs=done:=by unfold Hid at hf;simpa using hf
   rw[hfd,show(bZ nm done).length=i from hi.symm,show row aZ (bZ nm done)=K from hK.symm]
   simp only[List.length_nil,Nat.add_zero,eG,List.append_nil] at *
   clear hx hfd
   have hii:(i:Int)≤i+g:=by omega
   have hc3:g≠0:=by omega
   have hzz:ai (jB [Val.str [],Val.bool false,Val.int IntKind.i64 0,Val.int IntKind.i64 0,Val.int IntKind.i64 0,Val.nils,Val.nils,Val.nils] (g*8))=true:=va (by simp) rfl _
   have hzl:(jB [Val.str [],Val.bool false,Val.int IntKind.i64 0,Val.int IntKind.i64 0,Val.int IntKind.i64 0,Val.nils,Val.nils,Val.nils] (g*8)).length=g*8:=qK _ _
   have hzc:aE (jB [Val.str [],Val.bool false,Val.int IntKind.i64 0,Val.int IntKind.i64 0,Val.int IntKind.i64 0,Val.nils,Val.nils,Val.nils] (g*8))=true:=ui (by simp) rfl _
   have ht:List.take (i*8) (K++G)=K:=by rw[←hKl];exact List.take_left
   have hd:List.drop (i*8+g*8) (K++G)=[]:=List.drop_of_length_le (by simp[hKl,hGl])
   repeat' first|refine G1 ?_|(refine G2 ?_ ?_<;>intro hc hd<;>try exact hd.elim)|fail
   exact⟨by simp,[],.so 0 0 i none,_,.so 0 0 i none,[(0,.cells K 112 true)],by simp,by simp,by simp[Tryz.f309, *],by simp,by simp[*],(by (repeat (first|exact aU|refine aP (by simp[V.get, *];rfl) ?_))),Clo.cut⟩
  |cons x r=>
   have hfd:bZ nm (done++[x])=if x.name=nm then bZ nm done else bZ nm done++[x]:=by
    rw[oc]
    simp only[bZ]
    split<;>simp
   have j1:=hx x (by unfold Hid at hf;simp[hf])
   generalize hp:decide (x.name=nm)=p at *
   have hlt:(i:Int)+g<i+g+(r.length+1):=by omega
   have hlt2:(i:Int)<i+g+(r.length+1):=by omega
   have hpos:(0:Int)≤i+g:=by omega
   have hT:((i:Int)+g).toNat=i+g:=by omega
   have hw:=ad ((i:Int)+g+1) (by omega) (by simp at hb;omega)
   have hw2:=ad ((i:Int)+1) (by omega) (by simp at hb;omega)
   have hd1:List.drop ((i+g)*8) (K++(G++(aZ x++row aZ r)))=aZ x++row aZ r:=by
    rw[←List.append_assoc,show(i+g)*8=(K++G).length by simp[hKl,hGl];omega];exact List.drop_left
   have hle1:(i+g)*8≤i*8+(g*8+(8+r.length*8)):=by omega
   have hle2:i*8+8≤i*8+(g*8+(8+r.length*8)):=by omega
   obtain⟨g1,g2,hgg,hg1,hg2⟩:∃g1 g2,Hid G (g1++g2)∧g1.length=8∧g2.length=g*8-8:=⟨_,_,(List.take_append_drop 8 G).symm,by simp[hGl];omega,by simp[hGl]⟩
   have hgc:aE g2=true∧ai g2=true:=by
    unfold Hid at hgg
    rw[hgg] at hG2 hG3
    simp only[aw,bT,Bool.and_eq_true] at hG2 hG3
    exact⟨hG2.2,hG3.2⟩
   have ht1:List.take (i*8) (K++(G++(aZ x++row aZ r)))=K:=by rw[←hKl];exact List.take_left
   have hd2:List.drop (i*8+8) (K++(G++(aZ x++row aZ r)))=g2++(aZ x++row aZ r):=by
    unfold Hid at hgg
    rw[hgg,show K++(g1++g2++(aZ x++row aZ r))=(K++g1)++(g2++(aZ x++row aZ r)) by simp,show i*8+8=(K++g1).length by simp[hKl,hg1]];exact List.drop_left
   clear hx
   repeat' first|refine G1 ?_|(refine G2 ?_ ?_<;>intro hc hd<;>try exact hd.elim)|fail
   refine aC j1 ?_
   clear j1
   repeat' first|refine G1 ?_|(refine G2 ?_ ?_<;>intro hc hd<;>try exact hd.elim)|fail
   ·
    have hcp:p=false:=by simpa using hc
    have hN:¬x.name=nm:=by simpa using hp.trans hcp
    have hfd':bZ nm (done++[x])=bZ nm done++[x]:=by rw[hfd,if_neg hN]
    have q1:Hid (done++[x]).length (i+g+1):=by unfold Hid at hg ⊢;simp[hg]
    have q2:Hid (bZ nm (done++[x])).length (i+1):=by unfold Hid at hi ⊢;rw[hfd'];simp[hi]
    have q3:Hid (row aZ (bZ nm (done++[x]))++(g2++aZ x++row aZ r)) (K++(aZ x++(g2++(aZ x++row aZ r)))):=by unfold Hid at hK ⊢;rw[hfd',hK];simp[bd]
    have q4:aE (g2++aZ x)=true∧ai (g2++aZ x)=true:=by simp[hgc]
    have q5:Hid (g2++aZ x).length (((done++[x]).length-(bZ nm (done++[x])).length)*8):=by unfold Hid at q1 q2 ⊢;rw[q1,q2];simp[hg2];omega
    have q6:(bZ nm (done++[x])).length<(done++[x]).length:=by unfold Hid at q1 q2;rw[q1,q2];omega
    have hlo:aa 10 K=true∧aa 10 g2=true:=⟨aD _ hKc,aD _ hgc.1⟩
    clear hfd hfd' hp
    exact NX [(0,.cells (K++(aZ x++(g2++(aZ x++row aZ r)))) 112 true)] fun a2 hF2=>⟨done++[x],r,g2++aZ x,by unfold Hid at hf ⊢;simp[hf],rfl,q5,q6,q4.1,q4.2,((hF2.same 5 rfl).trans (by unfold Hid at q2;rw[q2];simp[*])),((hF2.same 6 rfl).trans (by unfold Hid at q1;rw[q1];simp[*])),by rw[show _=_ from q3]⟩
   ·
    have hcp:p=true:=by simpa using hc
    have hN:x.name=nm:=by simpa using hp.trans hcp
    have hfd':bZ nm (done++[x])=bZ nm done:=by rw[hfd,if_pos hN]
    have q1:Hid (done++[x]).length (i+g+1):=by unfold Hid at hg ⊢;simp[hg]
    have q2:Hid (bZ nm (done++[x])).length i:=by unfold Hid at hi ⊢;rw[hfd'];exact hi.symm
    have q3:Hid (row aZ (bZ nm (done++[x]))++(G++aZ x++row aZ r)) (K++(G++(aZ x++row aZ r))):=by unfold Hid at hK ⊢;rw[hfd',hK];simp
    have q4:aE (G++aZ x)=true∧ai (G++aZ x)=true:=by simp[hG2,hG3]
    have q5:Hid (G++aZ x).length (((done++[x]).length-(bZ nm (done++[x])).length)*8):=by unfold Hid at q1 q2 ⊢;rw[q1,q2];simp[hGl];omega
    have q6:(bZ nm (done++[x])).length<(done++[x]).length:=by unfold Hid at q1 q2;rw[q1,q2];omega
    have hlo:aa 10 K=true∧aa 10 G=true:=⟨aD _ hKc,aD _ hG2⟩
    clear hfd hfd' hp
    exact NX [(0,.cells (K++(G++(aZ x++row aZ r))) 112 true)] fun a2 hF2=>⟨done++[x],r,G++aZ x,by unfold Hid at hf ⊢;simp[hf],rfl,q5,q6,q4.1,q4.2,((hF2.same 5 rfl).trans (by unfold Hid at q2;rw[q2];simp[*])),((hF2.same 6 rfl).trans (by unfold Hid at q1;rw[q1];simp[*])),by rw[show _=_ from q3]⟩
end
end Go.V
end
section
namespace Go.V
open Go Go.Proofs
section
variable {P:Program} {Γ:Glo P}
def AQ (h1 h2:Heap):Bool:=h1.all fun p=>h2.all fun q=>decide (p.1≠q.1)
theorem xx {h1 h2:Heap}(hd:AQ h1 h2=true)(i:Nat)(g1:(get h1 i).isSome=true)(g2:(get h2 i).isSome=true):False:=by
 cases e1:get h1 i with
 |none=>rw[e1] at g1;cases g1
 |some b1=>
  cases e2:get h2 i with
  |none=>rw[e2] at g2;cases g2
  |some b2=>
   obtain⟨p,hp,k1⟩:=fL e1
   obtain⟨q,hq,k2⟩:=fL e2
   unfold AQ at hd
   simp only[List.all_eq_true,decide_eq_true_eq] at hd
   exact hd p hp q hq (k1.trans k2.symm)
def setTs:List (Nat×Val)→List Val→List Val
 |[],a=>a
 |(t,u)::r,a=>setTs r (a.set t u)
theorem RelL.setTs {F:Fro}{ρ:Pl}:∀(us:List (Nat×Val)){a:List Val}{xs:List Value},RelL F ρ a xs→(∀p∈us,∀x,xs[p.1]?=some x→Rel F ρ p.2 x)→(∀p∈us,p.1<xs.length)→RelL F ρ (V.setTs us a) xs
 |[],_,_,h,_,_=>h
 |(t,u)::r,a,xs,h,hu,hl=>by
  have ht:=hl (t,u) (by simp)
  obtain⟨x,hx⟩:∃x,xs[t]?=some x:=⟨_,List.getElem?_eq_getElem ht⟩
  exact RelL.setTs r (h.setAt hx (hu (t,u) (by simp) x hx)) (fun p hp=>hu p (by simp[hp])) (fun p hp=>hl p (by simp[hp]))
theorem qE {c:Code}{a:List Val}{h h1 h2:Heap}{N:Nat}{Q:Post}(n:Nat)(us:List (Nat×Val))(hs1:∀i b,get h1 i=some b→get h i=some b)(hs2:∀i b,get h2 i=some b→get h i=some b)(hdj:AQ h1 h2=true)
  (hu:∀p∈us,∃v,lk a p.1=some v∧vw P h1 n v=some p.2) (hw:W P Γ c (setTs us a) h2 N Q):W P Γ c a h N Q:=by
 intro F ρ w0 O w act hG m hf ha hdf
 have m1:=m.sub hs1
 let F':=frz F (cL h1 ρ) w
 have hle:FLe F F':=kB _
 have hL:∀b,cL h1 ρ b→∃i L,(get h1 i).isSome=true∧ρ i=some L∧L.b=b:=by
  intro b hb
  exact hb
 have m2:Mem P F' ρ h2 w0 O w:=by
  have m3:=m.sub hs2
  refine⟨sB m1 _,fun i blk hg=>?_,m3.inj,m3.ours,m3.fr⟩
  obtain⟨L,x,q1,q2,q3,q4⟩:=m3.own i blk hg
  refine⟨L,x,q1,?_,q3,q4.mono P hle (PLe.refl ρ)⟩
  cases hF:F' L.b with
  |none=>rfl
  |some c=>
   rcases mH hF with h|⟨h,_⟩
   ·
    rw[q2] at h;cases h
   ·
    exfalso
    obtain⟨j,L',g1,g2,g3⟩:=hL _ h
    cases hg1:get h1 j with
    |none=>rw[hg1] at g1;cases g1
    |some b1=>
     have:=m.inj i j L L' (by rw[hs2 i blk hg];rfl) (by rw[hs1 j b1 hg1];rfl) q1 g2 g3.symm
     subst this
     exact xx hdj i g1 (by rw[hg];rfl)
 have hext:Ext F F' ρ ρ w0 O N N:=by
  refine⟨hle,PLe.refl ρ,fun b c hb=>?_,fun _ _=>rfl⟩
  rcases mH hb with h|⟨h,_⟩
  ·
   exact .inl h
  ·
   obtain⟨j,L',g1,g2,g3⟩:=hL _ h
   have:=m1.ours j L' g1 g2
   rw[g3] at this
   exact .inr this
 have ha2:RelL F' ρ (setTs us a) act.tmps.toList:=by
  refine RelL.setTs us (RelL.mono hle (PLe.refl ρ) _ _ ha) (fun p hp x hx=>?_) (fun p hp=>?_)
  ·
   obtain⟨v,hv1,hv2⟩:=hu p hp
   obtain⟨y,hy,hr⟩:=ha.get hv1
   rw[hx] at hy;cases hy
   exact Rel.mono (FLe.refl _) (mQ ρ) _ _ (mq m1 n v hv2 hr)
  ·
   obtain⟨v,hv1,_⟩:=hu p hp
   obtain⟨y,hy,_⟩:=ha.get hv1
   rcases Nat.lt_or_ge p.1 act.tmps.toList.length with h|h
   ·
    exact h
   ·
    rw[List.getElem?_eq_none h] at hy;cases hy
 exact wp_mono (hw F' ρ w0 O w act (hG.mono hle) m2 hf ha2 hdf) fun e act w hc=>hc.later hext (Nat.le_refl _)
theorem RelL.split {F:Fro}{ρ:Pl}{vs:List Val}:∀{us:List Val}{xs:List Value},RelL F ρ (us ++ .sl [] 0 none::vs) xs→RelL F ρ (us ++ .nils::vs) xs∨RelL F ρ (us ++ .sle::vs) xs
 |[],xs,h=>by
  simp only[List.nil_append,RelL] at h ⊢
  obtain⟨y,ys,rfl,h2,h3⟩:=h
  simp only[Rel] at h2
  rcases h2 with ⟨h4|⟨p0,h4⟩,_⟩|⟨b,o,c,k,h4,_⟩
  ·
   exact .inl ⟨y,ys,rfl,by simp only[Rel];exact h4,h3⟩
  ·
   exact .inr ⟨y,ys,rfl,by simp only[Rel];exact⟨p0,0,h4⟩,h3⟩
  ·
   exact .inr ⟨y,ys,rfl,by simp only[Rel];exact⟨⟨b,o,none⟩,k,h4⟩,h3⟩
 |u::us,xs,h=>by
  simp only[List.cons_append,RelL] at h ⊢
  obtain⟨y,ys,rfl,h2,h3⟩:=h
  rcases RelL.split h3 with h4|h4
  ·
   exact .inl ⟨y,ys,rfl,h2,h4⟩
  ·
   exact .inr ⟨y,ys,rfl,h2,h4⟩
theorem qF {c:Code}{a:List Val}{h:Heap}{N:Nat}{Q:Post}(id:Nat){us vs:List Val}{ty:TypeId}{o:Bool}(hg:get h id=some (.cells (us ++ .sl [] 0 none::vs) ty o))(h1:W P Γ c a (put h id (.cells (us ++ .nils::vs) ty o)) N Q)(h2:W P Γ c a (put h id (.cells (us ++ .sle::vs) ty o)) N Q):W P Γ c a h N Q:=by
 intro F ρ w0 O w act hG m hf ha hd
 obtain⟨L,x,q1,q2,q3,c',rfl,q5,q6,q7,q8⟩:=m.own id _ hg
 have hlen:∀v:Val,(us++v::vs).length=(us ++ .sl [] 0 none::vs).length:=fun v=>by simp
 rcases RelL.split q7 with h4|h4
 ·
  exact h1 F ρ w0 O w act hG (m.reblk hg q1 q3 ⟨c',rfl,q5,q6,by rw[hlen];exact h4,fun ho=>by rw[hlen];exact q8 ho⟩) hf ha hd
 ·
  exact h2 F ρ w0 O w act hG (m.reblk hg q1 q3 ⟨c',rfl,q5,q6,by rw[hlen];exact h4,fun ho=>by rw[hlen];exact q8 ho⟩) hf ha hd
theorem CallOk.freeze {f:FuncId}{vs us:List Val}{r:Val}{hs:Heap}{n:Nat}(N:Nat)(hk:PureOk P Γ f us r)(hv:vwL P hs n vs=some us):CallOk P Γ f vs hs N true r [] N:=by
 refine⟨Nat.le_refl _,fun F ρ w0 O w xs hG m hf ha=>?_⟩
 refine(hk (frz F (cL hs ρ) w) w xs (hG.mono (kB _)) (sB m _) (eH m n _ hv ha)).mono ?_
 rintro e w' ⟨F',x,rfl,a1,a2,a3,a4,a5⟩
 refine⟨F',ρ,x,rfl,⟨(kB _).trans a1,PLe.refl ρ,fun b c hb=>?_,fun _ _=>rfl⟩,Rel.mono (FLe.refl _) (mQ ρ) _ _ a4,⟨a3,fun i b hg=>by simp[get] at hg,fun i j Li Lj hi=>by simp[get] at hi,fun i L hi=>by simp[get] at hi,m.fr.trans a5 (fun _ h=>h.elim)⟩⟩
 rcases a2 b c hb with h|h
 ·
  rcases mH h with h|⟨⟨i,L,g1,g2,g3⟩,_⟩
  ·
   exact .inl h
  ·
   have:=m.ours i L g1 g2
   rw[g3] at this
   exact .inr this
 ·
  exact .inr (.inr (Nat.le_trans m.fr.size h))
end
attribute [simp] setTs AQ
end Go.V
end
section
set_option maxHeartbeats 4000000
namespace Go.V
open Go Go.Proofs
attribute [local irreducible] W bO WD aO yl aS bW
section
variable (Γ:Glo Tryz.prog)
attribute [local simp] veq
def ji:Fld:=.mk [] false zeroTy
def lH (r:Ty)(n:Str):Val:=.tp [.ag (aZ ((fieldR r n).getD ji)),.bool (fieldR r n).isSome]
theorem qJ:Wk (.ag [.str [],.bool false,.int .i64 0,.int .i64 0,.int .i64 0,.nils,.nils,.nils]) (.ag (aZ ji)):=Wk.ag ⟨Wk.refl _,Wk.refl _,Wk.refl _,Wk.refl _,Wk.refl _,Wk.nils,Wk.nils,Wk.nils,trivial⟩
@[simp] theorem Fi:dB Tryz.prog 112 []=some [.str [],.bool false,.int .i64 0,.int .i64 0,.int .i64 0,.nils,.nils,.nils]:=by kernel_rfl
@[simp] theorem Gg (n:Str)(t:Ty):dB Tryz.prog 112 [(0,.str n),(2,.ag (cTy t))]=some (.str n :: .bool false::cTy t):=by cases t;kernel_rfl
@[simp] theorem Gi (c:List Val)(n:Nat)(k:Option Nat):dB Tryz.prog 26 [(0,.int .i64 1),(4,.sl c n k)]=some [.int .i64 1,.int .i64 0,.int .i64 0,.nils,.sl c n k,.nils]:=by kernel_rfl
@[simp] theorem Gh (i o n:Nat)(k:Option Nat):dB Tryz.prog 26 [(0,.int .i64 1),(4,.so i o n k)]=some [.int .i64 1,.int .i64 0,.int .i64 0,.nils,.so i o n k,.nils]:=by kernel_rfl
@[simp] theorem Fj (v0 v1 v2 v3 v4 v5:Val):dB Tryz.prog 125 [(0,.ag [v0,v1,v2,v3,v4,v5])]=some [v0,v1,v2,v3,v4,v5]:=by kernel_rfl
theorem nA (n:Str):∀(l:List Fld)(j:Nat),(ah n l=none∧bg (fun f=>decide (f.name=n)) l j=-1)∨∃pre f r,l=pre++f::r∧ah n l=some f∧bg (fun f=>decide (f.name=n)) l j=((j+pre.length:Nat):Int)
 |[],j=>.inl ⟨rfl,rfl⟩
 |f::l,j=>by
  rw[ah,bg]
  by_cases h:f.name=n
  ·
   right;exact⟨[],f,l,rfl,by simp[h],by simp[h]⟩
  ·
   simp only[h,if_false,decide_false,Bool.false_eq_true]
   rcases nA n l (j+1) with ⟨h1,h2⟩|⟨pre,g,r,h1,h2,h3⟩
   ·
    exact .inl ⟨h1,h2⟩
   ·
    exact .inr ⟨f::pre,g,r,by rw[h1];rfl,h2,by rw[h3];simp;omega⟩
theorem f127 (r:Ty)(n:Str)(hb:wT r<big):PureOk Tryz.prog Γ 127 [.ag (cTy r),.str n] (lH r n):=by
 have h1:=f189 Γ r n hb
 have hbl:r.fields.length<100000000000:=by have:=dP r;simp only[big] at hb;omega
 unfold lH fieldR
 by_cases hk:r.kind=1
 ·
  rw[if_pos hk] at h1 ⊢
  rcases nA n r.fields 0 with ⟨e1,e2⟩|⟨pre,f,q,e1,e2,e3⟩
  ·
   rw[e1]
   rw[e2] at h1
   refine PureOk.wk (r:=.tp [.ag [.str [],.bool false,.int .i64 0,.int .i64 0,.int .i64 0,.nils,.nils,.nils],.bool false]) ?_ (Wk.tp ⟨qJ,Wk.refl _,trivial⟩)
   clear e1 e2 hk hbl hb
   refine Y2 20 Tryz.func127 rfl rfl fun a hl g0 g1=>?_
   repeat' first|refine G1 ?_|(refine G2 ?_ ?_<;>intro hc hd<;>try exact hd.elim)|fail
   all_goals (try (refine aC h1 ?_))
   repeat' first|refine G1 ?_|(refine G2 ?_ ?_<;>intro hc hd<;>try exact hd.elim)|fail
   exact⟨by simp,_,20,(by simp[Tryz.f127,V.get,V.put,aX, *];rfl),rfl⟩
  ·
   rw[e2]
   rw[e3] at h1
   simp only[Nat.zero_add,Option.getD_some,Option.isSome_some] at h1 ⊢
   have hlt:(pre.length:Int)<pre.length+(q.length+1):=by omega
   have hnn:¬(pre.length:Int)<0:=by omega
   have hrd:=lg pre q f
   clear e2 e3 hk hb
   refine Y2 20 Tryz.func127 rfl rfl fun a hl g0 g1=>?_
   repeat' first|refine G1 ?_|(refine G2 ?_ ?_<;>intro hc hd<;>try exact hd.elim)|fail
   all_goals (try (refine aC h1 ?_))
   repeat' first|refine G1 ?_|(refine G2 ?_ ?_<;>intro hc hd<;>try exact hd.elim)|fail
   exact⟨by simp,.tp [.ag (aZ f),.bool true],1,by simp[Tryz.f127,V.get,V.put,aX, *],aG (by simp[Val.closed,aE])⟩
 ·
  rw[if_neg hk] at h1 ⊢
  refine PureOk.wk (r:=.tp [.ag [.str [],.bool false,.int .i64 0,.int .i64 0,.int .i64 0,.nils,.nils,.nils],.bool false]) ?_ (Wk.tp ⟨qJ,Wk.refl _,trivial⟩)
  clear hk hbl hb
  refine Y2 20 Tryz.func127 rfl rfl fun a hl g0 g1=>?_
  repeat' first|refine G1 ?_|(refine G2 ?_ ?_<;>intro hc hd<;>try exact hd.elim)|fail
  all_goals (try (refine aC h1 ?_))
  repeat' first|refine G1 ?_|(refine G2 ?_ ?_<;>intro hc hd<;>try exact hd.elim)|fail
  exact⟨by simp,_,20,(by simp[Tryz.f127,V.get,V.put,aX, *];rfl),rfl⟩
theorem wX (c:List Val)(n:Nat)(l:List Fld)(h:Wk (.sl c n none) (sls aZ l)):Wk (.ag [.int .i64 1,.int .i64 0,.int .i64 0,.nils,.sl c n none,.nils]) (.ag (cTy (dA l))):=by
 have e:cTy (dA l)=[.int .i64 1,.int .i64 0,.int .i64 0,sls aW [],sls aZ l,sls cTy []]:=by rw[fA];rfl
 rw[e]
 exact Wk.ag ⟨Wk.refl _,Wk.refl _,Wk.refl _,Wk.nils,h,Wk.nils,trivial⟩
theorem f260 (r:Ty)(n:Str)(hb:wT r<big):PureOk Tryz.prog Γ 260 [.ag (cTy r),.str n] (.ag (cTy (ax r n))):=by
 have hbl:r.fields.length<big:=by have:=dP r;omega
 refine PureOk.wk ?_ (wX (row aZ (bZ n r.fields)) (bZ n r.fields).length (bZ n r.fields) (Wk.refl _))
 cases hf:r.fields with
 |nil=>
  have h1:PureOk Tryz.prog Γ 72 [.sl [] 0 none] (.sl [] 0 none):=f72 Γ [] (by simp[big])
  have h2:=f309z Γ n
  refine Y2 15 Tryz.func260 rfl rfl fun a hl g0 g1=>?_
  (repeat' refine ey ?_);refine dX ?_;(repeat' first|refine eQ ?_|refine iN ?_);refine du ?_;simp only[eD,cd,cc]
  refine qE (h1:=[(1,.cells [.str n] 9 false)]) (h2:=[(0,.cells (cTy r) 125 false),(2,.cells [.int .i64 0,.int .i64 0,.int .i64 0,.nils,.nils,.nils] 125 false)]) 30 [(3,.pp [.str n])] (by (repeat (first|exact aU|refine aP (by simp[V.get, *]) ?_))) (by (repeat (first|exact aU|refine aP (by simp[V.get, *]) ?_))) (by simp) (by simp only[List.mem_cons,List.not_mem_nil,or_false,forall_eq_or_imp,forall_eq];exact⟨.pr 1 0,by simp[*],rW rfl (by simp[Val.closed,aE]) (by simp)⟩) ?_
  simp only[setTs]
  repeat' first|refine G1 ?_|(refine G2 ?_ ?_<;>intro hc hd<;>try exact hd.elim)|fail
  all_goals (try (refine aC h1 ?_))
  repeat' first|refine G1 ?_|(refine G2 ?_ ?_<;>intro hc hd<;>try exact hd.elim)|fail
  all_goals (try (refine aC h2 ?_))
  repeat' first|refine G1 ?_|(refine G2 ?_ ?_<;>intro hc hd<;>try exact hd.elim)|fail
  exact⟨by simp,.ag [.int .i64 1,.int .i64 0,.int .i64 0,.nils,.sl [] 0 none,.nils],1,by simp[Tryz.f260,V.get,V.put,aX, *],by simp[bZ,vw,Val.closed,aE]⟩
 |cons x0 r0=>
  rw[hf] at hbl
  have h1:=(f72c Γ x0 r0 (by simpa using hbl)).ren [] 6 rfl (by simp[cm]) (by simp) rfl
  have h2:=(f309m Γ n (x0::r0) (by simp) hbl).ren [11] 13 rfl (by simp[cm,fU,aa,aR]) (by simp) rfl
  simp at h1 h2
  have hrc:(row aZ (bZ n (x0::r0))).length=(bZ n (x0::r0)).length*8:=by simp
  have hrd:aE (row aZ (bZ n (x0::r0)))=true:=by simp
  generalize row aZ (bZ n (x0::r0))=cs at *
  generalize (bZ n (x0::r0)).length=m at *
  refine Y2 15 Tryz.func260 rfl rfl fun a hl g0 g1=>?_
  (repeat' refine ey ?_);refine dX ?_;(repeat' first|refine eQ ?_|refine iN ?_);refine du ?_;simp only[eD,cd,cc]
  refine qE (h1:=[(1,.cells [.str n] 9 false)]) (h2:=[(0,.cells (cTy r) 125 false),(2,.cells [.int .i64 0,.int .i64 0,.int .i64 0,.nils,.nils,.nils] 125 false)]) 30 [(3,.pp [.str n])] (by (repeat (first|exact aU|refine aP (by simp[V.get, *]) ?_))) (by (repeat (first|exact aU|refine aP (by simp[V.get, *]) ?_))) (by simp) (by simp only[List.mem_cons,List.not_mem_nil,or_false,forall_eq_or_imp,forall_eq];exact⟨.pr 1 0,by simp[*],rW rfl (by simp[Val.closed,aE]) (by simp)⟩) ?_
  simp only[setTs]
  repeat' first|refine G1 ?_|(refine G2 ?_ ?_<;>intro hc hd<;>try exact hd.elim)|fail
  refine av h1 ?_
  repeat' first|refine G1 ?_|(refine G2 ?_ ?_<;>intro hc hd<;>try exact hd.elim)|fail
  refine av h2 ?_
  repeat' first|refine G1 ?_|(refine G2 ?_ ?_<;>intro hc hd<;>try exact hd.elim)|fail
  exact⟨by simp,.ag [.int .i64 1,.int .i64 0,.int .i64 0,.nils,.so 11 0 m none,.nils],cs.length+20,by simp[Tryz.f260,V.get,V.put,aX, *],er (by simp[aE,Val.closed]) (aI (aG rfl) (aI (aG rfl) (aI (aG rfl) (aI (aG rfl) (aI (dC (t:=112) (cs:=cs) rfl (by simp[hrc]) hrd (by omega)) (aI (aG rfl) bR))))))⟩
end
end Go.V
end
section
set_option maxHeartbeats 4000000
namespace Go.V
open Go Go.Proofs
attribute [local irreducible] W bO WD aO yl aS bW
section
variable (Γ:Glo Tryz.prog)
attribute [local simp] veq bP ei V.del kW oD jA bx
@[simp] theorem Gl (n:Int):dB Tryz.prog 30 [(0,.int .i64 4),(1,.int .i64 n)]=some [.int .i64 4,.int .i64 n,.str [],.nils,.nils]:=by kernel_rfl
theorem f249 (n:Int):PureOk Tryz.prog Γ 249 [.int .i64 n] (.ag (aH (.mk 4 n [] [] []))):=by
 refine PureOk.wk (r:=.ag [.int .i64 4,.int .i64 n,.str [],.nils,.nils]) ?_ (Wk.ag ⟨Wk.refl _,Wk.refl _,Wk.refl _,Wk.nils,Wk.nils,trivial⟩)
 refine Y1 5 Tryz.func249 rfl rfl fun a hl g0=>?_
 repeat' first|refine G1 ?_|(refine G2 ?_ ?_<;>intro hc hd<;>try exact hd.elim)|fail
 exact⟨by simp,.ag [.int .i64 4,.int .i64 n,.str [],.nils,.nils],1,by simp[Tryz.f249,V.get,V.put,aX, *],aG rfl⟩
@[simp] theorem Gm (c:List Val)(n:Nat)(k:Option Nat):dB Tryz.prog 30 [(0,.int .i64 3),(4,.sl c n k)]=some [.int .i64 3,.int .i64 0,.str [],.nils,.sl c n k]:=by kernel_rfl
theorem f266 (ds:List Doc)(hb:wDs ds+1<big):PureOk Tryz.prog Γ 266 [sls aH ds] (.ag (aH (.mk 3 0 [] [] ds))):=by
 have h1:=f78 Γ (.mk 3 0 [] [] ds) (by simp[wD,dD] at *;omega)
 have h2:PureOk Tryz.prog Γ 78 [.ag [.int .i64 3,.int .i64 0,.str [],.nils,.sl (row aH ds) ds.length none]] (.ag (aH (.mk 3 0 [] [] ds))):=h1.arg ⟨by rw[db];exact Wk.ag ⟨Wk.refl _,Wk.refl _,Wk.refl _,Wk.nils,Wk.refl _,trivial⟩,trivial⟩
 clear h1
 generalize hd:Doc.mk 3 0 [] [] ds=d at *
 refine Y1 6 Tryz.func266 rfl rfl fun a hl g0=>?_
 repeat' first|refine G1 ?_|(refine G2 ?_ ?_<;>intro hc hd<;>try exact hd.elim)|fail
 all_goals (try (refine aC h2 ?_))
 repeat' first|refine G1 ?_|(refine G2 ?_ ?_<;>intro hc hd<;>try exact hd.elim)|fail
 exact⟨by simp,.ag (aH d),1,by simp[Tryz.f266,V.get,V.put,aX, *],aG (by simp[Val.closed])⟩
theorem f311c (u w n:Int):CallOk Tryz.prog Γ 311 [.so 0 0 2 (some 2),.int .i64 n] [(0,.cells [.int .i64 u,.int .i64 w] 243 false)] 1 true (.int .i64 (bg (fun x=>decide (n=x)) [u,w] 0)) [(0,.cells [.int .i64 u,.int .i64 w] 243 false)] 1:=by
 obtain⟨v,hv⟩:∃v,v=bg (fun x=>decide (n=x)) [u,w] 0:=⟨_,rfl⟩
 rw[←hv]
 have hv2:v=if n=u then 0 else if n=w then 1 else -1:=by rw[hv];simp only[bg];split<;>simp_all
 clear hv
 refine Z2 19 Tryz.func311 rfl rfl fun a hl g0 g1=>?_
 repeat' first|refine G1 ?_|(refine G2 ?_ ?_<;>intro hc hd<;>try exact hd.elim)|fail
 refine am [(4,5),(9,18)] [8] (fun k a h=>h=[(0,.cells [.int .i64 u,.int .i64 w] 243 false)]∧((k=2∧lk a 8=some (.int .i64 0))∨(k=1∧lk a 8=some (.int .i64 1)∧¬n=u)∨(k=0∧lk a 8=some (.int .i64 2)∧¬n=u∧¬n=w))) ⟨rfl,.inl ⟨rfl,by simp[*]⟩⟩ ?_
 intro a1 hk hk0 k a h hF hI
 replace g0:=hF.a hk 0
 replace g1:=hF.a hk 1
 replace g7:=hF.a hk 7
 replace hl:a.length=19:=hF.len.trans (hk0.trans (by simp[*]))
 clear hk hk0
 obtain⟨rfl,⟨rfl,h8⟩|⟨rfl,h8,hu⟩|⟨rfl,h8,hu,hw⟩⟩:=hI
 ·
  repeat' first|refine G1 ?_|(refine G2 ?_ ?_<;>intro hc hd<;>try exact hd.elim)|fail
  ·
   have e:v=0:=by rw[hv2,if_pos hc]
   clear hv2
   exact⟨by simp,by simp[Tryz.f311, *],fun i b hb=>hb⟩
  ·
   exact NX [(0,.cells [.int .i64 u,.int .i64 w] 243 false)] fun a2 hF2=>⟨rfl,.inr (.inl ⟨rfl,(hF2.q 8),hc⟩)⟩
 ·
  repeat' first|refine G1 ?_|(refine G2 ?_ ?_<;>intro hc hd<;>try exact hd.elim)|fail
  ·
   have e:v=1:=by rw[hv2,if_neg hu,if_pos hc]
   clear hv2
   exact⟨by simp,by simp[Tryz.f311, *],fun i b hb=>hb⟩
  ·
   exact NX [(0,.cells [.int .i64 u,.int .i64 w] 243 false)] fun a2 hF2=>⟨rfl,.inr (.inr ⟨rfl,(hF2.q 8),hu,hc⟩)⟩
 ·
  have e:v=-1:=by rw[hv2,if_neg hu,if_neg hw]
  clear hv2
  repeat' first|refine G1 ?_|(refine G2 ?_ ?_<;>intro hc hd<;>try exact hd.elim)|fail
  exact⟨by simp,by simp[Tryz.f311, *],fun i b hb=>hb⟩
theorem f267 (n:Int)(l:List (Int×Int))(hb:l.length<big):PureOk Tryz.prog Γ 267 [.int .i64 n,sls bx l] (.int .i64 (el n l)):=by
 simp only[big] at hb
 obtain⟨v,hv⟩:∃v,v=el n l:=⟨_,rfl⟩
 rw[←hv]
 refine Y2 25 Tryz.func267 rfl rfl fun a hl g0 g1=>?_
 repeat' first|refine G1 ?_|(refine G2 ?_ ?_<;>intro hc hd<;>try exact hd.elim)|fail
 refine am [(4,4),(6,7),(11,23)] [10] (fun k a h=>h=[]∧∃pre rest,l=pre++rest∧k=rest.length∧lk a 10=some (.int .i64 pre.length)∧v=el n rest) ⟨rfl,[],l,rfl,rfl,by simp[*],hv⟩ ?_
 intro a1 hk hk0 k a h hF hI
 replace g0:=hF.a hk 0
 replace g8:=hF.a hk 8
 replace g9:=hF.a hk 9
 replace hl:a.length=25:=hF.len.trans (hk0.trans (by simp[*]))
 clear hk hk0
 clear hv
 obtain⟨rfl,pre,rest,rfl,rfl,h10,hv⟩:=hI
 cases rest with
 |nil=>
  simp only[el] at hv
  repeat' first|refine G1 ?_|(refine G2 ?_ ?_<;>intro hc hd<;>try exact hd.elim)|fail
  exact⟨by simp,.int .i64 v,1,by simp[Tryz.f267, *],rfl⟩
 |cons p r=>
  have hlt:(pre.length:Int)<pre.length+(r.length+1):=by omega
  have hw:=ad ((pre.length:Int)+1) (by omega) (by simp at hb;omega)
  obtain⟨u,w⟩:=p
  have k1:=(f311c Γ u w n).ren [7] 11 rfl (by simp[cm,fU,aa,aR]) (by simp) rfl
  simp at k1
  simp only[el] at hv
  by_cases h1:u=n
  ·
   have hi:bg (fun x=>decide (n=x)) [u,w] 0=0:=by simp[bg,h1]
   have j1:=k1;rw[hi] at j1;clear k1
   rw[if_pos h1] at hv
   clear hi h1
   repeat' first|refine G1 ?_|(refine G2 ?_ ?_<;>intro hc hd<;>try exact hd.elim)|fail
   refine av j1 ?_
   repeat' first|refine G1 ?_|(refine G2 ?_ ?_<;>intro hc hd<;>try exact hd.elim)|fail
   exact⟨by simp,.int .i64 v,1,by simp[Tryz.f267, *],rfl⟩
  ·
   by_cases h2:w=n
   ·
    have hi:bg (fun x=>decide (n=x)) [u,w] 0=1:=by
     have h1':¬n=u:=fun e=>h1 e.symm
     simp[bg,h1',h2]
    have j1:=k1;rw[hi] at j1;clear k1
    rw[if_neg h1,if_pos h2] at hv
    clear hi h1 h2
    repeat' first|refine G1 ?_|(refine G2 ?_ ?_<;>intro hc hd<;>try exact hd.elim)|fail
    refine av j1 ?_
    repeat' first|refine G1 ?_|(refine G2 ?_ ?_<;>intro hc hd<;>try exact hd.elim)|fail
    exact⟨by simp,.int .i64 v,1,by simp[Tryz.f267, *],rfl⟩
   ·
    have hi:bg (fun x=>decide (n=x)) [u,w] 0=-1:=by
     have h1':¬n=u:=fun e=>h1 e.symm
     have h2':¬n=w:=fun e=>h2 e.symm
     simp[bg,h1',h2']
    have j1:=k1;rw[hi] at j1;clear k1
    rw[if_neg h1,if_neg h2] at hv
    clear hi h1 h2
    repeat' first|refine G1 ?_|(refine G2 ?_ ?_<;>intro hc hd<;>try exact hd.elim)|fail
    refine av j1 ?_
    repeat' first|refine G1 ?_|(refine G2 ?_ ?_<;>intro hc hd<;>try exact hd.elim)|fail
    exact NX [] fun a2 hF2=>⟨rfl,pre++[(u,w)],r,by simp,rfl,(hF2.q 10),hv⟩
theorem f139n:PureOk Tryz.prog Γ 139 [.nils] .nils:=by
 refine Y1 8 Tryz.func139 rfl rfl fun a hl g0=>?_
 repeat' first|refine G1 ?_|(refine G2 ?_ ?_<;>intro hc hd<;>try exact hd.elim)|fail
 exact⟨by simp,.nils,1,by simp[Tryz.f139, *],rfl⟩
theorem f139s:PureOk Tryz.prog Γ 139 [.sle] (.sl [] 0 (some 0)):=by
 refine Y1 8 Tryz.func139 rfl rfl fun a hl g0=>?_
 repeat' first|refine G1 ?_|(refine G2 ?_ ?_<;>intro hc hd<;>try exact hd.elim)|fail
 exact⟨by simp,.so 3 0 0 (some 0),100,by simp[Tryz.f139, *],by simp[vw,vwL,V.get]⟩
theorem f71n:PureOk Tryz.prog Γ 71 [.nils] .nils:=by
 refine Y1 8 Tryz.func71 rfl rfl fun a hl g0=>?_
 repeat' first|refine G1 ?_|(refine G2 ?_ ?_<;>intro hc hd<;>try exact hd.elim)|fail
 exact⟨by simp,.nils,1,by simp[Tryz.f71, *],rfl⟩
theorem f71s:PureOk Tryz.prog Γ 71 [.sle] (.sl [] 0 (some 0)):=by
 refine Y1 8 Tryz.func71 rfl rfl fun a hl g0=>?_
 repeat' first|refine G1 ?_|(refine G2 ?_ ?_<;>intro hc hd<;>try exact hd.elim)|fail
 exact⟨by simp,.so 3 0 0 (some 0),100,by simp[Tryz.f71, *],by simp[vw,vwL,V.get]⟩
@[simp] theorem Fl (i o n:Nat)(k:Option Nat)(c:List Val)(m:Nat)(k2:Option Nat):dB Tryz.prog 138 [(0,.so i o n k),(1,.sl c m k2)]=some [.so i o n k,.sl c m k2]:=by kernel_rfl
@[simp] theorem Fm (i o n:Nat)(k:Option Nat)(c:List Val)(m:Nat)(k2:Option Nat):dB Tryz.prog 138 [(0,.sl c m k2),(1,.so i o n k)]=some [.sl c m k2,.so i o n k]:=by kernel_rfl
theorem f133 (st:List Int)(ks:List Str)(k:Int)(hb:st.length+1<big):PureOk Tryz.prog Γ 133 [.ag [sls bv st,sls aW ks],.int .i64 k] (.ag [sls bv (st++[k]),sls aW ks]):=by
 simp only[big] at hb
 cases st with
 |nil=>
  have h1:=f139n Γ
  have h2:=f139s Γ
  refine Y2 14 Tryz.func133 rfl rfl fun a hl g0 g1=>?_
  (repeat' refine ey ?_);refine dX ?_;(repeat' first|refine eQ ?_|refine iN ?_);refine du ?_;simp only[eD,cd,cc]
  refine qF 0 (us:=[]) rfl ?_ ?_
  ·
   simp only[V.put,if_true]
   repeat' first|refine G1 ?_|(refine G2 ?_ ?_<;>intro hc hd<;>try exact hd.elim)|fail
   refine aQ h1 ?_
   repeat' first|refine G1 ?_|(refine G2 ?_ ?_<;>intro hc hd<;>try exact hd.elim)|fail
   refine gy [(2,.cells [.int .i64 k] 3 false)] ?_
   repeat' first|refine G1 ?_|(refine G2 ?_ ?_<;>intro hc hd<;>try exact hd.elim)|fail
   exact⟨by simp,.ag [.so 3 0 1 none,sls aW ks],20,by simp[Tryz.f133,V.get,V.put,aX, *],er (by simp[aE,Val.closed]) (aI (dC (t:=3) (cs:=[.int .i64 k]) rfl (by simp) rfl (by simp)) (aI (aG (by simp[Val.closed])) bR))⟩
  ·
   simp only[V.put,if_true]
   repeat' first|refine G1 ?_|(refine G2 ?_ ?_<;>intro hc hd<;>try exact hd.elim)|fail
   refine aQ h2 ?_
   repeat' first|refine G1 ?_|(refine G2 ?_ ?_<;>intro hc hd<;>try exact hd.elim)|fail
   refine gy [(2,.cells [.int .i64 k] 3 false)] ?_
   repeat' first|refine G1 ?_|(refine G2 ?_ ?_<;>intro hc hd<;>try exact hd.elim)|fail
   exact⟨by simp,.ag [.so 3 0 1 none,sls aW ks],20,by simp[Tryz.f133,V.get,V.put,aX, *],er (by simp[aE,Val.closed]) (aI (dC (t:=3) (cs:=[.int .i64 k]) rfl (by simp) rfl (by simp)) (aI (aG (by simp[Val.closed])) bR))⟩
 |cons x0 r0=>
  have h1:=(f139c Γ x0 r0 (by simp at hb;simp only[big];omega)).ren [] 2 rfl (by simp[cm]) (by simp) rfl
  simp at h1
  have e1:row bv (x0::r0++[k])=row bv (x0::r0)++[.int .i64 k]:=by rw[bd];rfl
  have e2:sls bv (x0::r0++[k])=.sl (row bv (x0::r0)++[.int .i64 k]) (r0.length+1+1) none:=by rw[←e1];unfold sls;congr 1;simp
  have hrow:.int .i64 x0::row bv r0=row bv (x0::r0):=rfl
  try rw[hrow] at h1
  rw[e2]
  have hcl:(row bv (x0::r0)).length=r0.length+1:=by simp
  have hcc:aE (row bv (x0::r0))=true:=by simp
  have hce:ai (row bv (x0::r0))=true:=by simp
  have hta:List.take (r0.length+1) (row bv (x0::r0))=row bv (x0::r0):=List.take_of_length_le (by omega)
  have e3:sls bv (x0::r0)=.sl (row bv (x0::r0)) (r0.length+1) none:=rfl
  rw[e3]
  try rw[e3] at h1
  generalize row bv (x0::r0)=cs at *
  have hb2:(r0.length+1+1)*8≤140737488355328:=by simp at hb;omega
  have hnl:¬r0.length+1+1≤r0.length+1:=by omega
  clear e1 e2 e3 hrow hb
  refine Y2 14 Tryz.func133 rfl rfl fun a hl g0 g1=>?_
  have hlo:=fun N=>aD (N:=N) _ hcc
  repeat' first|refine G1 ?_|(refine G2 ?_ ?_<;>intro hc hd<;>try exact hd.elim)|fail
  refine cI h1 ?_
  repeat' first|refine G1 ?_|(refine G2 ?_ ?_<;>intro hc hd<;>try exact hd.elim)|fail
  refine gy [(7,.cells cs 3 true),(8,.cells [.int .i64 k] 3 false)] ?_
  repeat' first|refine G1 ?_|(refine G2 ?_ ?_<;>intro hc hd<;>try exact hd.elim)|fail
  exact⟨by simp,.ag [.so 9 0 (r0.length+1+1) none,sls aW ks],cs.length+20,by simp[Tryz.f133,V.get,V.put,aX, *],er (by simp[aE,Val.closed]) (aI (dC (t:=3) (cs:=cs++[.int .i64 k]) rfl (by simp[hcl]) (by simp[aE,Val.closed,hcc]) (by simp)) (aI (aG (by simp[Val.closed])) bR))⟩
theorem f268 (st:List Int)(ks:List Str)(k:Str)(hb:ks.length+1<big):PureOk Tryz.prog Γ 268 [.ag [sls bv st,sls aW ks],.str k] (.ag [sls bv st,sls aW (ks++[k])]):=by
 simp only[big] at hb
 cases ks with
 |nil=>
  have h1:=f71n Γ
  have h2:=f71s Γ
  refine Y2 14 Tryz.func268 rfl rfl fun a hl g0 g1=>?_
  (repeat' refine ey ?_);refine dX ?_;(repeat' first|refine eQ ?_|refine iN ?_);refine du ?_;simp only[eD,cd,cc]
  refine qF 0 (us:=[sls bv st]) rfl ?_ ?_
  ·
   simp only[V.put,if_true]
   repeat' first|refine G1 ?_|(refine G2 ?_ ?_<;>intro hc hd<;>try exact hd.elim)|fail
   refine aQ h1 ?_
   repeat' first|refine G1 ?_|(refine G2 ?_ ?_<;>intro hc hd<;>try exact hd.elim)|fail
   refine gy [(2,.cells [.str k] 9 false)] ?_
   repeat' first|refine G1 ?_|(refine G2 ?_ ?_<;>intro hc hd<;>try exact hd.elim)|fail
   exact⟨by simp,.ag [sls bv st,.so 3 0 1 none],20,by simp[Tryz.f268,V.get,V.put,aX, *],er (by simp[aE,Val.closed]) (aI (aG (by simp[Val.closed])) (aI (dC (t:=9) (cs:=[.str k]) rfl (by simp) rfl (by simp)) bR))⟩
  ·
   simp only[V.put,if_true]
   repeat' first|refine G1 ?_|(refine G2 ?_ ?_<;>intro hc hd<;>try exact hd.elim)|fail
   refine aQ h2 ?_
   repeat' first|refine G1 ?_|(refine G2 ?_ ?_<;>intro hc hd<;>try exact hd.elim)|fail
   refine gy [(2,.cells [.str k] 9 false)] ?_
   repeat' first|refine G1 ?_|(refine G2 ?_ ?_<;>intro hc hd<;>try exact hd.elim)|fail
   exact⟨by simp,.ag [sls bv st,.so 3 0 1 none],20,by simp[Tryz.f268,V.get,V.put,aX, *],er (by simp[aE,Val.closed]) (aI (aG (by simp[Val.closed])) (aI (dC (t:=9) (cs:=[.str k]) rfl (by simp) rfl (by simp)) bR))⟩
 |cons x0 r0=>
  have h1:=(f71c Γ x0 r0 (by simp at hb;simp only[big];omega)).ren [] 2 rfl (by simp[cm]) (by simp) rfl
  simp at h1
  have e1:row aW (x0::r0++[k])=row aW (x0::r0)++[.str k]:=by rw[bd];rfl
  have e2:sls aW (x0::r0++[k])=.sl (row aW (x0::r0)++[.str k]) (r0.length+1+1) none:=by rw[←e1];unfold sls;congr 1;simp
  have hrow:.str x0::row aW r0=row aW (x0::r0):=rfl
  try rw[hrow] at h1
  rw[e2]
  have hcl:(row aW (x0::r0)).length=r0.length+1:=by simp
  have hcc:aE (row aW (x0::r0))=true:=by simp
  have hce:ai (row aW (x0::r0))=true:=by simp
  have hta:List.take (r0.length+1) (row aW (x0::r0))=row aW (x0::r0):=List.take_of_length_le (by omega)
  have e3:sls aW (x0::r0)=.sl (row aW (x0::r0)) (r0.length+1) none:=rfl
  rw[e3]
  try rw[e3] at h1
  generalize row aW (x0::r0)=cs at *
  have hb2:(r0.length+1+1)*16≤140737488355328:=by simp at hb;omega
  have hnl:¬r0.length+1+1≤r0.length+1:=by omega
  clear e1 e2 e3 hrow hb
  refine Y2 14 Tryz.func268 rfl rfl fun a hl g0 g1=>?_
  have hlo:=fun N=>aD (N:=N) _ hcc
  repeat' first|refine G1 ?_|(refine G2 ?_ ?_<;>intro hc hd<;>try exact hd.elim)|fail
  refine cI h1 ?_
  repeat' first|refine G1 ?_|(refine G2 ?_ ?_<;>intro hc hd<;>try exact hd.elim)|fail
  refine gy [(7,.cells cs 9 true),(8,.cells [.str k] 9 false)] ?_
  repeat' first|refine G1 ?_|(refine G2 ?_ ?_<;>intro hc hd<;>try exact hd.elim)|fail
  exact⟨by simp,.ag [sls bv st,.so 9 0 (r0.length+1+1) none],cs.length+20,by simp[Tryz.f268,V.get,V.put,aX, *],er (by simp[aE,Val.closed]) (aI (aG (by simp[Val.closed])) (aI (dC (t:=9) (cs:=cs++[.str k]) rfl (by simp[hcl]) (by simp[aE,Val.closed,hcc]) (by simp)) bR))⟩
end
end Go.V
end
section
set_option maxHeartbeats 4000000
namespace Go.V
open Go Go.Proofs
attribute [local irreducible] W bO WD aO yl aS bW
section
variable (Γ:Glo Tryz.prog)
attribute [local simp] veq bP ei V.del
theorem f211 (t:Ty)(d:Doc)(ht:wT t<big):PureOk Tryz.prog Γ 211 [.ag (cTy t),.ag (aH d)] (.int .i64 (cy t d)):=by
 have h1:=f274 Γ t d
 have h2:=f275 Γ d.kids.length t
 have h3:=f275 Γ d.num t
 have h4:=f275 Γ d.str.length t
 have h5:=f240 Γ t.names d.str (by have:=jL t;omega)
 obtain⟨v,hv⟩:∃v,v=cy t d:=⟨_,rfl⟩
 rw[←hv]
 unfold cy at hv
 clear ht
 by_cases hk:if t.kind=7 then d.kind=6 else t.kind=d.kind
 case neg=>
  rw[if_neg hk] at hv
  rw[decide_eq_false hk] at h1
  subst hv
  clear h2 h3 h4 h5 hk
  refine Y2 40 Tryz.func211 rfl rfl fun a hl g0 g1=>?_
  repeat' first|refine G1 ?_|(refine G2 ?_ ?_<;>intro hc hd<;>try exact hd.elim)|fail
  all_goals (try (refine aC h1 ?_))
  repeat' first|refine G1 ?_|(refine G2 ?_ ?_<;>intro hc hd<;>try exact hd.elim)|fail
  exact⟨by simp,.int .i64 7,1,by simp[Tryz.f211, *],rfl⟩
 rw[if_pos hk] at hv
 rw[decide_eq_true hk] at h1
 clear hk
 by_cases k2:t.kind=2
 ·
  rw[if_pos (.inl k2)] at hv
  rw[←hv] at h2
  clear h3 h4 h5 hv
  refine Y2 40 Tryz.func211 rfl rfl fun a hl g0 g1=>?_
  repeat' first|refine G1 ?_|(refine G2 ?_ ?_<;>intro hc hd<;>try exact hd.elim)|fail
  all_goals (try (refine aC h1 ?_))
  repeat' first|refine G1 ?_|(refine G2 ?_ ?_<;>intro hc hd<;>try exact hd.elim)|fail
  all_goals (try (refine aC h2 ?_))
  repeat' first|refine G1 ?_|(refine G2 ?_ ?_<;>intro hc hd<;>try exact hd.elim)|fail
  exact⟨by simp,.int .i64 v,1,by simp[Tryz.f211, *],rfl⟩
 by_cases k3:t.kind=3
 ·
  rw[if_pos (.inr k3)] at hv
  rw[←hv] at h2
  clear h3 h4 h5 hv
  refine Y2 40 Tryz.func211 rfl rfl fun a hl g0 g1=>?_
  repeat' first|refine G1 ?_|(refine G2 ?_ ?_<;>intro hc hd<;>try exact hd.elim)|fail
  all_goals (try (refine aC h1 ?_))
  repeat' first|refine G1 ?_|(refine G2 ?_ ?_<;>intro hc hd<;>try exact hd.elim)|fail
  all_goals (try (refine aC h2 ?_))
  repeat' first|refine G1 ?_|(refine G2 ?_ ?_<;>intro hc hd<;>try exact hd.elim)|fail
  exact⟨by simp,.int .i64 v,1,by simp[Tryz.f211, *],rfl⟩
 rw[if_neg (by simp[k2,k3])] at hv
 by_cases k4:t.kind=4
 ·
  rw[if_pos k4] at hv
  rw[←hv] at h3
  clear h2 h4 h5 hv
  refine Y2 40 Tryz.func211 rfl rfl fun a hl g0 g1=>?_
  repeat' first|refine G1 ?_|(refine G2 ?_ ?_<;>intro hc hd<;>try exact hd.elim)|fail
  all_goals (try (refine aC h1 ?_))
  repeat' first|refine G1 ?_|(refine G2 ?_ ?_<;>intro hc hd<;>try exact hd.elim)|fail
  all_goals (try (refine aC h3 ?_))
  repeat' first|refine G1 ?_|(refine G2 ?_ ?_<;>intro hc hd<;>try exact hd.elim)|fail
  exact⟨by simp,.int .i64 v,1,by simp[Tryz.f211, *],rfl⟩
 rw[if_neg k4] at hv
 by_cases k6:t.kind=6
 ·
  rw[if_pos k6] at hv
  rw[←hv] at h4
  clear h2 h3 h5 hv
  refine Y2 40 Tryz.func211 rfl rfl fun a hl g0 g1=>?_
  repeat' first|refine G1 ?_|(refine G2 ?_ ?_<;>intro hc hd<;>try exact hd.elim)|fail
  all_goals (try (refine aC h1 ?_))
  repeat' first|refine G1 ?_|(refine G2 ?_ ?_<;>intro hc hd<;>try exact hd.elim)|fail
  all_goals (try (refine aC h4 ?_))
  repeat' first|refine G1 ?_|(refine G2 ?_ ?_<;>intro hc hd<;>try exact hd.elim)|fail
  exact⟨by simp,.int .i64 v,1,by simp[Tryz.f211, *],rfl⟩
 rw[if_neg k6] at hv
 by_cases k7:t.kind=7
 ·
  rw[if_pos k7] at hv
  clear h2 h3 h4
  generalize t.names.contains d.str=q at *
  cases q with
  |true=>
   rw[if_pos rfl] at hv
   subst hv
   refine Y2 40 Tryz.func211 rfl rfl fun a hl g0 g1=>?_
   repeat' first|refine G1 ?_|(refine G2 ?_ ?_<;>intro hc hd<;>try exact hd.elim)|fail
   all_goals (try (refine aC h1 ?_))
   repeat' first|refine G1 ?_|(refine G2 ?_ ?_<;>intro hc hd<;>try exact hd.elim)|fail
   all_goals (try (refine aC h5 ?_))
   repeat' first|refine G1 ?_|(refine G2 ?_ ?_<;>intro hc hd<;>try exact hd.elim)|fail
   exact⟨by simp,.int .i64 0,1,by simp[Tryz.f211, *],rfl⟩
  |false=>
   rw[if_neg (by simp)] at hv
   subst hv
   refine Y2 40 Tryz.func211 rfl rfl fun a hl g0 g1=>?_
   repeat' first|refine G1 ?_|(refine G2 ?_ ?_<;>intro hc hd<;>try exact hd.elim)|fail
   all_goals (try (refine aC h1 ?_))
   repeat' first|refine G1 ?_|(refine G2 ?_ ?_<;>intro hc hd<;>try exact hd.elim)|fail
   all_goals (try (refine aC h5 ?_))
   repeat' first|refine G1 ?_|(refine G2 ?_ ?_<;>intro hc hd<;>try exact hd.elim)|fail
   exact⟨by simp,.int .i64 8,1,by simp[Tryz.f211, *],rfl⟩
 rw[if_neg k7] at hv
 subst hv
 clear h2 h3 h4 h5
 refine Y2 40 Tryz.func211 rfl rfl fun a hl g0 g1=>?_
 repeat' first|refine G1 ?_|(refine G2 ?_ ?_<;>intro hc hd<;>try exact hd.elim)|fail
 all_goals (try (refine aC h1 ?_))
 repeat' first|refine G1 ?_|(refine G2 ?_ ?_<;>intro hc hd<;>try exact hd.elim)|fail
 exact⟨by simp,.int .i64 0,1,by simp[Tryz.f211, *],rfl⟩
theorem f140 (t:Ty)(d:Doc)(ht:wT t<big)(hd:wD d<big):PureOk Tryz.prog Γ 140 [.ag (cTy t),.ag (aH d)] (.bool (bq t&&dH d)):=by
 have h1:=f27 Γ t ht
 have h2:=f77 Γ d hd
 generalize bq t=p1 at *
 generalize dH d=p2 at *
 clear ht hd
 cases p1<;>cases p2
 all_goals
  refine Y2 11 Tryz.func140 rfl rfl fun a hl g0 g1=>?_
  repeat' first|refine G1 ?_|(refine G2 ?_ ?_<;>intro hc hd<;>try exact hd.elim)|fail
  all_goals (try (refine aC h1 ?_))
  repeat' first|refine G1 ?_|(refine G2 ?_ ?_<;>intro hc hd<;>try exact hd.elim)|fail
  all_goals (try (refine aC h2 ?_))
  all_goals (repeat' first|refine G1 ?_|(refine G2 ?_ ?_<;>intro hc hd<;>try exact hd.elim)|fail)
  first|exact⟨by simp,.bool true,1,by simp[Tryz.f140, *],rfl⟩|exact⟨by simp,.bool false,1,by simp[Tryz.f140, *],rfl⟩
theorem f207 (ks:List Str)(k:Str)(hb:ks.length+1<big):PureOk Tryz.prog Γ 207 [sls aW ks,.str k] (sls aW (ks++[k])):=by
 simp only[big] at hb
 cases ks with
 |nil=>
  have h1:=f71n Γ
  have h2:=f71s Γ
  have e0:sls aW []=.sl [] 0 none:=rfl
  rw[e0]
  refine PureOk.split_nil (us:=[]) ?_ ?_
  ·
   simp only[List.nil_append]
   refine Y2 10 Tryz.func207 rfl rfl fun a hl g0 g1=>?_
   repeat' first|refine G1 ?_|(refine G2 ?_ ?_<;>intro hc hd<;>try exact hd.elim)|fail
   all_goals (try (refine aC h1 ?_))
   repeat' first|refine G1 ?_|(refine G2 ?_ ?_<;>intro hc hd<;>try exact hd.elim)|fail
   exact⟨by simp,.so 4 0 1 none,20,by simp[Tryz.f207,V.get,V.put,aX, *],dC (t:=9) (cs:=[.str k]) rfl (by simp) rfl (by simp)⟩
  ·
   simp only[List.nil_append]
   refine Y2 10 Tryz.func207 rfl rfl fun a hl g0 g1=>?_
   repeat' first|refine G1 ?_|(refine G2 ?_ ?_<;>intro hc hd<;>try exact hd.elim)|fail
   all_goals (try (refine aC h2 ?_))
   repeat' first|refine G1 ?_|(refine G2 ?_ ?_<;>intro hc hd<;>try exact hd.elim)|fail
   exact⟨by simp,.so 4 0 1 none,20,by simp[Tryz.f207,V.get,V.put,aX, *],dC (t:=9) (cs:=[.str k]) rfl (by simp) rfl (by simp)⟩
 |cons x0 r0=>
  have h1:=(f71c Γ x0 r0 (by simp at hb;simp only[big];omega)).ren [] 2 rfl (by simp[cm]) (by simp) rfl
  simp at h1
  have e1:row aW (x0::r0++[k])=row aW (x0::r0)++[.str k]:=by rw[bd];rfl
  have e2:sls aW (x0::r0++[k])=.sl (row aW (x0::r0)++[.str k]) (r0.length+1+1) none:=by rw[←e1];unfold sls;congr 1;simp
  have hrow:.str x0::row aW r0=row aW (x0::r0):=rfl
  try rw[hrow] at h1
  rw[e2]
  have hcl:(row aW (x0::r0)).length=r0.length+1:=by simp
  have hcc:aE (row aW (x0::r0))=true:=by simp
  have hce:ai (row aW (x0::r0))=true:=by simp
  have hta:List.take (r0.length+1) (row aW (x0::r0))=row aW (x0::r0):=List.take_of_length_le (by omega)
  have e3:sls aW (x0::r0)=.sl (row aW (x0::r0)) (r0.length+1) none:=rfl
  rw[e3]
  try rw[e3] at h1
  generalize row aW (x0::r0)=cs at *
  have hb2:(r0.length+1+1)*16≤140737488355328:=by simp at hb;omega
  have hnl:¬r0.length+1+1≤r0.length+1:=by omega
  clear e1 e2 e3 hrow hb
  have hlo:=fun N=>aD (N:=N) _ hcc
  refine Y2 10 Tryz.func207 rfl rfl fun a hl g0 g1=>?_
  repeat' first|refine G1 ?_|(refine G2 ?_ ?_<;>intro hc hd<;>try exact hd.elim)|fail
  refine av h1 ?_
  repeat' first|refine G1 ?_|(refine G2 ?_ ?_<;>intro hc hd<;>try exact hd.elim)|fail
  exact⟨by simp,.so 10 0 (r0.length+1+1) none,cs.length+20,by simp[Tryz.f207,V.get,V.put,aX, *],dC (t:=9) (cs:=cs++[.str k]) rfl (by simp[hcl]) (by simp[aE,Val.closed,hcc]) (by simp)⟩
end
end Go.V
end
