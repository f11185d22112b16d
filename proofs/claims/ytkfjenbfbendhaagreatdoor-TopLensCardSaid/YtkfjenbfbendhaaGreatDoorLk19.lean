/-
  A part of a proof: Y4.
-/
import Derived.Test.YtkfjenbfbendhaaGreatDoorLk18
set_option linter.unusedSimpArgs false
set_option linter.unusedVariables false
set_option maxHeartbeats 4000000
namespace Go.V
open Go Go.Proofs
attribute [local irreducible] W bO WD aO yl aS bW
section
variable (Γ:Glo Tryz.prog)
attribute [local simp] veq bP ei V.del
section
variable {o:Nat} {fs:List Flt} {r:Heap} {b:Blk}
theorem CU {α:Type}{c:α→List Val}{t:TypeId}{l:List α}{i:Nat}(h:o≠i):V.put (gH c o t l++r) i b=gH c o t l++V.put r i b:=by
 cases l with
 |nil=>rfl
 |cons x l=>simp[gH,V.put,h]
theorem CS {i:Nat}(h:5≤i):V.put (Bx o fs++r) i b=Bx o fs++V.put r i b:=by
 unfold Bx
 simp only[List.cons_append,List.nil_append,V.put]
 rw[if_neg (by omega),if_neg (by omega),if_neg (by omega),if_neg (by omega),if_neg (by omega)]
theorem CK {i:Nat}(h:5≤i):V.get (Bx o fs++r) i=V.get r i:=by
 unfold Bx
 simp only[List.cons_append,List.nil_append,V.get]
 rw[if_neg (by omega),if_neg (by omega),if_neg (by omega),if_neg (by omega),if_neg (by omega)]
theorem vG {i:Nat}(h:5≤i)(ho:o≠i):V.put (Hc o fs++r) i b=Hc o fs++V.put r i b:=by
 unfold Hc
 rw[List.append_assoc,CU ho,CS h,List.append_assoc]
theorem wV {i:Nat}(h:5≤i)(ho:o≠i):V.put (Hc o fs) i b=Hc o fs++[(i,b)]:=by
 have:=vG (o:=o) (fs:=fs) (r:=[]) (b:=b) h ho
 rwa[List.append_nil] at this
theorem oz {i:Nat}(h:5≤i)(ho:o≠i):V.get (Hc o fs++r) i=V.get r i:=by
 unfold Hc
 rw[List.append_assoc,em dM ho,CK h]
theorem sC {i:Nat}(h:5≤i)(ho:o≠i):V.get (Hc o fs) i=none:=by
 have:=oz (o:=o) (fs:=fs) (r:=[]) h ho
 rwa[List.append_nil] at this
end
attribute [local simp] vG wV oz sC
theorem fu (it:Nat→Str)(d:Doc)(p:List Str):∀(l m:List Fld),bX it (l++m) d p=bX it l d p++bX it m d p
 |[],m=>by simp[bX]
 |.mk n o t::l,m=>by
  rw[List.cons_append,bX,fu it d p l m,bX,List.append_assoc]
theorem hZ (fs:List Fld)(p:List Str):∀(l m:List Str),dL fs p (l++m)=dL fs p l++dL fs p m
 |[],m=>by simp[dL]
 |x::l,m=>by
  have:=hZ fs p l m
  show(if pC x fs then [] else [(p++[x],10)])++dL fs p (l++m)=((if pC x fs then [] else [(p++[x],10)])++dL fs p l)++dL fs p m
  rw[this,List.append_assoc]
theorem tV (it:Nat→Str)(d:Doc)(p:List Str)(f:Fld):bX it [f] d p=match dl f.name d.keys d.kids with
  |some x=>aV it f.ty x (p++[f.name])
  |none=>if f.opt then [] else [(p++[f.name],9)]:=by
 obtain⟨n,o,t⟩:=f
 rw[bX,bX,List.append_nil]
 rfl
theorem bN {N M x y i:Nat}(h:i<N)(hx:x≠i):mvT N M [(x,y)] i=i:=by
 unfold mvT
 have:(x==i)=false:=by simpa using hx
 simp[List.find?,this,h]
theorem bM {N M x y:Nat}:mvT N M [(x,y)] x=y:=by
 unfold mvT
 simp[List.find?]
theorem bI {o:Nat}{fs:List Flt}{r:Heap}(h:∀p∈r,p.1≠o∧5≤p.1)(ho:5≤o)(hr:dZ r=true):dZ (Hc o fs++r)=true:=by
 unfold Hc
 rw[List.append_assoc]
 refine ge dM ?_ ?_
 ·
  intro p hp
  rcases List.mem_append.1 hp with hp|hp
  ·
   simp[Bx] at hp
   rcases hp with rfl|rfl|rfl|rfl|rfl<;>simp<;>omega
  ·
   exact(h p hp).1
 ·
  unfold dZ at *
  rw[decide_eq_true_eq] at *
  rw[List.map_append,List.nodup_append]
  refine⟨by simp[Bx],hr,?_⟩
  intro x hx y hy e
  subst e
  obtain⟨p,hp,rfl⟩:=List.mem_map.1 hy
  have:=(h p hp).2
  simp[Bx] at hx
  omega
theorem dm {N o:Nat}{fs:List Flt}{r:Heap}(h:5≤N)(ho:o<N)(hr:bc N r=true):bc N (Hc o fs++r)=true:=by
 have h1:=gZ h ho fs
 unfold bc at *
 rw[List.all_append,h1,hr];rfl
theorem eP {R r1 r2:Heap}(h:∀i b,V.get r1 i=some b→V.get r2 i=some b):∀i b,V.get (R++r1) i=some b→V.get (R++r2) i=some b:=by
 intro i b hb
 rw[eC] at hb ⊢
 cases hg:V.get R i with
 |some b'=>rw[hg] at hb;exact hb
 |none=>rw[hg] at hb;simp only[Option.none_or] at hb ⊢;exact h i b hb
theorem ec {h1:Heap}{N o:Nat}{fs:List Flt}(ho:N≤o∧o<N+1)(h:∀i,i<5→(V.get h1 i).isSome):∀i,(V.get (Hc o fs) i).isSome→(V.get h1 i).isSome∨(N≤i∧i<N+1):=by
 intro i hi
 by_cases e:i<5
 ·
  exact .inl (h i e)
 ·
  by_cases e2:o=i
  ·
   subst e2;exact .inr ho
  ·
   rw[sC (by omega) e2] at hi;cases hi
theorem mc {h1:Heap}(h0:(V.get h1 0).isSome)(k1:(V.get h1 1).isSome)(h2:(V.get h1 2).isSome)(h3:(V.get h1 3).isSome)(h4:(V.get h1 4).isSome):∀i,i<5→(V.get h1 i).isSome:=by
 intro i hi
 match i,hi with
 |0,_=>exact h0
 |1,_=>exact k1
 |2,_=>exact h2
 |3,_=>exact h3
 |4,_=>exact h4
theorem wG (n:Str):∀(ks:List Str)(ds:List Doc)(j:Nat),ks.length=ds.length→(dl n ks ds=none∧bg (fun x=>decide (n=x)) ks j=-1)∨∃pre y r,ds=pre++y::r∧dl n ks ds=some y∧bg (fun x=>decide (n=x)) ks j=((j+pre.length:Nat):Int)
 |[],ds,j,_=>.inl ⟨by cases ds<;>rfl,rfl⟩
 |_::_,[],_,h=>by simp at h
 |k::ks,d::ds,j,h=>by
  rw[dl,bg]
  by_cases e:k=n
  ·
   right;exact⟨[],d,ds,rfl,by simp[e],by simp[e]⟩
  ·
   have e':¬n=k:=fun h=>e h.symm
   simp only[e,e',if_false,decide_false,Bool.false_eq_true]
   rcases wG n ks ds (j+1) (by simpa using h) with ⟨h1,h2⟩|⟨pre,y,r,h1,h2,h3⟩
   ·
    exact .inl ⟨h1,h2⟩
   ·
    exact .inr ⟨d::pre,y,r,by rw[h1];rfl,h2,by rw[h3];simp;omega⟩
def wv (it:Nat→Str)(t:Ty):Prop:=∀(d:Doc)(p:List Str)(fs:List Flt),rightD d=true→wD d<1000000000→p.length+cZ t<1000000→(fs++aV it t d p).length<1000000000→
 CallOk Tryz.prog Γ 210 [.ag (cTy t),.ag (aH d),sls aW p,.pr 3 0,.pr 2 0,.pr 0 0,.pr 1 0] (Hc 5 fs) 6 true (.tp []) (Hc 6 (fs++aV it t d p)) 7
theorem f208 (it:Nat→Str)(t:Ty)(d:Doc)(p:List Str)(fs:List Flt)(ht:wT t<1000000000)(hd:wD d<1000000000)(hk1:t.kind=1)(hlen:d.keys.length=d.kids.length)(hkids:∀x∈d.kids,rightD x=true)(hp:p.length+ct t.fields+1<1000000)
  (hX:(fs++(bX it t.fields d p++dL t.fields p d.keys)).length<1000000000) (hA:∀f∈t.fields,wv Γ it f.ty) :
  CallOk Tryz.prog Γ 208 [.ag (cTy t),.ag (aH d),sls aW p,.pr 0 0,.pr 1 0,.pr 3 0] (Hc 5 fs) 6 true (.tp []) (Hc 6 (fs++(bX it t.fields d p++dL t.fields p d.keys))) 7:=by
 have hbl:t.fields.length<100000000000:=by have:=dP t;omega
 have hbk:d.keys.length<100000000000:=by have:=io d;omega
 have h189:∀s,PureOk Tryz.prog Γ 189 [.ag (cTy t),.str s] (.int .i64 (bg (fun f=>decide (f.name=s)) t.fields 0)):=fun s=>by
  have:=f189 Γ t s (by unfold big;omega)
  rwa[if_pos hk1] at this
 refine ba Tryz.func208 rfl (by simp[Tryz.f208]) (by omega) (by simp[aR,aa]) (gZ (by omega) (by omega) _) ?_
 intro a hl ha
 replace hl:a.length=73:=hl
 have g0:=ha 0 _ rfl
 have g1:=ha 1 _ rfl
 have g2:=ha 2 _ rfl
 have g3:=ha 3 _ rfl
 have g4:=ha 4 _ rfl
 have g5:=ha 5 _ rfl
 clear ha
 repeat' first|refine G1 ?_|(refine G2 ?_ ?_<;>intro hc hd<;>try exact hd.elim)|fail
 refine kw 5 12 [(10,11),(18,54)] [17] 13 (fun k a h=>∃pre rest,t.fields=pre++rest∧k=rest.length∧lk a 17=some (.int .i64 pre.length)∧h=Hc 12 (fs++bX it pre d p)++[(6,.cells (cTy t) 26 false),(7,.cells (aH d) 30 false)]) (by omega) (by rw[show Hc 5 fs++[(6,Blk.cells (cTy t) 26 false),(7,Blk.cells (aH d) 30 false)]=gH dM 5 77 fs++(Bx 5 fs++[(6,Blk.cells (cTy t) 26 false),(7,Blk.cells (aH d) 30 false)]) from List.append_assoc _ _ _];exact ge dM (by simp[Bx]) (by simp[Bx])) ⟨[],t.fields,rfl,rfl,by simp[*],(by rw[ae,ay (fun i hi=>by unfold to1;rw[if_neg (by omega)])];simp[bF,b9,aJ,to1,bX])⟩ ?_
 intro a1 hk hk0 k a h hF hI
 replace g2:=hF.a hk 2
 replace g3:=hF.a hk 3
 replace g4:=hF.a hk 4
 replace g5:=hF.a hk 5
 replace g6:=hF.a hk 6
 replace g7:=hF.a hk 7
 replace g15:=hF.a hk 15
 replace g16:=hF.a hk 16
 replace hl:a.length=73:=hF.len.trans (hk0.trans (by simp[*]))
 clear hk hk0
 obtain⟨pre,rest,hl0,rfl,h17,rfl⟩:=hI
 generalize t.fields=TF at *
 subst hl0
 cases rest with
 |nil=>
  simp only[List.append_nil] at *
  clear hA hkids
  obtain⟨acc0,hacc0⟩:∃acc0,Hid acc0 (fs++bX it pre d p):=⟨_,rfl⟩
  have hfin:fs++(bX it pre d p++dL pre p d.keys)=acc0++dL pre p d.keys:=by rw[show acc0=fs++bX it pre d p from hacc0,List.append_assoc]
  rw[hfin] at hX ⊢
  rw[←show acc0=fs++bX it pre d p from hacc0]
  clear hfin hacc0 hlen
  repeat' first|refine G1 ?_|(refine G2 ?_ ?_<;>intro hc hd<;>try exact hd.elim)|fail
  refine kw 12 18 [(13,13),(59,72)] [58] 19 (fun k a h=>∃kp kr,d.keys=kp++kr∧k=kr.length∧lk a 58=some (.int .i64 kp.length)∧h=Hc 18 (acc0++dL pre p kp)++[(6,.cells (cTy t) 26 false),(7,.cells (aH d) 30 false)]) (by omega) (bI (by simp) (by omega) (by simp)) ⟨[],d.keys,rfl,rfl,by simp[*],(by rw[ae,ay (fun i hi=>by unfold to1;rw[if_neg (by omega)])];simp[bF,b9,aJ,to1,dL])⟩ ?_
  intro a1 hk hk0 k a h hF hI
  replace g2:=hF.a hk 2
  replace g4:=hF.a hk 4
  replace g5:=hF.a hk 5
  replace g6:=hF.a hk 6
  replace g56:=hF.a hk 56
  replace g57:=hF.a hk 57
  replace hl:a.length=73:=hF.len.trans (hk0.trans (by simp[*]))
  clear hk hk0
  obtain⟨kp,kr,hl0,rfl,h58,rfl⟩:=hI
  generalize d.keys=K at *
  subst hl0
  cases kr with
  |nil=>
   simp only[List.append_nil] at *
   clear h189
   repeat' first|refine G1 ?_|(refine G2 ?_ ?_<;>intro hc hd<;>try exact hd.elim)|fail
   exact⟨by simp,[(18,6)],.tp [],Hc 18 (acc0++dL pre p kp),.tp [],Hc 18 (acc0++dL pre p kp),by simp,d7 (by omega) _,by simp[Tryz.f208],by simp[au,bu],by rw[ay fun i hi=>bN (by omega) (by omega),bM],(by intro i b hb;rw[eC,hb];rfl),Clo.refl _ _⟩
  |cons s kr=>
   have hlt:(kp.length:Int)<kp.length+(kr.length+1):=by omega
   have hw:=ad ((kp.length:Int)+1) (by omega) (by simp at hbk;omega)
   have hbl':kp.length<100000000000:=by simp at hbk;omega
   replace h189:=h189 s
   have hsn:=hZ pre p kp [s]
   have hbf:(acc0++dL pre p kp++dL pre p [s]).length<1000000000:=by
    rw[show kp++s::kr=(kp++[s])++kr by simp,hZ,hZ] at hX
    simp only[List.length_append] at hX ⊢
    omega
   have hnext:acc0++dL pre p (kp++[s])=acc0++dL pre p kp++dL pre p [s]:=by rw[hsn,List.append_assoc]
   have h207:=f207 Γ p s (by unfold big;omega)
   obtain⟨acc,hacc⟩:∃acc,acc=acc0++dL pre p kp:=⟨_,rfl⟩
   rw[←hacc] at hbf hnext ⊢
   replace hacc:Hid acc (acc0++dL pre p kp):=hacc
   clear hX hsn
   rcases nA s pre 0 with ⟨i1,i2⟩|⟨fp,g,fr,i1,i2,i3⟩
   ·
    rw[i2] at h189
    have hone:dL pre p [s]=[(p++[s],10)]:=by simp[dL,kC,i1]
    rw[hone] at hbf hnext
    have k2:=(f142h Γ acc (p++[s]) 10 (by simp at hbf;omega)).hc Γ (by simp[aa,aR]) rfl 18 26 (by omega) (by omega)
    obtain⟨R,hR⟩:∃R,R=Hc 26 (acc++[(p++[s],10)]):=⟨_,rfl⟩
    rw[←hR] at k2
    replace hR:Hid R (Hc 26 (acc++[(p++[s],10)])):=hR
    generalize p++[s]=q at *
    clear i1 i2 hone
    unfold Hc Bx at k2 ⊢
    rcases eO dM 2 dS bh ef 18 77 acc with ⟨_,e1,e2,_⟩|⟨n,cs,hn,hcs,e1,e2,_,c1,c2,c3⟩<;>rw[e1,e2] at k2 ⊢ <;> clear e1 e2<;>simp only[List.cons_append,List.nil_append] at k2 ⊢
    ·
     repeat' first|refine G1 ?_|(refine G2 ?_ ?_<;>intro hc hd<;>try exact hd.elim)|fail
     all_goals (try (refine aC h189 ?_))
     repeat' first|refine G1 ?_|(refine G2 ?_ ?_<;>intro hc hd<;>try exact hd.elim)|fail
     refine aQ h207 ?_
     repeat' first|refine G1 ?_|(refine G2 ?_ ?_<;>intro hc hd<;>try exact hd.elim)|fail
     refine cI k2 ?_ (hkeys:=by rw[show R=_ from hR];exact ec (by omega) (mc (by simp[V.get]) (by simp[V.get]) (by simp[V.get]) (by simp[V.get]) (by simp[V.get])))
     repeat' first|refine G1 ?_|(refine G2 ?_ ?_<;>intro hc hd<;>try exact hd.elim)|fail
     exact⟨(by (repeat refine Frm.set ?_ rfl);exact hF),[(26,18)],R++[(6,.cells (cTy t) 26 false),(7,.cells (aH d) 30 false)],(by exact eP (by (repeat (first|exact aU|refine aP (by simp[V.get, *]) ?_)))),(by simp),(by rw[show R=_ from hR];exact bI (by simp) (by omega) (by simp)),(by simp[*,aR,aa,aD,au]),(by rw[show R=_ from hR,ae,ay fun i hi=>bN (by omega) (by omega),bM];exact dm (by omega) (by omega) (by simp[bF,b9,aJ,bc,cz])),kr.length,rfl,fun a2 hF2 hL2=>⟨kp++[s],kr,by simp,rfl,((hL2 58 (by simp)).trans (by simp[*]<;>omega)),by rw[show R=_ from hR,ae,ay fun i hi=>bN (by omega) (by omega),bM,hnext];simp[bF,b9,aJ,Hc,Bx]⟩⟩
    ·
     have hlo:=fun N=>aD (N:=N) _ c2
     repeat' first|refine G1 ?_|(refine G2 ?_ ?_<;>intro hc hd<;>try exact hd.elim)|fail
     all_goals (try (refine aC h189 ?_))
     repeat' first|refine G1 ?_|(refine G2 ?_ ?_<;>intro hc hd<;>try exact hd.elim)|fail
     refine aQ h207 ?_
     repeat' first|refine G1 ?_|(refine G2 ?_ ?_<;>intro hc hd<;>try exact hd.elim)|fail
     refine cI k2 ?_ (hkeys:=by rw[show R=_ from hR];exact ec (by omega) (mc (by simp[V.get]) (by simp[V.get]) (by simp[V.get]) (by simp[V.get]) (by simp[V.get])))
     repeat' first|refine G1 ?_|(refine G2 ?_ ?_<;>intro hc hd<;>try exact hd.elim)|fail
     exact⟨(by (repeat refine Frm.set ?_ rfl);exact hF),[(26,18)],R++[(6,.cells (cTy t) 26 false),(7,.cells (aH d) 30 false)],(by exact eP (by (repeat (first|exact aU|refine aP (by simp[V.get, *]) ?_)))),(by simp),(by rw[show R=_ from hR];exact bI (by simp) (by omega) (by simp)),(by simp[*,aR,aa,aD,au]),(by rw[show R=_ from hR,ae,ay fun i hi=>bN (by omega) (by omega),bM];exact dm (by omega) (by omega) (by simp[bF,b9,aJ,bc,cz])),kr.length,rfl,fun a2 hF2 hL2=>⟨kp++[s],kr,by simp,rfl,((hL2 58 (by simp)).trans (by simp[*]<;>omega)),by rw[show R=_ from hR,ae,ay fun i hi=>bN (by omega) (by omega),bM,hnext];simp[bF,b9,aJ,Hc,Bx]⟩⟩
   ·
    rw[i3] at h189
    have hone:dL pre p [s]=[]:=by simp[dL,kC,i2]
    rw[hone,List.append_nil] at hnext
    clear i1 i2 i3 hone hbf h207
    repeat' first|refine G1 ?_|(refine G2 ?_ ?_<;>intro hc hd<;>try exact hd.elim)|fail
    all_goals (try (refine aC h189 ?_))
    repeat' first|refine G1 ?_|(refine G2 ?_ ?_<;>intro hc hd<;>try exact hd.elim)|fail
    exact⟨(by (repeat refine Frm.set ?_ rfl);exact hF),[(18,18)],Hc 18 acc++[(6,.cells (cTy t) 26 false),(7,.cells (aH d) 30 false)],(by exact eP (by (repeat (first|exact aU|refine aP (by simp[V.get, *]) ?_)))),(by simp),(by exact bI (by simp) (by omega) (by simp)),(by simp[*,aR,aa,aD,au]),(by rw[ae,ay fun i hi=>bN (by omega) (by omega),bM];exact dm (by omega) (by omega) (by simp[bF,b9,aJ,bc,cz])),kr.length,rfl,fun a2 hF2 hL2=>⟨kp++[s],kr,by simp,rfl,((hL2 58 (by simp)).trans (by simp[*]<;>omega)),by rw[ae,ay fun i hi=>bN (by omega) (by omega),bM,hnext];simp[bF,b9,aJ,Hc,Bx]⟩⟩
 |cons f r=>
  clear h189
  have hlt:(pre.length:Int)<pre.length+(r.length+1):=by omega
  have hw:=ad ((pre.length:Int)+1) (by omega) (by simp at hbl;omega)
  have hbl':pre.length<100000000000:=by simp at hbl;omega
  have h209:=f209 Γ d.keys f.name (by unfold big;omega)
  have hsn:=fu it d p pre [f]
  obtain⟨acc,hacc⟩:∃acc,Hid acc (fs++bX it pre d p):=⟨_,rfl⟩
  rw[←show acc=fs++bX it pre d p from hacc]
  have h207:=f207 Γ p f.name (by unfold big;omega)
  have hbf:(acc++bX it [f] d p).length<1000000000:=by
   rw[show pre++f::r=(pre++[f])++r by simp,fu,fu] at hX
   rw[show acc=fs++bX it pre d p from hacc]
   simp only[List.length_append] at hX ⊢
   omega
  have hnext:fs++bX it (pre++[f]) d p=acc++bX it [f] d p:=by rw[hsn,show acc=fs++bX it pre d p from hacc,List.append_assoc]
  have hone:=tV it d p f
  rcases wG f.name d.keys d.kids 0 hlen with ⟨i1,i2⟩|⟨kp,y,kr,i1,i2,i3⟩
  ·
   rw[i2] at h209
   rw[i1] at hone
   cases hopt:f.opt with
   |true=>
    rw[hopt,if_pos rfl] at hone
    rw[hone,List.append_nil] at hnext
    clear hA hX hbf hsn h207 hone hkids hlen
    repeat' first|refine G1 ?_|(refine G2 ?_ ?_<;>intro hc hd<;>try exact hd.elim)|fail
    all_goals (try (refine aC h209 ?_))
    repeat' first|refine G1 ?_|(refine G2 ?_ ?_<;>intro hc hd<;>try exact hd.elim)|fail
    exact⟨(by (repeat refine Frm.set ?_ rfl);exact hF),[(12,12)],Hc 12 acc++[(6,.cells (cTy t) 26 false),(7,.cells (aH d) 30 false)],(by exact eP (by (repeat (first|exact aU|refine aP (by simp[V.get, *]) ?_)))),(by simp),bI (by simp) (by omega) (by simp),(by simp[*,aR,aa,aD,au]),(by rw[ae,ay fun i hi=>bN (by omega) (by omega),bM];exact dm (by omega) (by omega) (by simp[bF,b9,aJ,bc,cz])),r.length,rfl,fun a2 hF2 hL2=>⟨pre++[f],r,by simp,rfl,((hL2 17 (by simp)).trans (by simp[*]<;>omega)),by rw[ae,ay fun i hi=>bN (by omega) (by omega),bM,hnext];simp[bF,b9,aJ,Hc,Bx]⟩⟩
   |false=>
    rw[hopt,if_neg (by simp)] at hone
    rw[hone] at hnext hbf
    clear hA hX hsn hone hkids hlen
    have k2:=(f142h Γ acc (p++[f.name]) 9 (by simp at hbf;omega)).hc Γ (by simp[aa,aR]) rfl 12 30 (by omega) (by omega)
    obtain⟨R,hR⟩:∃R,R=Hc 30 (acc++[(p++[f.name],9)]):=⟨_,rfl⟩
    rw[←hR] at k2
    replace hR:Hid R (Hc 30 (acc++[(p++[f.name],9)])):=hR
    generalize p++[f.name]=q at *
    unfold Hc Bx at k2 ⊢
    rcases eO dM 2 dS bh ef 12 77 acc with ⟨_,e1,e2,_⟩|⟨n,cs,hn,hcs,e1,e2,_,c1,c2,c3⟩<;>rw[e1,e2] at k2 ⊢ <;> clear e1 e2<;>simp only[List.cons_append,List.nil_append] at k2 ⊢
    ·
     repeat' first|refine G1 ?_|(refine G2 ?_ ?_<;>intro hc hd<;>try exact hd.elim)|fail
     all_goals (try (refine aC h209 ?_))
     repeat' first|refine G1 ?_|(refine G2 ?_ ?_<;>intro hc hd<;>try exact hd.elim)|fail
     refine aQ h207 ?_
     repeat' first|refine G1 ?_|(refine G2 ?_ ?_<;>intro hc hd<;>try exact hd.elim)|fail
     refine cI k2 ?_ (hkeys:=by rw[show R=_ from hR];exact ec (by omega) (mc (by simp[V.get]) (by simp[V.get]) (by simp[V.get]) (by simp[V.get]) (by simp[V.get])))
     repeat' first|refine G1 ?_|(refine G2 ?_ ?_<;>intro hc hd<;>try exact hd.elim)|fail
     exact⟨(by (repeat refine Frm.set ?_ rfl);exact hF),[(30,12)],R++[(6,.cells (cTy t) 26 false),(7,.cells (aH d) 30 false)],(by exact eP (by (repeat (first|exact aU|refine aP (by simp[V.get, *]) ?_)))),(by simp),(by rw[show R=_ from hR];exact bI (by simp) (by omega) (by simp)),(by simp[*,aR,aa,aD,au]),(by rw[show R=_ from hR,ae,ay fun i hi=>bN (by omega) (by omega),bM];exact dm (by omega) (by omega) (by simp[bF,b9,aJ,bc,cz])),r.length,rfl,fun a2 hF2 hL2=>⟨pre++[f],r,by simp,rfl,((hL2 17 (by simp)).trans (by simp[*]<;>omega)),by rw[show R=_ from hR,ae,ay fun i hi=>bN (by omega) (by omega),bM,hnext];simp[bF,b9,aJ,Hc,Bx]⟩⟩
    ·
     have hlo:=fun N=>aD (N:=N) _ c2
     repeat' first|refine G1 ?_|(refine G2 ?_ ?_<;>intro hc hd<;>try exact hd.elim)|fail
     all_goals (try (refine aC h209 ?_))
     repeat' first|refine G1 ?_|(refine G2 ?_ ?_<;>intro hc hd<;>try exact hd.elim)|fail
     refine aQ h207 ?_
     repeat' first|refine G1 ?_|(refine G2 ?_ ?_<;>intro hc hd<;>try exact hd.elim)|fail
     refine cI k2 ?_ (hkeys:=by rw[show R=_ from hR];exact ec (by omega) (mc (by simp[V.get]) (by simp[V.get]) (by simp[V.get]) (by simp[V.get]) (by simp[V.get])))
     repeat' first|refine G1 ?_|(refine G2 ?_ ?_<;>intro hc hd<;>try exact hd.elim)|fail
     exact⟨(by (repeat refine Frm.set ?_ rfl);exact hF),[(30,12)],R++[(6,.cells (cTy t) 26 false),(7,.cells (aH d) 30 false)],(by exact eP (by (repeat (first|exact aU|refine aP (by simp[V.get, *]) ?_)))),(by simp),(by rw[show R=_ from hR];exact bI (by simp) (by omega) (by simp)),(by simp[*,aR,aa,aD,au]),(by rw[show R=_ from hR,ae,ay fun i hi=>bN (by omega) (by omega),bM];exact dm (by omega) (by omega) (by simp[bF,b9,aJ,bc,cz])),r.length,rfl,fun a2 hF2 hL2=>⟨pre++[f],r,by simp,rfl,((hL2 17 (by simp)).trans (by simp[*]<;>omega)),by rw[show R=_ from hR,ae,ay fun i hi=>bN (by omega) (by omega),bM,hnext];simp[bF,b9,aJ,Hc,Bx]⟩⟩
  ·
   rw[i3] at h209
   rw[i2] at hone
   simp only at hone
   rw[hone] at hnext hbf
   clear hX hsn hone hlen
   have hyk:y∈d.kids:=by rw[i1];simp
   have k1:=(hA f (by simp) y (p++[f.name]) acc (hkids y hyk) (by have:=kv hyk;have:=im d;omega) (by have:=(uS (l:=pre++f::r) (f:=f) (by simp)).2;simp;omega) hbf).hc Γ (by simp[aa,aR,aD]) rfl 12 26 (by omega) (by omega)
   obtain⟨R,hR⟩:∃R,R=Hc 26 (acc++aV it f.ty y (p++[f.name])):=⟨_,rfl⟩
   rw[←hR] at k1
   replace hR:Hid R (Hc 26 (acc++aV it f.ty y (p++[f.name]))):=hR
   generalize p++[f.name]=q at *
   clear hA hkids hyk
   unfold Hc Bx at k1 ⊢
   rcases eO dM 2 dS bh ef 12 77 acc with ⟨_,e1,e2,_⟩|⟨n,cs,hn,hcs,e1,e2,_,c1,c2,c3⟩<;>rw[e1,e2] at k1 ⊢ <;> clear e1 e2<;>simp only[List.cons_append,List.nil_append] at k1 ⊢
   ·
    repeat' first|refine G1 ?_|(refine G2 ?_ ?_<;>intro hc hd<;>try exact hd.elim)|fail
    all_goals (try (refine aC h209 ?_))
    repeat' first|refine G1 ?_|(refine G2 ?_ ?_<;>intro hc hd<;>try exact hd.elim)|fail
    refine aQ h207 ?_
    repeat' first|refine G1 ?_|(refine G2 ?_ ?_<;>intro hc hd<;>try exact hd.elim)|fail
    refine cI k1 ?_ (hkeys:=by rw[show R=_ from hR];exact ec (by omega) (mc (by simp[V.get]) (by simp[V.get]) (by simp[V.get]) (by simp[V.get]) (by simp[V.get])))
    repeat' first|refine G1 ?_|(refine G2 ?_ ?_<;>intro hc hd<;>try exact hd.elim)|fail
    exact⟨(by (repeat refine Frm.set ?_ rfl);exact hF),[(26,12)],R++[(6,.cells (cTy t) 26 false),(7,.cells (aH d) 30 false)],(by exact eP (by (repeat (first|exact aU|refine aP (by simp[V.get, *]) ?_)))),(by simp),(by rw[show R=_ from hR];exact bI (by simp) (by omega) (by simp)),(by simp[*,aR,aa,aD,au]),(by rw[show R=_ from hR,ae,ay fun i hi=>bN (by omega) (by omega),bM];exact dm (by omega) (by omega) (by simp[bF,b9,aJ,bc,cz])),r.length,rfl,fun a2 hF2 hL2=>⟨pre++[f],r,by simp,rfl,((hL2 17 (by simp)).trans (by simp[*]<;>omega)),by rw[show R=_ from hR,ae,ay fun i hi=>bN (by omega) (by omega),bM,hnext];simp[bF,b9,aJ,Hc,Bx]⟩⟩
   ·
    have hlo:=fun N=>aD (N:=N) _ c2
    repeat' first|refine G1 ?_|(refine G2 ?_ ?_<;>intro hc hd<;>try exact hd.elim)|fail
    all_goals (try (refine aC h209 ?_))
    repeat' first|refine G1 ?_|(refine G2 ?_ ?_<;>intro hc hd<;>try exact hd.elim)|fail
    refine aQ h207 ?_
    repeat' first|refine G1 ?_|(refine G2 ?_ ?_<;>intro hc hd<;>try exact hd.elim)|fail
    refine cI k1 ?_ (hkeys:=by rw[show R=_ from hR];exact ec (by omega) (mc (by simp[V.get]) (by simp[V.get]) (by simp[V.get]) (by simp[V.get]) (by simp[V.get])))
    repeat' first|refine G1 ?_|(refine G2 ?_ ?_<;>intro hc hd<;>try exact hd.elim)|fail
    exact⟨(by (repeat refine Frm.set ?_ rfl);exact hF),[(26,12)],R++[(6,.cells (cTy t) 26 false),(7,.cells (aH d) 30 false)],(by exact eP (by (repeat (first|exact aU|refine aP (by simp[V.get, *]) ?_)))),(by simp),(by rw[show R=_ from hR];exact bI (by simp) (by omega) (by simp)),(by simp[*,aR,aa,aD,au]),(by rw[show R=_ from hR,ae,ay fun i hi=>bN (by omega) (by omega),bM];exact dm (by omega) (by omega) (by simp[bF,b9,aJ,bc,cz])),r.length,rfl,fun a2 hF2 hL2=>⟨pre++[f],r,by simp,rfl,((hL2 17 (by simp)).trans (by simp[*]<;>omega)),by rw[show R=_ from hR,ae,ay fun i hi=>bN (by omega) (by omega),bM,hnext];simp[bF,b9,aJ,Hc,Bx]⟩⟩
end
end Go.V
