/-
  A part of a proof: V10 V11 V12 V13 V14.
-/
import Derived.Test.YtkfjenbfbendhaaGreatDoorLk04
set_option linter.unusedSimpArgs false
set_option linter.unusedVariables false
section
namespace Go.V
open Go
section
variable {P:Program} {Γ:Glo P} {F:Fro} {ρ:Pl} {h:Heap} {w0 w:World} {O:Nat→Prop} {a:List Val} {act:Act}
theorem qI (z:Array Value)(n:Nat):Builtin.zeroCells z n=(Array.range (n*z.size)).map (z[· % z.size]!):=rfl
theorem sX (m:Mem P F ρ h w0 O w){t ty:TypeId}{u:Val}{x:Value}{h':Heap}(hv:pk P t h u=some h')(hr:Rel F ρ u x) :
  ∃w',(Builtin.clear_ #[t] ty #[x]).run P w=.ok undef w'∧Mem P F ρ h' w0 O w':=by
 unfold pk at hv
 split at hv
 ·
  rename_i e ht
  cases hv
  simp only[Rel] at hr
  subst hr
  exact⟨w,by simp[Builtin.clear_,run_underlying ht,undef],m⟩
 ·
  rename_i e cs cap ht
  cases hv
  simp only[Rel] at hr
  rcases hr with ⟨rfl|⟨p0,rfl⟩,_⟩|⟨b,o,c,k,rfl,_⟩
  ·
   exact⟨w,by simp[Builtin.clear_,run_underlying ht,undef],m⟩
  ·
   exact⟨w,by simp[Builtin.clear_,run_underlying ht,undef],m⟩
  exact⟨w,by simp[Builtin.clear_,run_underlying ht,undef],m⟩
 ·
  rename_i e id off cap ht
  cases hv
  simp only[Rel] at hr
  obtain⟨L,k,_,rfl,_⟩:=hr
  exact⟨w,by simp[Builtin.clear_,run_underlying ht,undef],m⟩
 ·
  rename_i e id off n cap hn ht
  split at hv
  ·
   rename_i cs e' o ie hg hie
   split at hv
   ·
    rename_i zs hz
    split at hv
    ·
     rename_i hc
     cases hv
     simp only[Rel] at hr
     obtain⟨L,k,g1,rfl,_⟩:=hr
     obtain⟨z,hz1,hz2⟩:=gN (F:=F) (ρ:=ρ) hz
     have hl:=hz2.length
     simp only[Array.length_toList] at hl
     have hrow:=mY (n*zs.length) hz2 hc.1
     have hrl:(jB zs (n*zs.length)).length=n*zs.length:=by simp[jB]
     obtain⟨w',c1,c2⟩:=m.write (off:=off) hg g1 (by rw[hrl];exact hc.2.1) hrow hc.2.2
     refine⟨w',?_,c2⟩
     have hn0:n≠0:=fun e=>hn e
     have hzv:(zeroValue e).run P w=.ok z w:=by simp[zeroValue,typeInfo,hie,hz1]
     have e1:(Builtin.zeroCells z.cells n).toList=((Array.range (n*zs.length)).map (z.cells[· % z.cells.size]!)).toList:=by
      rw[qI,hl]
     have c1':(storeCells ⟨L.b,off,none⟩ (Builtin.zeroCells z.cells n).toList).run P w=.ok () w':=by rw[e1];exact c1
     obtain⟨n',rfl⟩:∃n',n=n'+1:=⟨n-1,by omega⟩
     simp[Builtin.clear_,run_underlying ht,hzv,c1',undef]
    ·
     cases hv
   ·
    cases hv
  ·
   cases hv
 ·
  cases hv
theorem cX (act:Act)(dst:Option Tmp)(b:Builtin)(args:Array Operand)(ts:Array TypeId)(type:TypeId)(pos:String)(after:Array Edge)(guard:Option (Nat×Bool)) :
  execOp act.eval ⟨dst,.call ⟨.builtin b,args,ts⟩,type,pos,after,guard⟩=Go.builtin b ts type (args.map fun|.const _=>true|_=>false) (args.map act.eval):=by
 simp[execOp,resolve,invoke];rfl
theorem oo (m:Mem P F ρ h w0 O w)(hG:GOk F Γ)(ha:RelL F ρ a act.tmps.toList){o:Oper}{i:Nat}{v:Val}{h':Heap}(hi:ρ i=none)(he:bW P Γ o a h i=some (v,h')) :
  ∃ρ' x w',oV P o act w x w'∧PLe ρ ρ'∧(∀j,j≠i→ρ' j=ρ j)∧Rel F ρ' v x∧Mem P F ρ' h' w0 O w':=by
 have val:∀{s:Sem Value} {x:Value} {w':World},execOp act.eval o=(do pure (.value (←s)):Sem Next)→s.run P w=.ok x w'→oV P o act w x w':=by
  intro s x w' h1 h2
  left
  rw[h1]
  simp only[Sem.run_bind,h2,Result.andThen_ok,Sem.run_pure]
 have pureV:∀{s:Sem Value} {u:Val},execOp act.eval o=(do pure (.value (←s)):Sem Next)→(∃z,s.run P w=.ok z w∧Rel F ρ u z)→u=v→h=h'→
   ∃ρ' x w',oV P o act w x w'∧PLe ρ ρ'∧(∀j,j≠i→ρ' j=ρ j)∧Rel F ρ' v x∧Mem P F ρ' h' w0 O w':=by
  rintro s u h1 ⟨z,h2,h3⟩ rfl rfl
  exact⟨ρ,z,w,val h1 h2,PLe.refl ρ,fun _ _=>rfl,h3,m⟩
 have newV:∀{s:Sem Value} {u:Val} {h2:Heap},execOp act.eval o=(do pure (.value (←s)):Sem Next)→
   (∃ρ' x w',s.run P w=.ok x w'∧PLe ρ ρ'∧(∀j,j≠i→ρ' j=ρ j)∧Rel F ρ' u x∧Mem P F ρ' h2 w0 O w')→u=v→h2=h'→
   ∃ρ' x w',oV P o act w x w'∧PLe ρ ρ'∧(∀j,j≠i→ρ' j=ρ j)∧Rel F ρ' v x∧Mem P F ρ' h' w0 O w':=by
  rintro s u h2 h1 ⟨ρ',x,w',q1,q2,q3,q4,q5⟩ rfl rfl
  exact⟨ρ',x,w',val h1 q1,q2,q3,q4,q5⟩
 obtain⟨dst,op,type,pos,after,guard⟩:=o
 unfold bW at he
 simp only at he
 split at he
 case h_1|h_2=>
  obtain⟨u,h1,h2⟩:=map_some he
  cases h2
  exact⟨ρ,_,w,.inl rfl,PLe.refl ρ,fun _ _=>rfl,aT hG ha h1,m⟩
 case h_3=>
  split at he
  ·
   rename_i b hb
   obtain⟨u,h1,h2⟩:=map_some he
   cases h2
   have:=aT hG ha hb
   simp only[Rel] at this
   refine⟨ρ,_,w,.inl ?_,PLe.refl ρ,fun _ _=>rfl,aT hG ha h1,m⟩
   cases b<;>simp[execOp,this,asBool]
  ·
   cases he
 case h_4=>exact newV rfl (sW m he hi _) rfl rfl
 case h_5=>
  obtain⟨u,h1,h2⟩:=map_some he
  have:=vR (t:=‹TypeId›) m (aT hG ha h1) hi
  rw[h2] at this
  exact newV rfl this rfl rfl
 case h_6=>
  split at he
  ·
   rename_i l hl
   obtain⟨u,h1,h2⟩:=map_some he
   cases h2
   have hp:=ke hG ha hl
   have:=mf (w:=w) h1 hp
   refine pureV (s:=Instr.build _ _) ?_ this rfl rfl
   simp only[execOp]
   congr 2
   apply Array.ext'
   simp
  ·
   cases he
 case h_7=>
  split at he
  ·
   rename_i l hl
   have hp:=ke hG ha hl
   have:=me m he hi hp
   refine newV (s:=Instr.buildSlice _ _ _) ?_ this rfl rfl
   simp only[execOp]
   congr 2
   apply Array.ext'
   simp
  ·
   cases he
 case h_8=>
  split at he
  ·
   rename_i u hu
   obtain⟨r,h1,h2⟩:=map_some he
   cases h2
   exact pureV rfl (kV m h1 (aT hG ha hu)) rfl rfl
  ·
   cases he
 case h_9=>
  split at he
  ·
   rename_i u v' hu hv
   obtain⟨r,h1,h2⟩:=map_some he
   cases h2
   obtain⟨w',q1,q2⟩:=s3 m h1 (aT hG ha hu) (aT hG ha hv)
   exact⟨ρ,undef,w',.inr ⟨by simp only[execOp,Sem.run_bind,q1,Result.andThen_ok,Sem.run_pure],rfl⟩,PLe.refl ρ,fun _ _=>rfl,lW,q2⟩
  ·
   cases he
 case h_10=>
  split at he
  ·
   rename_i u hu
   obtain⟨r,h1,h2⟩:=map_some he
   cases h2
   obtain⟨q1,q2⟩:=nx (P:=P) (w:=w) (act:=act) h1 (aT hG ha hu) ⟨dst,.nilCheck _,type,pos,after,guard⟩ _ rfl rfl
   exact⟨ρ,_,w,.inl q1,PLe.refl ρ,fun _ _=>rfl,q2,m⟩
  ·
   cases he
 case h_11=>
  split at he
  ·
   rename_i u v' hu hv
   obtain⟨r,h1,h2⟩:=map_some he
   cases h2
   exact pureV rfl (pi (w:=w) h1 (aT hG ha hu) (aT hG ha hv)) rfl rfl
  ·
   cases he
 case h_12=>
  split at he
  ·
   rename_i u hu
   obtain⟨r,h1,h2⟩:=map_some he
   cases h2
   exact pureV rfl (rV h1 (aT hG ha hu)) rfl rfl
  ·
   cases he
 case h_13=>
  split at he
  ·
   rename_i u hu
   obtain⟨r,h1,h2⟩:=map_some he
   cases h2
   exact pureV rfl (nq h1 (aT hG ha hu)) rfl rfl
  ·
   cases he
 case h_14=>
  rename_i t x
  split at he
  ·
   rename_i u hu hif
   cases he
   have hx:=aT hG ha hu
   refine pureV (s:=Instr.makeInterface t (act.eval x)) (u:=.ifc t u) rfl ⟨.iface t (act.eval x),?_,?_⟩ rfl rfl
   ·
    unfold oL at hif
    split at hif<;>cases hif
    rename_i d h1 hd
    unfold Instr.makeInterface
    simp only[Sem.run_bind,run_underlying hd,Result.andThen_ok]
    rfl
   ·
    simp only[Rel];exact⟨_,rfl,hx⟩
  ·
   cases he
 case h_15=>
  rename_i f first cap
  split at he
  ·
   rename_i us vs h1 h2
   cases he
   refine pureV (s:=Instr.makeFunc _ _ _) (u:=.fn f us vs) rfl ⟨.func (.func f) (first.map act.eval) (cap.map act.eval),rfl,?_⟩ rfl rfl
   simp only[Rel]
   exact⟨_,_,rfl,by simpa using gF hG ha h1,by simpa using gF hG ha h2⟩
  ·
   cases he
 case h_16=>
  cases he
  have hb:BRel P F (upd ρ i ⟨w.heap.size,0,0⟩) ⟨w.heap.size,0,0⟩ (.map []) (.map #[] 0):=⟨#[],0,rfl,by simp[MapRel],Born.empty⟩
  obtain⟨m',hle⟩:=m.alloc hi hb (w':=w.alloc (.map #[] 0)) rfl rfl rfl rfl
  refine newV (s:=Instr.makeMap _ none) rfl ⟨_,.map (some w.heap.size),_,by simp[Instr.makeMap],hle,fun j hj=>by unfold upd;rw[if_neg (fun e=>hj e.symm)],?_,m'⟩ rfl rfl
  simp only[Rel]
  exact⟨_,by unfold upd;rw[if_pos rfl],rfl⟩
 case h_17=>
  split at he
  ·
   rename_i u v' hu hv
   exact newV rfl (px m he hi (aT hG ha hu) (aT hG ha hv)) rfl rfl
  ·
   cases he
 case h_18=>
  split at he
  ·
   rename_i u l k mm hu hl hk hm
   obtain⟨r,h1,h2⟩:=map_some he
   cases h2
   exact pureV rfl (mo m h1 (aT hG ha hu) (iH hG ha hl) (iH hG ha hk) (iH hG ha hm)) rfl rfl
  ·
   cases he
 case h_19=>
  split at he
  ·
   rename_i u hu
   obtain⟨r,h1,h2⟩:=map_some he
   cases h2
   exact pureV rfl (mg h1 (aT hG ha hu)) rfl rfl
  ·
   cases he
 case h_20=>
  split at he
  ·
   rename_i u hu
   obtain⟨r,h1,h2⟩:=map_some he
   cases h2
   exact pureV rfl (mh h1 (aT hG ha hu)) rfl rfl
  ·
   cases he
 case h_21=>
  split at he
  ·
   rename_i u v' hu hv
   obtain⟨r,h1,h2⟩:=map_some he
   cases h2
   exact pureV rfl (mj h1 (aT hG ha hu) (aT hG ha hv)) rfl rfl
  ·
   cases he
 case h_22=>
  split at he
  ·
   rename_i u v' hu hv
   obtain⟨r,h1,h2⟩:=map_some he
   cases h2
   exact pureV rfl (ml h1 (aT hG ha hu) (aT hG ha hv)) rfl rfl
  ·
   cases he
 case h_23=>
  split at he
  ·
   rename_i u v' hu hv
   obtain⟨r,h1,h2⟩:=map_some he
   cases h2
   exact pureV rfl (nu m h1 (aT hG ha hu) (aT hG ha hv)) rfl rfl
  ·
   cases he
 case h_24=>
  split at he
  ·
   rename_i u k v' hu hk hv
   obtain⟨r,h1,h2⟩:=map_some he
   cases h2
   obtain⟨w',q1,q2⟩:=sZ m h1 (aT hG ha hu) (aT hG ha hk) (aT hG ha hv)
   exact⟨ρ,undef,w',.inr ⟨by simp only[execOp,Sem.run_bind,q1,Result.andThen_ok,Sem.run_pure],rfl⟩,PLe.refl ρ,fun _ _=>rfl,lW,q2⟩
  ·
   cases he
 case h_25=>
  split at he
  ·
   rename_i u hu
   obtain⟨r,h1,h2⟩:=map_some he
   cases h2
   exact pureV rfl (kU h1 (aT hG ha hu)) rfl rfl
  ·
   cases he
 case h_26=>
  rename_i args ts
  split at he
  ·
   rename_i x y t tx hargs hts
   obtain rfl:args=#[x,y]:=Array.ext' hargs
   obtain rfl:ts=#[t,tx]:=Array.ext' hts
   split at he
   ·
    rename_i u v' hu hv
    exact newV (s:=Builtin.append_ #[t,tx] type #[act.eval x,act.eval y]) (by rw[cX];simp[Go.builtin]) (uY m he hi (aT hG ha hu) (aT hG ha hv)) rfl rfl
   ·
    cases he
  ·
   cases he
 case h_27=>
  rename_i args ts
  split at he
  ·
   rename_i x y t tx hargs hts
   obtain rfl:args=#[x,y]:=Array.ext' hargs
   obtain rfl:ts=#[t,tx]:=Array.ext' hts
   split at he
   ·
    rename_i u v' hu hv
    obtain⟨z,w',q1,q2,q3⟩:=sY (ty:=type) m he (aT hG ha hu) (aT hG ha hv)
    exact newV (s:=Builtin.copy_ #[t,tx] type #[act.eval x,act.eval y]) (by rw[cX];simp[Go.builtin]) ⟨ρ,z,w',q1,PLe.refl ρ,fun _ _=>rfl,q2,q3⟩ rfl rfl
   ·
    cases he
  ·
   cases he
 case h_28=>
  rename_i args ts
  split at he
  ·
   rename_i x t hargs hts
   obtain rfl:args=#[x]:=Array.ext' hargs
   obtain rfl:ts=#[t]:=Array.ext' hts
   split at he
   ·
    rename_i u hu
    obtain⟨r,h1,h2⟩:=map_some he
    cases h2
    exact pureV (s:=Builtin.len_ #[t] type #[act.eval x]) (by rw[cX];simp[Go.builtin]) (pw m h1 (aT hG ha hu)) rfl rfl
   ·
    cases he
  ·
   cases he
 case h_29=>
  rename_i args ts
  split at he
  ·
   rename_i x t hargs hts
   obtain rfl:args=#[x]:=Array.ext' hargs
   obtain rfl:ts=#[t]:=Array.ext' hts
   split at he
   ·
    rename_i u hu
    obtain⟨r,h1,h2⟩:=map_some he
    cases h2
    exact pureV (s:=Builtin.cap_ #[t] type #[act.eval x]) (by rw[cX];simp[Go.builtin]) (pj h1 (aT hG ha hu)) rfl rfl
   ·
    cases he
  ·
   cases he
 case h_30=>
  rename_i args ts
  split at he
  ·
   rename_i x y hargs
   obtain rfl:args=#[x,y]:=Array.ext' hargs
   split at he
   ·
    rename_i u v' hu hv
    obtain⟨r,h1,h2⟩:=map_some he
    cases h2
    obtain⟨z,q1,q2⟩:=nv (P:=P) (w:=w) h1 (aT hG ha hu) (aT hG ha hv)
    exact pureV (s:=Builtin.max_ ts type #[act.eval x,act.eval y]) (by rw[cX];simp[Go.builtin]) ⟨z,by simp[Builtin.max_,q1],q2⟩ rfl rfl
   ·
    cases he
  ·
   cases he
 case h_31=>
  rename_i args ts
  split at he
  ·
   rename_i x y hargs
   obtain rfl:args=#[x,y]:=Array.ext' hargs
   split at he
   ·
    rename_i u v' hu hv
    obtain⟨r,h1,h2⟩:=map_some he
    cases h2
    obtain⟨z,q1,q2⟩:=nw (P:=P) (w:=w) h1 (aT hG ha hu) (aT hG ha hv)
    exact pureV (s:=Builtin.min_ ts type #[act.eval x,act.eval y]) (by rw[cX];simp[Go.builtin]) ⟨z,by simp[Builtin.min_,q1],q2⟩ rfl rfl
   ·
    cases he
  ·
   cases he
 case h_32=>
  rename_i args ts
  split at he
  ·
   rename_i x y t tt hargs hts
   obtain rfl:args=#[x,y]:=Array.ext' hargs
   obtain rfl:ts=#[t,tt]:=Array.ext' hts
   split at he
   ·
    rename_i u v' hu hv
    obtain⟨r,h1,h2⟩:=map_some he
    cases h2
    obtain⟨w',q1,q2⟩:=qT (tt:=tt) (ty:=type) m h1 (aT hG ha hu) (aT hG ha hv)
    exact newV (s:=Builtin.delete_ #[t,tt] type #[act.eval x,act.eval y]) (by rw[cX];simp[Go.builtin]) ⟨ρ,undef,w',q1,PLe.refl ρ,fun _ _=>rfl,lW,q2⟩ rfl rfl
   ·
    cases he
  ·
   cases he
 case h_33=>
  rename_i args ts
  split at he
  ·
   rename_i x t hargs hts
   obtain rfl:args=#[x]:=Array.ext' hargs
   obtain rfl:ts=#[t]:=Array.ext' hts
   split at he
   ·
    rename_i u hu
    obtain⟨r,h1,h2⟩:=map_some he
    cases h2
    obtain⟨w',q1,q2⟩:=sX (ty:=type) m h1 (aT hG ha hu)
    exact newV (s:=Builtin.clear_ #[t] type #[act.eval x]) (by rw[cX];simp[Go.builtin]) ⟨ρ,undef,w',q1,PLe.refl ρ,fun _ _=>rfl,lW,q2⟩ rfl rfl
   ·
    cases he
  ·
   cases he
 case h_34=>
  rename_i f args ts
  split at he
  ·
   rename_i vs hvs
   have ea:=gF hG ha hvs
   obtain⟨ρ',y,w',q1,q2,q3,q4,q5⟩:=Γ.ok f vs h i v h' he F ρ w0 O w (args.map act.eval) m (by simpa using ea) hi
   refine⟨ρ',y,w',.inl ?_,q2,q3,q4,q5⟩
   simp[execOp,resolve,Deferred.ofValue,Act.eval,invoke,q1]
  ·
   cases he
 case h_35=>cases he
end
end Go.V
end
section
namespace Go.V
open Go
def dJ (a:List Val):Option Tmp→Val→List Val
 |some d,v=>a.set d v
 |none,_=>a
def aS (ops:Array Oper)(a:List Val)(j:Nat):Option Bool:=
 match ops[j]? with
 |some o=>match o.dst with
  |some d=>match a[d]? with
   |some (.bool b)=>some b
   |some (.jk (.bool b))=>some b
   |_=>none
  |none=>none
 |none=>none
def aO (ops:Array Oper)(o:Oper)(a:List Val):Bool:=
 match o.guard with
 |none=>true
 |some (j,want)=>aS ops a j==some want
def Fresh' (ρ:Pl)(N:Nat)(N':Nat)(all:Bool):Prop:=∀i,N≤i→(all=true∨i<N')→ρ i=none
structure Ext (F F':Fro)(ρ ρ':Pl)(w0:World)(O:Nat→Prop)(N N':Nat):Prop where
 f:FLe F F'
 p:PLe ρ ρ'
 new:∀b c,F' b=some c→F b=some c∨O b∨w0.heap.size≤b
 out:∀i,¬(N≤i∧i<N')→ρ' i=ρ i
def CallOk (P:Program)(Γ:Glo P)(f:FuncId)(vs:List Val)(h:Heap)(N:Nat)(all:Bool)(r:Val)(h':Heap)(N':Nat):Prop:=
 N≤N'∧∀F ρ w0 O w (xs:Array Value),GOk F Γ→Mem P F ρ h w0 O w→Fresh' ρ N N' all→RelL F ρ vs xs.toList→
  Calls P f xs w fun e w'=>∃F' ρ' x,e=.returned x∧Ext F F' ρ ρ' w0 O N N'∧Rel F' ρ' r x∧Mem P F' ρ' h' w0 O w'
def PureOk (P:Program)(Γ:Glo P)(f:FuncId)(vs:List Val)(r:Val):Prop:=
 ∀F w (xs:Array Value),GOk F Γ→FOk F w→RelL F (fun _=>none) vs xs.toList→
  Calls P f xs w fun e w'=>∃F' x,e=.returned x∧FLe F F'∧(∀b c,F' b=some c→F b=some c∨w.heap.size≤b)∧FOk F' w'∧Rel F' (fun _=>none) r x∧Fr w (fun _=>False) w'
def callee {P:Program}(Γ:Glo P)(a:List Val)(o:Oper):Option (FuncId×List Val):=
 match o.op with
 |.call ⟨.value f,args,_⟩=>match ev Γ a f,evL Γ a args.toList with
  |some (.fn g first cap),some vs=>some (g,first++vs++cap)
  |_,_=>none
 |_=>none
def bL (P:Program)(f:FuncId):Bool:=
 match P.funcs[f]? with
 |some fn=>fn.body.isSome&&fn.name != "runtime.NumGoroutine"
 |none=>false
section
variable {P:Program} {Γ:Glo P} {F:Fro} {ρ:Pl} {h:Heap} {w0 w:World} {O:Nat→Prop} {a:List Val} {act:Act}
theorem GOk.mono {F F':Fro}(hG:GOk F Γ)(hle:FLe F F'):GOk F' Γ:=fun g cs hg=>by
 obtain⟨c,h1,h2,h3⟩:=hG g cs hg
 exact⟨c,hle _ _ h1,RelL.mono hle (PLe.refl _) _ _ h2,h3⟩
theorem Ext.refl (F:Fro)(ρ:Pl)(w0:World)(O:Nat→Prop)(N N':Nat):Ext F F ρ ρ w0 O N N':=⟨FLe.refl F,PLe.refl ρ,fun _ _ h=>.inl h,fun _ _=>rfl⟩
theorem Ext.trans {F F' F'':Fro}{ρ ρ' ρ'':Pl}{w0:World}{O:Nat→Prop}{N N' N'':Nat}(h:Ext F F' ρ ρ' w0 O N N')(k:Ext F' F'' ρ' ρ'' w0 O N' N'')(h1:N≤N')(h2:N'≤N''):Ext F F'' ρ ρ'' w0 O N N'':=
 ⟨h.f.trans k.f,h.p.trans k.p,fun b c hb=>(k.new b c hb).elim (fun h'=>h.new b c h') .inr,fun i hi=>by rw[k.out i (by omega),h.out i (by omega)]⟩
def cL (h1:Heap)(ρ:Pl):Nat→Prop:=fun b=>∃i L,(get h1 i).isSome∧ρ i=some L∧L.b=b
theorem Mem.carry {w1:World}{h1 h2:Heap}{F':Fro}{ρ':Pl}{N N':Nat}(m:Mem P F ρ h w0 O w)(hsub:∀i b,get h1 i=some b→get h i=some b)
  (m1:Mem P F' ρ' h2 w (cL h1 ρ) w1) (hx:Ext F F' ρ ρ' w (cL h1 ρ) N N')
  {hm:Heap} (hmg:∀i b,get hm i=some b→(get h2 i=some b∧((get h1 i).isSome∨(N≤i∧i<N')))∨(get h i=some b∧¬(get h1 i).isSome∧¬(N≤i∧i<N'))):Mem P F' ρ' hm w0 O w1∧Ext F F' ρ ρ' w0 O N N':=by
 have hO:∀x,cL h1 ρ x→O x∨w0.heap.size≤x:=by
  rintro x ⟨i,L,a1,a2,rfl⟩
  refine m.ours i L ?_ a2
  cases hg:get h1 i with
  |none=>simp[hg] at a1
  |some b=>rw[hsub i b hg];rfl
 have notO:∀i b L,get h i=some b→¬(get h1 i).isSome→ρ i=some L→¬cL h1 ρ L.b:=by
  rintro i b L hg hn hL ⟨j,M,a1,a2,a3⟩
  have hj:(get h j).isSome:=by
   cases hg1:get h1 j with
   |none=>simp[hg1] at a1
   |some c=>rw[hsub j c hg1];rfl
  have:=m.inj j i M L hj (by simp[hg]) a2 hL a3
  subst this
  exact hn a1
 have hsz:=m1.fr.size
 have out:∀i b,get h i=some b→¬(get h1 i).isSome→¬(N≤i∧i<N')→∃L x,ρ i=some L∧ρ' i=some L∧F' L.b=none∧w1.heap[L.b]?=some x∧BRel P F ρ L b x∧L.b<w.heap.size:=by
  intro i b hg hn hr
  obtain⟨L,x,q1,q2,q3,q4⟩:=m.own i b hg
  have hlt:=dN q3
  have hno:=notO i b L hg hn q1
  refine⟨L,x,q1,by rw[hx.out i hr];exact q1,?_,by rw[m1.fr.block L.b hlt hno];exact q3,q4,hlt⟩
  cases hf:F' L.b with
  |none=>rfl
  |some c=>
   rcases hx.new _ _ hf with h3|h3|h3
   ·
    rw[q2] at h3;cases h3
   ·
    exact(hno h3).elim
   ·
    omega
 refine⟨⟨m1.fro,fun i b hb=>?_,fun i j Li Lj hi hj hLi hLj hbb=>?_,fun i L hi hL=>?_,m.fr.trans m1.fr hO⟩,hx.f,hx.p,fun b c hb=>?_,hx.out⟩
 ·
  rcases hmg i b hb with ⟨h3,h4⟩|⟨h3,h4,h5⟩
  ·
   exact m1.own i b h3
  ·
   obtain⟨L,x,q1,q2,q3,q4,q5,q6⟩:=out i b h3 h4 h5
   exact⟨L,x,q2,q3,q4,q5.mono P hx.f hx.p⟩
 ·
  cases hbi:get hm i with
  |none=>simp[hbi] at hi
  |some bi=>
   cases hbj:get hm j with
   |none=>simp[hbj] at hj
   |some bj=>
    have mixed:∀i j Li Lj bi bj,get h2 i=some bi→ρ' i=some Li→get h j=some bj→¬(get h1 j).isSome→¬(N≤j∧j<N')→ρ' j=some Lj→Li.b=Lj.b→False:=by
     intro i j Li Lj bi bj a1 a2 a3 a4 a5 a6 a7
     obtain⟨L,x,q1,q2,q3,q4,q5,q6⟩:=out j bj a3 a4 a5
     rw[a6] at q2;cases q2
     rcases m1.ours i Li (by simp[a1]) a2 with h6|h6
     ·
      rw[a7] at h6;exact notO j bj Lj a3 a4 q1 h6
     ·
      omega
    rcases hmg i bi hbi with ⟨h3,h4⟩|⟨h3,h4,h5⟩<;>rcases hmg j bj hbj with ⟨h6,h7⟩|⟨h6,h7,h8⟩
    ·
     exact m1.inj i j Li Lj (by simp[h3]) (by simp[h6]) hLi hLj hbb
    ·
     exact(mixed i j Li Lj bi bj h3 hLi h6 h7 h8 hLj hbb).elim
    ·
     exact(mixed j i Lj Li bj bi h6 hLj h3 h4 h5 hLi hbb.symm).elim
    ·
     refine m.inj i j Li Lj (by simp[h3]) (by simp[h6]) ?_ ?_ hbb
     ·
      rw[←hx.out i h5];exact hLi
     ·
      rw[←hx.out j h8];exact hLj
 ·
  cases hbi:get hm i with
  |none=>simp[hbi] at hi
  |some bi=>
   rcases hmg i bi hbi with ⟨h3,h4⟩|⟨h3,h4,h5⟩
   ·
    rcases m1.ours i L (by simp[h3]) hL with h6|h6
    ·
     exact hO _ h6
    ·
     exact .inr (Nat.le_trans m.fr.size h6)
   ·
    refine m.ours i L (by simp[h3]) ?_
    rw[←hx.out i h5];exact hL
 ·
  rcases hx.new b c hb with h3|h3|h3
  ·
   exact .inl h3
  ·
   exact .inr (hO _ h3)
  ·
   exact .inr (.inr (Nat.le_trans m.fr.size h3))
end
end Go.V
end
section
namespace Go.V
open Go
mutual
def vw (P:Program)(h:Heap):Nat→Val→Option Val
 |0,_=>none
 |n+1,v=>if v.closed=true then some v else
  match v with
  |.pr id off=>match get h id with
   |some (.cells cs _ _)=>if off≤cs.length then (vwL P h n (cs.drop off)).map .pp else none
   |_=>none
  |.so id off k cap=>match get h id with
   |some (.cells cs t _)=>if off+k*P.cellsOf t≤cs.length then (vwL P h n ((cs.drop off).take (k*P.cellsOf t))).map fun us=>.sl us k cap else none
   |_=>none
  |.pp cs=>(vwL P h n cs).map .pp
  |.sl cs k cap=>(vwL P h n cs).map fun us=>.sl us k cap
  |.fn f az cs=>match vwL P h n az,vwL P h n cs with
   |some us,some vs=>some (.fn f us vs)
   |_,_=>none
  |.ifc t v=>(vw P h n v).map (.ifc t)
  |.ag cs=>(vwL P h n cs).map .ag
  |.tp cs=>(vwL P h n cs).map .tp
  |_=>none
def vwL (P:Program)(h:Heap):Nat→List Val→Option (List Val)
 |0,_=>none
 |_+1,[]=>some []
 |n+1,v::vs=>match vw P h n v,vwL P h n vs with
  |some u,some us=>some (u::us)
  |_,_=>none
end
open Classical in
noncomputable def frz (F:Fro)(own:Nat→Prop)(w:World):Fro:=fun b=>
 match F b with
 |some c=>some c
 |none=>if own b then (match w.heap[b]? with|some (.cells c _ _)=>some c|_=>none) else none
section
variable {P:Program} {Γ:Glo P} {F:Fro} {ρ:Pl} {h:Heap} {w0 w:World} {O:Nat→Prop} {a:List Val} {act:Act}
theorem kB (own:Nat→Prop):FLe F (frz F own w):=fun b c hb=>by unfold frz;rw[hb]
theorem mH {own:Nat→Prop}{b:Nat}{c:Array Value}(hb:frz F own w b=some c):F b=some c∨(own b∧∃e fr,w.heap[b]?=some (.cells c e fr)):=by
 unfold frz at hb
 split at hb
 ·
  rename_i c' hc;cases hb;exact .inl hc
 ·
  split at hb
  ·
   rename_i ho
   split at hb
   ·
    rename_i c' e fr hc;cases hb;exact .inr ⟨ho,e,fr,hc⟩
   ·
    cases hb
  ·
   cases hb
theorem sB (m:Mem P F ρ h w0 O w)(own:Nat→Prop):FOk (frz F own w) w:=fun b c hb=>by
 rcases mH hb with h1|⟨_,e,fr,h1⟩
 ·
  exact m.fro b c h1
 ·
  exact⟨e,fr,h1⟩
theorem wC {own:Nat→Prop}{b:Nat}{c:Array Value}{e:TypeId}{fr:Nat×Nat}(ho:own b)(hF:F b=none)(hw:w.heap[b]?=some (.cells c e fr)):frz F own w b=some c:=by
 unfold frz
 simp[hF,ho,hw]
theorem aG {n:Nat}{v:Val}(hc:v.closed=true):vw P h (n+1) v=some v:=by
 cases v<;>simp_all[vw]
mutual
theorem mq (m:Mem P F ρ h w0 O w):∀(n:Nat)(v:Val){u:Val}{x:Value},vw P h n v=some u→Rel F ρ v x→Rel (frz F (cL h ρ) w) (fun _=>none) u x
 |0,v,u,x,hv,hr=>by simp[vw] at hv
 |n+1,v,u,x,hv,hr=>by
  by_cases hc:v.closed=true
  ·
   rw[aG hc] at hv
   cases hv
   exact Rel.of_closed _ _ hc (Rel.mono (kB _) (PLe.refl _) _ _ hr)
  ·
   cases v with
   |pr id off=>
    simp only[vw,hc,Bool.false_eq_true,if_false] at hv
    split at hv
    ·
     rename_i cs t o hg
     split at hv
     ·
      rename_i hle
      obtain⟨us,h1,rfl⟩:=map_some hv
      simp only[Rel] at hr
      obtain⟨L,hL,rfl⟩:=hr
      obtain⟨L',y,q1,q2,q3,c,rfl,q5,q6,q7,q8⟩:=m.own id _ hg
      rw[hL] at q1;cases q1
      have h2:=eH m n _ h1 (q7.drop off)
      have hlen:=h2.length
      simp only[Rel]
      refine⟨L.b,off,c,rfl,wC ⟨id,L,by simp[hg],hL,rfl⟩ q2 q3,?_⟩
      rw[←hlen]
      have e:((c.toList.drop off).take ((c.toList.take cs.length).drop off).length)=(c.toList.take cs.length).drop off:=by
       rw[List.drop_take]
       rw[List.length_take,List.take_eq_take_iff]
       simp
      rw[e]
      exact h2
     ·
      cases hv
    ·
     cases hv
   |so id off k cap=>
    simp only[vw,hc,Bool.false_eq_true,if_false] at hv
    split at hv
    ·
     rename_i cs t o hg
     split at hv
     ·
      rename_i hle
      obtain⟨us,h1,rfl⟩:=map_some hv
      simp only[Rel] at hr
      obtain⟨L,k',hL,rfl,g1,g2,g3⟩:=hr
      obtain⟨L',y,q1,q2,q3,c,rfl,q5,q6,q7,q8⟩:=m.own id _ hg
      rw[hL] at q1;cases q1
      have h2:=eH m n _ h1 ((q7.drop off).take (k*P.cellsOf t))
      have hlen:=h2.length
      simp only[Rel]
      refine .inr ⟨L.b,off,c,k',rfl,g1,g2,wC ⟨id,L,by simp[hg],hL,rfl⟩ q2 q3,?_⟩
      rw[←hlen]
      have e:((c.toList.drop off).take (((c.toList.take cs.length).drop off).take (k*P.cellsOf t)).length)=((c.toList.take cs.length).drop off).take (k*P.cellsOf t):=by
       rw[List.drop_take,List.take_take]
       rw[List.length_take,List.take_eq_take_iff]
       simp
      rw[e]
      exact h2
     ·
      cases hv
    ·
     cases hv
   |pp cs=>
    simp only[vw,hc,Bool.false_eq_true,if_false] at hv
    obtain⟨us,h1,rfl⟩:=map_some hv
    simp only[Rel] at hr ⊢
    obtain⟨b,o,c,rfl,g1,g2⟩:=hr
    have h2:=eH m n _ h1 g2
    have hlen:=h2.length
    refine⟨b,o,c,rfl,kB _ _ _ g1,?_⟩
    rw[←hlen]
    have e:(c.toList.drop o).take ((c.toList.drop o).take cs.length).length=(c.toList.drop o).take cs.length:=by rw[List.length_take,List.take_eq_take_iff];simp
    rw[e]
    exact h2
   |sl cs k cap=>
    simp only[vw,hc,Bool.false_eq_true,if_false] at hv
    obtain⟨us,h1,rfl⟩:=map_some hv
    simp only[Rel] at hr ⊢
    rcases hr with ⟨hx0,rfl,rfl,g0⟩|⟨b,o,c,k',rfl,g1,g2,g3,g4⟩
    ·
     have h2:=eH m n _ h1 (xs:=[]) .nil
     have hlen:=h2.length
     exact .inl ⟨hx0,by simp,List.eq_nil_of_length_eq_zero (by simpa using hlen.symm),g0⟩
    have h2:=eH m n _ h1 g4
    have hlen:=h2.length
    refine .inr ⟨b,o,c,k',rfl,g1,g2,kB _ _ _ g3,?_⟩
    rw[←hlen]
    have e:(c.toList.drop o).take ((c.toList.drop o).take cs.length).length=(c.toList.drop o).take cs.length:=by rw[List.length_take,List.take_eq_take_iff];simp
    rw[e]
    exact h2
   |fn f az cs=>
    simp only[vw,hc,Bool.false_eq_true,if_false] at hv
    split at hv
    ·
     rename_i us vs h1 h2
     cases hv
     simp only[Rel] at hr ⊢
     obtain⟨xs,ys,rfl,g1,g2⟩:=hr
     exact⟨xs,ys,rfl,eH m n _ h1 g1,eH m n _ h2 g2⟩
    ·
     cases hv
   |ifc t v=>
    simp only[vw,hc,Bool.false_eq_true,if_false] at hv
    obtain⟨us,h1,rfl⟩:=map_some hv
    simp only[Rel] at hr ⊢
    obtain⟨y,rfl,g1⟩:=hr
    exact⟨y,rfl,mq m n _ h1 g1⟩
   |ag cs=>
    simp only[vw,hc,Bool.false_eq_true,if_false] at hv
    obtain⟨us,h1,rfl⟩:=map_some hv
    simp only[Rel] at hr ⊢
    obtain⟨y,rfl,g1⟩:=hr
    exact⟨y,rfl,eH m n _ h1 g1⟩
   |tp cs=>
    simp only[vw,hc,Bool.false_eq_true,if_false] at hv
    obtain⟨us,h1,rfl⟩:=map_some hv
    simp only[Rel] at hr ⊢
    obtain⟨y,rfl,g1⟩:=hr
    exact⟨y,rfl,eH m n _ h1 g1⟩
   |_=>simp[Val.closed] at hc<;>simp[vw,Val.closed] at hv
theorem eH (m:Mem P F ρ h w0 O w):∀(n:Nat)(vs:List Val){us:List Val}{xs:List Value},vwL P h n vs=some us→RelL F ρ vs xs→RelL (frz F (cL h ρ) w) (fun _=>none) us xs
 |0,v,u,x,hv,hr=>by simp[vwL] at hv
 |n+1,[],us,xs,hv,hr=>by
  simp only[vwL] at hv
  cases hv
  simpa[RelL] using hr
 |n+1,v::vs,us,xs,hv,hr=>by
  simp only[vwL] at hv
  split at hv
  ·
   rename_i u us' h1 h2
   cases hv
   simp only[RelL] at hr ⊢
   obtain⟨y,ys,rfl,g1,g2⟩:=hr
   exact⟨y,ys,rfl,mq m n v h1 g1,eH m n vs h2 g2⟩
  ·
   cases hv
end
theorem Mem.still {F':Fro}{w1:World}(m:Mem P F ρ h w0 O w)(hF:FLe F F')(hnew:∀b c,F' b=some c→F b=some c∨w.heap.size≤b)(hok:FOk F' w1)(hfr:Fr w (fun _=>False) w1):Mem P F' ρ h w0 O w1:=by
 refine⟨hok,fun i b hg=>?_,m.inj,m.ours,m.fr.trans hfr (fun _ h=>h.elim)⟩
 obtain⟨L,x,q1,q2,q3,q4⟩:=m.own i b hg
 have hlt:=dN q3
 refine⟨L,x,q1,?_,by rw[hfr.block L.b hlt id];exact q3,q4.mono P hF (PLe.refl _)⟩
 cases hf:F' L.b with
 |none=>rfl
 |some c=>
  rcases hnew _ _ hf with h3|h3
  ·
   rw[q2] at h3;cases h3
  ·
   omega
theorem o8 (hG:GOk F Γ)(ha:RelL F ρ a act.tmps.toList){o:Oper}{f:FuncId}{vs:List Val}(hc:callee Γ a o=some (f,vs))(hp:bL P f=true) :
  ∃xs:Array Value,(execOp act.eval o).run P w=.ok (.enter f xs) w∧RelL F ρ vs xs.toList:=by
 obtain⟨dst,op,type,pos,after,guard⟩:=o
 unfold callee at hc
 simp only at hc
 split at hc
 ·
  rename_i fo args ts
  split at hc
  ·
   rename_i g first cap us h1 h2
   cases hc
   have e1:=aT hG ha h1
   have e2:=gF hG ha h2
   simp only[Rel] at e1
   obtain⟨xf,xc,e3,e4,e5⟩:=e1
   unfold bL at hp
   split at hp
   ·
    rename_i fn hfn
    simp only[Bool.and_eq_true] at hp
    refine⟨xf++args.map act.eval++xc,?_,?_⟩
    ·
     have hb:¬fn.body=none:=by intro e;simp[e] at hp
     have hn:¬fn.name= "runtime.NumGoroutine":=by simpa using hp.2
     simp[execOp,resolve,Deferred.ofValue,e3,invoke,callFunc,hfn,hn,hb]
    ·
     simp only[Array.toList_append,Array.toList_map]
     exact(e4.append e2).append e5
   ·
    cases hp
  ·
   cases hc
 ·
  cases hc
theorem wU (m:Mem P F ρ h w0 O w)(hG:GOk F Γ)(ha:RelL F ρ a act.tmps.toList){o:Oper}{f:FuncId}{vs:List Val}{r:Val}(hc:callee Γ a o=some (f,vs))(hp:bL P f=true)
  (hcl:aE vs=true) (hk:PureOk P Γ f vs r) {K:Act→World→Prop} {Q:Exit→Act→World→Prop}
  (h':∀F' x w',FLe F F'→(∀b c,F' b=some c→F b=some c∨w.heap.size≤b)→Rel F' ρ r x→Mem P F' ρ h w0 O w'→K (act.put o.dst x) w'):o.wp P act w K Q:=by
 obtain⟨xs,h1,h2⟩:=o8 (w:=w) hG ha hc hp
 unfold Oper.wp
 rw[h1,Oper.upon_enter]
 refine(hk F w xs hG m.fro (RelL.of_closed _ _ hcl h2)).mono ?_
 rintro e w' ⟨F',x,rfl,a1,a2,a3,a4,a5⟩
 exact h' F' x w' a1 a2 (Rel.mono (FLe.refl _) (mQ ρ) _ _ a4) (m.still a1 a2 a3 a5)
theorem qY (m:Mem P F ρ h w0 O w)(hG:GOk F Γ)(ha:RelL F ρ a act.tmps.toList){o:Oper}{f:FuncId}{vs us:List Val}{r:Val}{n:Nat}(hc:callee Γ a o=some (f,vs))(hp:bL P f=true)
  (hvw:vwL P h n vs=some us) (hk:PureOk P Γ f us r) (hfl:r.flat=true) {K:Act→World→Prop} {Q:Exit→Act→World→Prop}
  (h':∀x w',Rel F ρ r x→Mem P F ρ h w0 O w'→K (act.put o.dst x) w'):o.wp P act w K Q:=by
 obtain⟨xs,h1,h2⟩:=o8 (w:=w) hG ha hc hp
 unfold Oper.wp
 rw[h1,Oper.upon_enter]
 refine(hk (frz F (cL h ρ) w) w xs (hG.mono (kB _)) (sB m _) (eH m n _ hvw h2)).mono ?_
 rintro e w' ⟨F',x,rfl,a1,a2,a3,a4,a5⟩
 refine h' x w' (Rel.of_flat _ _ hfl a4) (m.still (FLe.refl F) (fun _ _ h=>.inl h) ?_ a5)
 intro b c hb
 obtain⟨e,fr,h3⟩:=m.fro b c hb
 exact⟨e,fr,by rw[a5.block b (dN h3) id];exact h3⟩
theorem rp (m:Mem P F ρ h w0 O w)(hG:GOk F Γ)(ha:RelL F ρ a act.tmps.toList){o:Oper}{f:FuncId}{vs:List Val}{r:Val}{N N':Nat}{all:Bool}{h2:Heap}(hc:callee Γ a o=some (f,vs))(hp:bL P f=true)
  (hk:CallOk P Γ f vs h N all r h2 N') (hfre:Fresh' ρ N N' all) {K:Act→World→Prop} {Q:Exit→Act→World→Prop}
  (h':∀F' ρ' x w',Ext F F' ρ ρ' w0 O N N'→Rel F' ρ' r x→Mem P F' ρ' h2 w0 O w'→K (act.put o.dst x) w'):o.wp P act w K Q:=by
 obtain⟨xs,h1,h3⟩:=o8 (w:=w) hG ha hc hp
 unfold Oper.wp
 rw[h1,Oper.upon_enter]
 refine(hk.2 F ρ w0 O w xs hG m hfre h3).mono ?_
 rintro e w' ⟨F',ρ',x,rfl,a1,a2,a3⟩
 exact h' F' ρ' x w' a1 a2 a3
theorem Mem.rebase (m:Mem P F ρ h w0 O w){h1:Heap}(hsub:∀i b,get h1 i=some b→get h i=some b):Mem P F ρ h1 w (cL h1 ρ) w:=by
 have m1:=m.sub hsub
 exact⟨m1.fro,m1.own,m1.inj,fun i L hi hL=>.inl ⟨i,L,hi,hL,rfl⟩,Fr.refl w _⟩
end
end Go.V
end
section
namespace Go.V
open Go
section
variable {X Y:Type}
def ep (wr:Nat→X→Option Y)(s0:X→Y)(S:Nat→Bool):Nat→X→Y
 |0,x=>s0 x
 |k+1,x=>if S k=true then (match wr k x with|some y=>y|none=>ep wr s0 S k x) else ep wr s0 S k x
theorem qq {wr:Nat→X→Option Y}{s0:X→Y}{S:Nat→Bool}{j:Nat}{x:X}:∀{n:Nat},j≤n→(∀k,k<n→wr k x≠none→(S k=true↔k<j))→ep wr s0 S n x=ep wr s0 (fun _=>true) j x:=by
 have low:∀i,i≤j→(∀k,k<i→wr k x≠none→(S k=true↔k<j))→ep wr s0 S i x=ep wr s0 (fun _=>true) i x:=by
  intro i
  induction i with
  |zero=>intro _ _;rfl
  |succ i ih=>
   intro hi h
   have h':=ih (by omega) (fun k hk=>h k (by omega))
   simp only[ep,if_true]
   cases hw:wr i x with
   |none=>simp only[h'];split<;>rfl
   |some y=>have:=(h i (by omega) (by simp[hw])).2 (by omega);simp[this]
 intro n
 induction n with
 |zero=>
  intro hj _
  have:j=0:=by omega
  subst this
  rfl
 |succ n ih=>
  intro hj h
  by_cases he:j=n+1
  ·
   subst he;exact low _ (Nat.le_refl _) h
  ·
   have h':=ih (by omega) (fun k hk=>h k (by omega))
   simp only[ep]
   cases hw:wr n x with
   |none=>simp only[h'];split<;>rfl
   |some y=>
    have:¬S n=true:=fun hs=>by have:=(h n (by omega) (by simp[hw])).1 hs;omega
    simp[this,h']
theorem ox {wr:Nat→X→Option Y}{s0:X→Y}{S S':Nat→Bool}{j:Nat}{x:X}(hS:∀k,S' k=(S k||k==j))(hj:S j=false):∀{n:Nat},j<n→
  (wr j x≠none→∀k,j<k→k<n→S k=true→wr k x=none)→ep wr s0 S' n x=match wr j x with|some y=>y|none=>ep wr s0 S n x:=by
 have low:∀i,i≤j→ep wr s0 S' i x=ep wr s0 S i x:=by
  intro i
  induction i with
  |zero=>intro _;rfl
  |succ i ih=>
   intro hi
   have h':=ih (by omega)
   have e:S' i=S i:=by
    rw[hS]
    have:(i==j)=false:=by simp;omega
    rw[this];simp
   simp only[ep,e,h']
 intro n
 induction n with
 |zero=>intro h;omega
 |succ n ih=>
  intro hn h
  by_cases he:n=j
  ·
   subst he
   have e:S' n=true:=by rw[hS];simp
   simp only[ep,e,if_true,hj,low n (Nat.le_refl _)]
   simp
  ·
   have h':=ih (by omega) (fun hw k h1 h2=>h hw k h1 (by omega))
   have e:S' n=S n:=by
    rw[hS]
    have:(n==j)=false:=by simpa using he
    rw[this];simp
   simp only[ep,e,h']
   cases hw:wr j x with
   |none=>simp
   |some y=>
    by_cases hs:S n=true
    ·
     have:=h (by simp[hw]) n (by omega) (by omega) hs
     simp[hs,this]
    ·
     simp[hs]
theorem tZ {wr:Nat→X→Option Y}{s0:X→Y}{S:Nat→Bool}{x:X}:∀{n:Nat},(∀k,k<n→S k=true)→ep wr s0 S n x=ep wr s0 (fun _=>true) n x:=by
 intro n
 induction n with
 |zero=>intro _;rfl
 |succ n ih=>intro h;simp only[ep,h n (by omega),if_true,ih (fun k hk=>h k (by omega))]
end
inductive Dep (ops:Array Oper):Nat→Nat→Prop where
 |one {j:Nat} {o:Oper} {e:Edge}:ops[j]?=some o→e∈o.after→Region.binds .any e=true→Dep ops j e.on
 |more {j:Nat} {o:Oper} {e:Edge} {k:Nat}:ops[j]?=some o→e∈o.after→Region.binds .any e=true→Dep ops e.on k→Dep ops j k
def up (ops:Array Oper)(j i:Nat):Bool:=((Region.before ops).getD j 0).testBit i
theorem sg (acc:Array Nat)(es:List Edge)(s i:Nat)(h:(es.foldl (fun s e=>if Region.binds .any e then s ||| 2 ^ e.on ||| acc.getD e.on 0 else s) s).testBit i=true) :
  s.testBit i=true∨∃e∈es,Region.binds .any e=true∧(e.on=i∨(acc.getD e.on 0).testBit i=true):=by
 induction es generalizing s with
 |nil=>exact .inl h
 |cons e es ih=>
  simp only[List.foldl_cons] at h
  rcases ih _ h with h1|⟨e',h1,h2,h3⟩
  ·
   split at h1
   ·
    rename_i hb
    simp only[Nat.testBit_or,Bool.or_eq_true,Nat.testBit_two_pow,decide_eq_true_eq] at h1
    rcases h1 with (h1|h1)|h1
    ·
     exact .inl h1
    ·
     exact .inr ⟨e,by simp,hb,.inl h1⟩
    ·
     exact .inr ⟨e,by simp,hb,.inr h1⟩
   ·
    exact .inl h1
  ·
   exact .inr ⟨e',by simp[h1],h2,h3⟩
theorem nS (ops:Array Oper):∀(l done:List Oper)(acc:Array Nat),ops.toList=done++l→acc.size=done.length→(∀j i,(acc.getD j 0).testBit i=true→Dep ops j i)→
  ∀j i,((l.foldl (fun acc o=>acc.push (o.after.foldl (fun s e=>if Region.binds .any e then s ||| 2 ^ e.on ||| acc.getD e.on 0 else s) 0)) acc).getD j 0).testBit i=true→Dep ops j i
 |[],done,acc,_,_,h=>h
 |o::l,done,acc,hl,hs,h=>by
  simp only[List.foldl_cons]
  refine nS ops l (done++[o]) _ (by simp[hl]) (by simp[hs]) ?_
  intro j i hb
  rw[Array.getD_eq_getD_getElem?,Array.getElem?_push] at hb
  split at hb
  ·
   rename_i he
   have ho:ops[j]?=some o:=by
    rw[he,hs,←Array.getElem?_toList,hl];simp
   simp only[Option.getD_some] at hb
   rw[←Array.foldl_toList] at hb
   rcases sg acc o.after.toList 0 i hb with h1|⟨e,h1,h2,h3⟩
   ·
    simp at h1
   ·
    rcases h3 with rfl|h3
    ·
     exact .one ho (by simpa using h1) h2
    ·
     exact .more ho (by simpa using h1) h2 (h _ _ h3)
  ·
   rw[←Array.getD_eq_getD_getElem?] at hb
   exact h j i hb
theorem od {ops:Array Oper}{j i:Nat}(h:up ops j i=true):Dep ops j i:=by
 unfold up Region.before at h
 rw[←Array.foldl_toList] at h
 exact nS ops ops.toList [] #[] (by simp) rfl (fun j i hb=>by simp at hb) j i h
def Down (ops:Array Oper)(S:Nat→Bool):Prop:=∀j o e,S j=true→ops[j]?=some o→e∈o.after→Region.binds .any e=true→S e.on=true
theorem Down.dep {ops:Array Oper}{S:Nat→Bool}(h:Down ops S){j i:Nat}(hd:Dep ops j i):S j=true→S i=true:=by
 induction hd with
 |one h1 h2 h3=>intro hj;exact h _ _ _ hj h1 h2 h3
 |more h1 h2 h3 _ ih=>intro hj;exact ih (h _ _ _ hj h1 h2 h3)
theorem Dep.first {ops:Array Oper}{S:Nat→Bool}(h:Down ops S){j i:Nat}(hd:Dep ops j i)(hr:∀o e,ops[j]?=some o→e∈o.after→Region.binds .any e=true→S e.on=true):S i=true:=by
 cases hd with
 |one h1 h2 h3=>exact hr _ _ h1 h2 h3
 |more h1 h2 h3 h4=>exact h.dep h4 (hr _ _ h1 h2 h3)
end Go.V
end
section
namespace Go.V
open Go
structure Rec where
 v:Val
 n:Nat
 n':Nat
 all:Bool
 ro:Bool
 fp:Heap
 fp':Heap
def tou (r:Rec)(id:Nat):Prop:=(get r.fp id).isSome=true∨(r.n≤id∧id<r.n')
def wri (r:Rec)(id:Nat):Prop:=r.ro=false∧tou r id∧((r.n≤id∧id<r.n')∨get r.fp' id≠get r.fp id)
section
variable {P:Program} {Γ:Glo P} {F:Fro} {ρ:Pl} {h:Heap} {w0 w:World} {O:Nat→Prop} {a:List Val} {act:Act}
def jo (P:Program)(Γ:Glo P)(o:Oper)(a:List Val)(r:Rec):Prop:=
 r.n≤r.n'∧(r.ro=true→r.fp'=r.fp∧r.n'=r.n)∧(∀id,(get r.fp' id).isSome=true→tou r id)∧
 ∀a',(∀x∈o.op.operands,ev Γ a' x=ev Γ a x)→∀F ρ w0 O w (act:Act) (K:Act→World→Prop) (Q:Exit→Act→World→Prop),GOk F Γ→Mem P F ρ r.fp w0 O w→Fresh' ρ r.n r.n' r.all→RelL F ρ a' act.tmps.toList→
  (∀F' ρ' x w',Ext F F' ρ ρ' w0 O r.n r.n'→Rel F' ρ' r.v x→Mem P F' ρ' r.fp' w0 O w'→K (act.put o.dst x) w')→o.wp P act w K Q
def wrA (ops:Array Oper)(rs:Nat→Rec)(len:Nat)(k t:Nat):Option (Option Val):=
 match ops[k]? with
 |some o=>if o.dst=some t then (if t<len then some (some (rs k).v) else some none) else none
 |none=>none
open Classical in
noncomputable def wrH (rs:Nat→Rec)(k id:Nat):Option (Option Blk):=
 if wri (rs k) id then some (get (rs k).fp' id) else none
def Bp (ops:Array Oper)(rs:Nat→Rec)(i j:Nat)(oi oj:Oper):Prop:=
 oi.apart ops oj=true∧((∀id,wri (rs i) id→¬tou (rs j) id)∧∀id,wri (rs j) id→¬tou (rs i) id)∧
 ((rs i).all=true→(rs j).n'=(rs j).n)∧((rs j).all=true→(rs i).n'=(rs i).n)
def vb (r:Rec):Prop:=r.v=uv∧r.n'=r.n∧r.all=false∧r.ro=true∧r.fp=[]∧r.fp'=[]
def dw (h:Heap)(r:Rec):Heap:=if r.ro=true then h else r.fp'++h.filter fun p=>!(get r.fp p.1).isSome&&!(decide (r.n≤p.1)&&decide (p.1<r.n'))
theorem eC (l1 l2:Heap)(i:Nat):get (l1++l2) i=(get l1 i).or (get l2 i):=by
 induction l1 with
 |nil=>simp[get]
 |cons x r ih=>
  obtain⟨k,b⟩:=x
  simp only[List.cons_append,get]
  by_cases e:k=i<;>simp[e,ih]
theorem gG (l:Heap)(p:Nat→Bool)(i:Nat):get (l.filter fun x=>p x.1) i=if p i=true then get l i else none:=by
 induction l with
 |nil=>simp[get]
 |cons x r ih=>
  obtain⟨k,b⟩:=x
  simp only[List.filter_cons,get]
  by_cases hp:p k=true
  ·
   simp only[hp,if_true,get,ih]
   by_cases e:k=i
   ·
    subst e;simp[hp]
   ·
    simp[e]
  ·
   simp only[hp,Bool.false_eq_true,if_false,ih]
   by_cases e:k=i
   ·
    subst e;simp[hp]
   ·
    simp[e]
theorem pA {h:Heap}{r:Rec}(hk:∀id,(get r.fp' id).isSome=true→tou r id)(hro:r.ro=false)(id:Nat) [Decidable (tou r id)]:get (dw h r) id=if tou r id then get r.fp' id else get h id:=by
 unfold dw
 simp only[hro,Bool.false_eq_true,if_false]
 rw[eC]
 have hf:=gG h (fun k=>!(get r.fp k).isSome&&!(decide (r.n≤k)&&decide (k<r.n'))) id
 rw[hf]
 by_cases ht:tou r id
 ·
  rw[if_pos ht]
  have:((!(get r.fp id).isSome&&!(decide (r.n≤id)&&decide (id<r.n')))=true)=False:=by
   simp only[Bool.and_eq_true,Bool.not_eq_true',Bool.and_eq_false_iff,decide_eq_false_iff_not,eq_iff_iff,iff_false]
   rintro⟨h1,h2⟩
   rcases ht with ht|⟨h3,h4⟩
   ·
    rw[ht] at h1;cases h1
   ·
    rcases h2 with h2|h2<;>omega
  rw[if_neg (by rw[this];exact not_false)]
  simp
 ·
  rw[if_neg ht]
  have hn:get r.fp' id=none:=by
   cases hg:get r.fp' id with
   |none=>rfl
   |some b=>exact(ht (hk id (by simp[hg]))).elim
  have:(!(get r.fp id).isSome&&!(decide (r.n≤id)&&decide (id<r.n')))=true:=by
   unfold tou at ht
   rw[not_or] at ht
   simp only[Bool.and_eq_true,Bool.not_eq_true',Bool.and_eq_false_iff,decide_eq_false_iff_not]
   refine⟨by simpa using ht.1,?_⟩
   by_cases h1:r.n≤id
   ·
    right;intro h2;exact ht.2 ⟨h1,h2⟩
   ·
    left;exact h1
  rw[if_pos this,hn]
  simp
theorem qv {h:Heap}{r:Rec}(hk:∀id,(get r.fp' id).isSome=true→tou r id)(hs:∀id b,get r.fp id=some b→get h id=some b)(id:Nat) [Decidable (wri r id)]:get (dw h r) id=if wri r id then get r.fp' id else get h id:=by
 by_cases hro:r.ro=true
 ·
  have:¬wri r id:=fun h=>by rw[h.1] at hro;cases hro
  rw[if_neg this]
  simp[dw,hro]
 ·
  have hro':r.ro=false:=by simpa using hro
  haveI:Decidable (tou r id):=Classical.propDecidable _
  rw[pA hk hro']
  by_cases hw:wri r id
  ·
   rw[if_pos hw,if_pos hw.2.1]
  ·
   rw[if_neg hw]
   by_cases ht:tou r id
   ·
    rw[if_pos ht]
    have h1:¬((r.n≤id∧id<r.n')∨get r.fp' id≠get r.fp id):=fun h=>hw ⟨hro',ht,h⟩
    rw[not_or] at h1
    have h2:get r.fp' id=get r.fp id:=Classical.not_not.1 h1.2
    rcases ht with ht|ht
    ·
     cases hg:get r.fp id with
     |none=>simp[hg] at ht
     |some b=>rw[h2,hg,hs id b hg]
    ·
     exact(h1.1 ht).elim
   ·
    rw[if_neg ht]
theorem v8 (ha:RelL F ρ a act.tmps.toList)(ops:Array Oper)(j:Nat):yielded ops act.tmps j=aS ops a j:=by
 unfold yielded aS
 cases ops[j]? with
 |none=>rfl
 |some o=>
  simp only[Option.bind_some]
  cases o.dst with
  |none=>rfl
  |some d=>
   simp only[Option.bind_some]
   have hl:=ha.length
   cases hd:a[d]? with
   |none=>
    have:act.tmps[d]?=none:=by
     rw[←Array.getElem?_toList]
     rw[List.getElem?_eq_none_iff] at hd ⊢
     omega
    rw[this]
   |some v=>
    obtain⟨x,h1,h2⟩:=ha.get hd
    rw[Array.getElem?_toList] at h1
    rw[h1]
    cases v<;>simp only[Rel] at h2
    case bool b=>subst h2;rfl
    case pp cs=>obtain⟨_,_,_,rfl,_⟩:=h2;rfl
    case pr id off=>obtain⟨_,_,rfl⟩:=h2;rfl
    case sl cs n cap=>rcases h2 with ⟨rfl|⟨_,rfl⟩,_⟩|⟨_,_,_,_,rfl,_⟩<;>rfl
    case jk y=>subst h2;cases x<;>rfl
    case sle=>obtain⟨_,_,rfl⟩:=h2;rfl
    case so id off n cap=>obtain⟨_,_,_,rfl,_⟩:=h2;rfl
    case mp id=>obtain⟨_,_,rfl⟩:=h2;rfl
    case fn f az cs=>obtain⟨_,_,rfl,_⟩:=h2;rfl
    case ifc t v=>obtain⟨_,rfl,_⟩:=h2;rfl
    case ag cs=>obtain⟨_,rfl,_⟩:=h2;rfl
    case tp cs=>obtain⟨_,rfl,_⟩:=h2;rfl
    all_goals (subst h2;rfl)
theorem r7 (ha:RelL F ρ a act.tmps.toList)(ops:Array Oper)(o:Oper):Region.wanted o (yielded ops act.tmps)=aO ops o a:=by
 unfold Region.wanted aO
 cases o.guard with
 |none=>rfl
 |some g=>simp only[v8 ha]
theorem dq (ha:RelL F ρ a act.tmps.toList){v:Val}{x:Value}(hr:Rel F ρ v x)(d:Option Tmp):RelL F ρ (dJ a d v) (act.put d x).tmps.toList:=by
 cases d with
 |none=>exact ha
 |some d=>simp only[dJ,Act.put,Array.toList_setIfInBounds];exact ha.set d hr
theorem cP (d:Option Tmp)(x:Value):(act.put d x).defers=act.defers:=by cases d<;>rfl
def cnt (S:Nat→Bool):Nat→Nat
 |0=>0
 |k+1=>cnt S k+if S k=true then 0 else 1
theorem lm {S:Nat→Bool}:∀{n:Nat},cnt S n=0→∀k,k<n→S k=true
 |n+1,h,k,hk=>by
  simp only[cnt] at h
  by_cases hs:S n=true
  ·
   by_cases e:k=n
   ·
    rw[e];exact hs
   ·
    exact lm (n:=n) (by omega) k (by omega)
  ·
   simp[hs] at h
theorem vu {S:Nat→Bool}:∀{n:Nat},0<cnt S n→∃k,k<n∧S k=false∧∀i,i<k→S i=true
 |n+1,h=>by
  simp only[cnt] at h
  by_cases hc:0<cnt S n
  ·
   obtain⟨k,h1,h2⟩:=vu (n:=n) hc
   exact⟨k,Nat.lt_succ_of_lt h1,h2⟩
  ·
   by_cases hs:S n=true
   ·
    simp[hs] at h;omega
   ·
    exact⟨n,by omega,by simpa using hs,fun i hi=>lm (n:=n) (by omega) i hi⟩
theorem vt {S S':Nat→Bool}{j:Nat}(hS:∀k,S' k=(S k||k==j))(hj:S j=false):∀{n:Nat},(n≤j→cnt S' n=cnt S n)∧(j<n→cnt S' n+1=cnt S n)
 |0=>⟨fun _=>rfl,fun h=>by omega⟩
 |n+1=>by
  have ih:=vt hS hj (n:=n)
  refine⟨fun h=>?_,fun h=>?_⟩
  ·
   have e:S' n=S n:=by
    rw[hS]
    have:(n==j)=false:=by simp;omega
    rw[this];simp
   simp only[cnt,ih.1 (by omega),e]
  ·
   by_cases he:n=j
   ·
    subst he
    have e:S' n=true:=by rw[hS];simp
    simp only[cnt,ih.1 (Nat.le_refl _),e,hj]
    simp
   ·
    have e:S' n=S n:=by
     rw[hS]
     have:(n==j)=false:=by simpa using he
     rw[this];simp
    have:=ih.2 (by omega)
    simp only[cnt,e]
    omega
end
end Go.V
end
