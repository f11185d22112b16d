/-
  A part of a proof: V25.
-/
import Derived.Test.YtkfjenbfbendhaaGreatDoorLk07
set_option linter.unusedSimpArgs false
set_option linter.unusedVariables false
namespace Go.V
open Go
def cY (C:Ctx):Nat→Task→Option Out
 |0,_=>none
 |n+1,.pure f vs=>match C.S f vs with
  |some r=>some (yd r)
  |none=>match C.P.funcs[f]? with
   |some fn=>match fn.body with
    |some c=>match cY C n (.code c (vs++List.replicate (fn.ntmps-vs.length) uv) [] 0) with
     |some o=>if Exit.goes o.e=true then match gr C.P fn o.a o.h with
      |some r0=>(vw C.P o.h 1000 r0).map yd
      |none=>none else none
     |none=>none
    |none=>none
   |none=>none
 |n+1,.imp f vs h N=>match C.I f vs h N with
  |some (r,h',N')=>some ⟨.normal,r,[],h',N',[]⟩
  |none=>match C.T f,vs with
  |some r,[.fn g first cap]=>if bL C.P g=true then (cY C n (.imp g (first++cap) h N)).map fun o=>{o with v:=r} else none
  |_,_=>match C.P.funcs[f]? with
   |some fn=>match fn.body with
    |some c=>match cY C n (.code c (vs++List.replicate (fn.ntmps-vs.length) uv) h N) with
     |some o=>if Exit.goes o.e=true∧N≤o.N then (gr C.P fn o.a o.h).map fun r=>⟨.normal,r,[],eK o.h (gh o.h 1000 (h.map (·.1)++tc r) []),o.N,[]⟩ else none
     |none=>none
    |none=>none
   |none=>none
 |n+1,.code c a h N=>match c with
  |.skip=>some ⟨.normal,uv,a,h,N,[]⟩
  |.exit id=>some ⟨.exit id,uv,a,h,N,[]⟩
  |.ret=>some ⟨.ret,uv,a,h,N,[]⟩
  |.seq x y=>match cY C n (.code x a h N) with
   |some o=>match o.e with
    |.normal=>cY C n (.code y o.a o.h o.N)
    |_=>some o
   |none=>none
  |.cond c x y=>match ev C.Γ a c with
   |some (.bool b)=>cY C n (.code (if b then x else y) a h N)
   |_=>none
  |.block id x=>match cY C n (.code x a h N) with
   |some o=>match o.e with
    |.exit id'=>if id'=id then some {o with e:=.normal} else some o
    |_=>some o
   |none=>none
  |.loop x=>match cY C n (.code x a h N) with
   |some o=>match o.e with
    |.normal=>cY C n (.code (.loop x) o.a o.h o.N)
    |_=>some o
   |none=>none
  |.region _ ops false=>cY C n (.ops ops ops.toList a h N)
  |.region _ ops true=>match cY C n (.draw ops ops.toList a h N) with
   |some o=>if ti ops=true∧jr ops=true∧(lI ops).all (fun p=>mV (o.rs.getD p.1 ⟨uv,0,0,false,true,[],[]⟩) (o.rs.getD p.2 ⟨uv,0,0,false,true,[],[]⟩))=true then some o else none
   |none=>none
  |_=>none
 |_+1,.ops _ [] a h N=>some ⟨.normal,uv,a,h,N,[]⟩
 |n+1,.ops ops (o::os) a h N=>
  if aO ops o a=true then
   match jP C a o with
   |some (f,vs)=>
     if C.pureF f=true then
      if aE vs=true then match cY C n (.pure f vs) with
       |some r=>cY C n (.ops ops os (dJ a o.dst r.v) h N)
       |none=>none
      else match vwL C.P h 1000 vs with
       |some us=>match cY C n (.pure f us) with
        |some r=>if r.v.flat=true then cY C n (.ops ops os (dJ a o.dst r.v) h N) else none
        |none=>none
       |none=>none
     else match cY C n (.imp f vs h N) with
      |some r=>cY C n (.ops ops os (dJ a o.dst r.v) r.h r.N)
      |none=>none
   |none=>match bW C.P C.Γ o a h N with
    |some (v,h')=>cY C n (.ops ops os (dJ a o.dst v) h' (N+1))
    |none=>none
  else cY C n (.ops ops os (dJ a o.dst uv) h N)
 |_+1,.draw _ [] a h N=>some ⟨.normal,uv,a,h,N,[]⟩
 |n+1,.draw ops (o::os) a h N=>match kc C (cY C n) ops o a h N with
  |some r=>match cY C n (.draw ops os (dJ a o.dst r.v) (dw h r) r.n') with
   |some q=>some {q with rs:=r::q.rs}
   |none=>none
  |none=>none
section
variable {C:Ctx}
theorem vJ (hm:C.P.follows .mixedOrders=true)(hS:∀f vs r,C.S f vs=some r→PureOk C.P C.Γ f vs r)(hI:∀f vs h N r h' N',C.I f vs h N=some (r,h',N')→CallOk C.P C.Γ f vs h N true r h' N')
  (hT:∀f r,C.T f=some r→∀g first cap h N q h' N',bL C.P g=true→CallOk C.P C.Γ g (first++cap) h N true q h' N'→CallOk C.P C.Γ f [.fn g first cap] h N true r h' N'):∀(n:Nat) (t:Task) (o:Out),cY C n t=some o→Good C t o:=by
 intro n
 induction n with
 |zero=>intro t o h;simp[cY] at h
 |succ n ih=>
  intro t o h
  cases t with
  |pure f vs=>
   simp only[cY] at h
   split at h
   ·
    rename_i r hr;cases h;exact hS f vs r hr
   ·
    split at h
    ·
     rename_i fn hf
     split at h
     ·
      rename_i c hc
      split at h
      ·
       rename_i q hq
       split at h
       ·
        rename_i hg
        split at h
        ·
         rename_i r0 hr0
         obtain⟨r,h1,rfl⟩:=map_some h
         have:=(ih _ _ hq).w.2
         refine ni hf hc (this.mono ?_)
         rintro e a' h' N' ⟨rfl,rfl,rfl,rfl⟩
         exact⟨ta hg,r0,1000,hr0,h1⟩
        ·
         cases h
       ·
        cases h
      ·
       cases h
     ·
      cases h
    ·
     cases h
  |imp f vs h0 N=>
   simp only[cY] at h
   split at h
   ·
    rename_i r h' N' hi;cases h;exact hI f vs h0 N r h' N' hi
   ·
    split at h
    ·
     rename_i r g first cap hr _
     split at h
     ·
      rename_i hpl
      obtain⟨q,h1,rfl⟩:=map_some h
      exact hT f r hr g first cap h0 N q.v q.h q.N hpl (ih _ _ h1)
     ·
      cases h
    ·
     split at h
     ·
      rename_i fn hf
      split at h
      ·
       rename_i c hc
       split at h
       ·
        rename_i q hq
        split at h
        ·
         rename_i hg
         obtain⟨r,h1,rfl⟩:=map_some h
         have:=(ih _ _ hq).w.2
         refine sr hf hc hg.2 (this.mono ?_)
         rintro e a' h' N' ⟨rfl,rfl,rfl,rfl⟩
         exact⟨ta hg.1,Nat.le_refl _,h1,fun i b hb=>iJ hb⟩
        ·
         cases h
       ·
        cases h
      ·
       cases h
     ·
      cases h
  |code c a h0 N=>
   cases c with
   |skip=>simp only[cY] at h;cases h;exact⟨Nat.le_refl _,jp ⟨rfl,rfl,rfl,rfl⟩⟩
   |exit id=>simp only[cY] at h;cases h;exact⟨Nat.le_refl _,re ⟨rfl,rfl,rfl,rfl⟩⟩
   |ret=>simp only[cY] at h;cases h;exact⟨Nat.le_refl _,vf ⟨rfl,rfl,rfl,rfl⟩⟩
   |seq x y=>
    simp only[cY] at h
    split at h
    ·
     rename_i q hq
     obtain⟨g1,g2⟩:=(ih _ _ hq).w
     split at h
     ·
      rename_i he
      obtain⟨g3,g4⟩:=(ih _ _ h).w
      refine⟨by omega,ey (g2.mono ?_)⟩
      rintro e a' h' N' ⟨rfl,rfl,rfl,rfl⟩
      rw[he]
      exact g4
     ·
      rename_i he
      cases h
      refine⟨g1,ey (g2.mono ?_)⟩
      rintro e a' h' N' ⟨h1,rfl,rfl,rfl⟩
      cases e with
      |normal=>exact(he h1.symm).elim
      |_=>exact⟨h1,rfl,rfl,rfl⟩
    ·
     cases h
   |cond c x y=>
    simp only[cY] at h
    split at h
    ·
     rename_i b hb
     obtain⟨g1,g2⟩:=(ih _ _ h).w
     exact⟨g1,oW hb g2⟩
    ·
     cases h
   |block id x=>
    simp only[cY] at h
    split at h
    ·
     rename_i q hq
     obtain⟨g1,g2⟩:=(ih _ _ hq).w
     split at h
     ·
      rename_i id' he
      split at h
      ·
       rename_i hid
       cases h
       refine⟨g1,fb (g2.mono ?_)⟩
       rintro e a' h' N' ⟨rfl,rfl,rfl,rfl⟩
       rw[he]
       simp only[cN,hid,if_true]
       exact⟨rfl,rfl,rfl,rfl⟩
      ·
       rename_i hid
       cases h
       refine⟨g1,fb (g2.mono ?_)⟩
       rintro e a' h' N' ⟨rfl,rfl,rfl,rfl⟩
       rw[he]
       simp only[cN,hid,if_false]
       exact⟨he.symm,rfl,rfl,rfl⟩
     ·
      rename_i he
      cases h
      refine⟨g1,fb (g2.mono ?_)⟩
      rintro e a' h' N' ⟨h1,rfl,rfl,rfl⟩
      cases e with
      |exit id'=>exact(he id' h1.symm).elim
      |_=>exact⟨h1,rfl,rfl,rfl⟩
    ·
     cases h
   |loop x=>
    simp only[cY] at h
    split at h
    ·
     rename_i q hq
     obtain⟨g1,g2⟩:=(ih _ _ hq).w
     split at h
     ·
      rename_i he
      obtain⟨g3,k,g4⟩:=ih _ _ h
      refine⟨by omega,k+1,g2.mono ?_⟩
      rintro e a' h' N' ⟨rfl,rfl,rfl,rfl⟩
      rw[he]
      exact g4
     ·
      rename_i he
      cases h
      refine⟨g1,1,g2.mono ?_⟩
      rintro e a' h' N' ⟨h1,rfl,rfl,rfl⟩
      cases e with
      |normal=>exact(he h1.symm).elim
      |_=>exact⟨h1,rfl,rfl,rfl⟩
    ·
     cases h
   |region id ops d=>
    cases d with
    |false=>
     simp only[cY] at h
     obtain⟨g0,g1,g2⟩:=ih _ _ h
     exact⟨g1,dX (g2 _ ⟨g0.symm,rfl,rfl,rfl⟩)⟩
    |true=>
     simp only[cY] at h
     split at h
     ·
      rename_i q hq
      split at h
      ·
       rename_i hc
       cases h
       obtain⟨g0,g1,g2⟩:=ih _ _ hq
       refine⟨g1,zy o.rs hm hc.1 hc.2.1 (g2 _ ⟨g0.symm,rfl,rfl,rfl⟩) ?_⟩
       have:=hc.2.2
       rw[List.all_eq_true] at this
       exact this
      ·
       cases h
     ·
      cases h
   |_=>simp[cY] at h
  |ops ops os a h0 N=>
   cases os with
   |nil=>simp only[cY] at h;cases h;exact⟨rfl,Nat.le_refl _,fun K hK=>hK⟩
   |cons op os=>
    simp only[cY] at h
    split at h
    ·
     rename_i hw
     split at h
     ·
      rename_i f vs hcp
      obtain⟨hc,hp⟩:=ll hcp
      split at h
      ·
       split at h
       ·
        rename_i hcl
        split at h
        ·
         rename_i r hr
         obtain⟨g0,g1,g2⟩:=ih _ _ h
         refine⟨g0,g1,fun K hK=>?_⟩
         simp only[bO,hw,if_true]
         exact .pure hc hp hcl (ih _ _ hr) (g2 K hK)
        ·
         cases h
       ·
        split at h
        ·
         rename_i us hv
         split at h
         ·
          rename_i r hr
          split at h
          ·
           rename_i hf
           obtain⟨g0,g1,g2⟩:=ih _ _ h
           refine⟨g0,g1,fun K hK=>?_⟩
           simp only[bO,hw,if_true]
           exact .borrow hc hp hv (ih _ _ hr) hf (g2 K hK)
          ·
           cases h
         ·
          cases h
        ·
         cases h
      ·
       split at h
       ·
        rename_i r hr
        obtain⟨g0,g1,g2⟩:=ih _ _ h
        have hcall:=ih _ _ hr
        refine⟨g0,Nat.le_trans hcall.1 g1,fun K hK=>?_⟩
        simp only[bO,hw,if_true]
        exact .call hc hp hcall (g2 K hK)
       ·
        cases h
     ·
      split at h
      ·
       rename_i v h' he
       obtain⟨g0,g1,g2⟩:=ih _ _ h
       refine⟨g0,by omega,fun K hK=>?_⟩
       simp only[bO,hw,if_true]
       exact .op he (g2 K hK)
      ·
       cases h
    ·
     rename_i hw
     obtain⟨g0,g1,g2⟩:=ih _ _ h
     refine⟨g0,g1,fun K hK=>?_⟩
     simp only[bO,hw,Bool.false_eq_true,if_false]
     exact g2 K hK
  |draw ops os a h0 N=>
   cases os with
   |nil=>simp only[cY] at h;cases h;exact⟨rfl,Nat.le_refl _,fun K hK=>hK⟩
   |cons op os=>
    simp only[cY] at h
    split at h
    ·
     rename_i r hr
     split at h
     ·
      rename_i q hq
      cases h
      obtain⟨d1,d2,d3⟩:=qM (fun t o h=>ih t o h) hr
      obtain⟨g0,g1,g2⟩:=ih _ _ hq
      exact⟨g0,Nat.le_trans d2 g1,fun K hK=>⟨d1,d3,g2 K hK⟩⟩
     ·
      cases h
    ·
     cases h
end
end Go.V
