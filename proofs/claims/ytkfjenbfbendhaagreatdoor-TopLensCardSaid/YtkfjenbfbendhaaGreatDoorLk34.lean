/-
  A part of a proof: V24.
-/
import Derived.Test.YtkfjenbfbendhaaGreatDoorLk33
set_option linter.unusedSimpArgs false
set_option linter.unusedVariables false
namespace Go.V
open Go
section
variable (C:Ctx) (sub:TTask→Option TOut)
def Da (N:Nat)(vs:List Val)(f:FuncId)(hs:Heap):Option Rec:=match vwL C.P hs 1000 vs with
 |some us=>match sub (.pure f us) with
  |some r=>match r.v.flat with
   |true=>some ⟨r.v,N,N,false,true,hs,hs⟩
   |false=>none
  |none=>none
 |none=>none
def Db (N:Nat)(vs:List Val)(f:FuncId)(hs:Heap):Option Rec:=match sub (.imp f vs hs N) with
 |some r=>match lR r.h hs N r.N with
  |true=>some ⟨r.v,N,r.N,!(aa N vs&&bc N hs),false,hs,r.h⟩
  |false=>none
 |none=>none
def BZ (h:Heap)(N:Nat)(f:FuncId)(vs:List Val):Option Rec:=match C.pureF f with
 |true=>match aE vs with
  |true=>(sub (.pure f vs)).map fun r=>⟨r.v,N,N,false,true,[],[]⟩
  |false=>Da C sub N vs f (eK h (gh h 1000 (lQ vs) []))
 |false=>Db sub N vs f (eK h (gh h 1000 (lQ vs) []))
def dEx (op:Op)(N:Nat)(hs:Heap):Option (Val×Heap)→Option Rec
 |some (v,h')=>match jc op with
  |true=>some ⟨v,N,N,false,true,hs,hs⟩
  |false=>match lR h' hs N (N+1) with
   |true=>some ⟨v,N,N+1,false,false,hs,h'⟩
   |false=>none
 |none=>none
def AM (op:Op)(n:Nat)(tr:Tr)(N:Nat)(hs:Heap):Option Rec:=dEx op N hs (nX C.P C.Γ op (evT C.Γ n tr) hs N)
def dOp (o:Oper)(n:Nat)(tr:Tr)(h:Heap)(N:Nat):Option Rec:=match AK (evT C.Γ n tr) o.op with
 |some (f,vs)=>match bL C.P f with
  |true=>BZ C sub h N f vs
  |false=>AM C o.op n tr N (eK h (fpE (evT C.Γ n tr) o.op))
 |none=>AM C o.op n tr N (eK h (fpE (evT C.Γ n tr) o.op))
def AP (ops:Array Oper)(o:Oper)(n:Nat)(tr:Tr)(h:Heap)(N:Nat):Option Rec:=match wq ops o (evT C.Γ n tr) with
 |true=>dOp C sub o n tr h N
 |false=>some ⟨uv,N,N,false,true,[],[]⟩
def F6 (r:Rec):Option TOut→Option TOut
 |some q=>some {q with rs:=r::q.rs}
 |none=>none
def ED (ops:Array Oper)(o:Oper)(os:List Oper)(n:Nat)(tr:Tr)(h:Heap):Option Rec→Option TOut
 |some r=>uc tr o.dst r.v fun tr=>F6 r (sub (.draw ops os n tr (dw h r) r.n'))
 |none=>none
def yt (ops:Array Oper)(os:List Oper)(n:Nat)(tr:Tr)(h:Heap)(N:Nat):Option TOut:=match os with
 |[]=>some ⟨.normal,uv,n,tr,h,N,[]⟩
 |o::os=>ED sub ops o os n tr h (AP C sub ops o n tr h N)
def Bc:TTask→Option TOut
 |.pure f vs=>yx C sub f vs
 |.imp f vs h N=>As C sub f vs h N
 |.code c n tr h N=>kM C sub c n tr h N
 |.ops ops os n tr h N=>C0 C sub ops os n tr h N
 |.draw ops os n tr h N=>yt C sub ops os n tr h N
end
def m8 (C:Ctx)(k:Nat):TTask→Option TOut:=Nat.rec (fun _=>none) (fun _ sub=>Bc C sub) k
theorem xS (C:Ctx)(k:Nat):m8 C (k+1)=Bc C (m8 C k):=rfl
section
variable {C:Ctx} {sub:TTask→Option TOut} {k:Nat} (hs:∀T O,sub T=some O→cY C k (tk T)=some (ot O))
include hs
theorem zG {f:FuncId}{vs:List Val}{O:TOut}(h:yx C sub f vs=some O):cY C (k+1) (.pure f vs)=some (ot O):=by
 unfold yx at h
 simp only[cY]
 split at h
 ·
  rename_i r hr
  cases h
  rw[hr]
  rfl
 ·
  rename_i hr
  rw[hr]
  split at h
  ·
   rename_i fn hf
   rw[hf]
   unfold yy at h
   split at h
   ·
    rename_i c hc
    split at h
    ·
     rename_i hft
     unfold AW at hft
     simp only[Bool.and_eq_true,Nat.ble_eq] at hft
     have e:=uU vs fn.ntmps hft.1 hft.2
     simp only[hc]
     rw[←e]
     cases hq:sub (.code c fn.ntmps (mG vs 0 .e) [] 0) with
     |none=>rw[hq] at h;cases h
     |some o=>
      rw[hq] at h
      have:=hs _ _ hq
      simp only[tk] at this
      rw[this]
      simp only[yz] at h
      split at h
      ·
       rename_i hg
       simp only
       rw[if_pos (show Exit.goes (ot o).e=true from hg)]
       simp only[ot]
       cases hv:gr C.P fn (toL o.n o.tr) o.h with
       |none=>rw[hv] at h;cases h
       |some r0=>
        rw[hv] at h
        simp only[zA] at h
        obtain⟨r,h1,rfl⟩:=map_some h
        simp[h1,CQ,yd,toL]
      ·
       cases h
    ·
     cases h
   ·
    cases h
  ·
   cases h
theorem Au {f:FuncId}{vs:List Val}{h0:Heap}{N:Nat}{O:TOut}(h:As C sub f vs h0 N=some O):cY C (k+1) (.imp f vs h0 N)=some (ot O):=by
 have body:∀{O:TOut},yw C sub f vs h0 N=some O→(match C.P.funcs[f]? with
   |some fn=>match fn.body with
    |some c=>match cY C k (.code c (vs++List.replicate (fn.ntmps-vs.length) uv) h0 N) with
     |some o=>if Exit.goes o.e=true∧N≤o.N then (gr C.P fn o.a o.h).map fun r=>(⟨.normal,r,[],eK o.h (gh o.h 1000 (h0.map (·.1)++tc r) []),o.N,[]⟩:Out) else none
     |none=>none
    |none=>none
   |none=>none)=some (ot O):=by
  intro O h
  unfold yw at h
  split at h
  ·
   rename_i fn hf
   rw[hf]
   unfold B9 at h
   split at h
   ·
    rename_i c hc
    split at h
    ·
     rename_i hft
     unfold AW at hft
     simp only[Bool.and_eq_true,Nat.ble_eq] at hft
     have e:=uU vs fn.ntmps hft.1 hft.2
     simp only[hc]
     rw[←e]
     cases hq:sub (.code c fn.ntmps (mG vs 0 .e) h0 N) with
     |none=>rw[hq] at h;cases h
     |some o=>
      rw[hq] at h
      have:=hs _ _ hq
      simp only[tk] at this
      rw[this]
      simp only[Ba] at h
      split at h
      ·
       rename_i hg
       simp only[Bool.and_eq_true,Nat.ble_eq] at hg
       simp only
       rw[if_pos (show Exit.goes (ot o).e=true∧N≤(ot o).N from hg)]
       simp only[ot]
       obtain⟨r,h1,rfl⟩:=map_some h
       rw[h1]
       rfl
      ·
       cases h
    ·
     cases h
   ·
    cases h
  ·
   cases h
 simp only[cY]
 cases hI:C.I f vs h0 N with
 |some p=>
  obtain⟨r,h',N'⟩:=p
  simp only[As,hI] at h
  cases h
  rfl
 |none=>
  simp only[As,hI] at h
  simp only
  cases hT:C.T f with
  |none=>
   simp only[hT] at h
   exact body h
  |some r=>
   rw[hT] at h
   by_cases hv:∃g first cap,vs=[.fn g first cap]
   ·
    obtain⟨g,first,cap,rfl⟩:=hv
    simp only at h ⊢
    split at h
    ·
     rename_i hpl
     rw[if_pos hpl]
     obtain⟨o,h1,rfl⟩:=map_some h
     have:=hs _ _ h1
     simp only[tk] at this
     simp[this,ot]
    ·
     cases h
   ·
    split at h
    ·
     rename_i r' g first cap e1
     exact absurd ⟨g,first,cap,rfl⟩ hv
    ·
     have hb:=body h
     split
     ·
      exact absurd ⟨_,_,_,rfl⟩ hv
     ·
      exact hb
theorem zE {c:Code}{n:Nat}{tr:Tr}{h0:Heap}{N:Nat}{O:TOut}(h:kM C sub c n tr h0 N=some O):cY C (k+1) (.code c (toL n tr) h0 N)=some (ot O):=by
 cases c with
 |skip=>simp only[kM] at h;cases h;simp only[cY];rfl
 |exit id=>simp only[kM] at h;cases h;simp only[cY];rfl
 |ret=>simp only[kM] at h;cases h;simp only[cY];rfl
 |seq x y=>
  simp only[kM] at h
  simp only[cY]
  cases hq:sub (.code x n tr h0 N) with
  |none=>rw[hq] at h;cases h
  |some o=>
   rw[hq] at h
   have:=hs _ _ hq
   simp only[tk] at this
   rw[this]
   simp only[EG] at h
   simp only[ot]
   split at h
   ·
    rename_i he
    simp only[he]
    exact hs _ _ h
   ·
    rename_i he
    cases h
    split
    ·
     rename_i he';exact absurd he' he
    ·
     rfl
 |cond c x y=>
  simp only[kM] at h
  simp only[cY]
  rw[jQ] at h
  unfold B6 at h
  split at h
  ·
   rename_i hc;simp only[hc,if_true];exact hs _ _ h
  ·
   rename_i hc;simp only[hc,Bool.false_eq_true,if_false];exact hs _ _ h
  ·
   cases h
 |block id x=>
  simp only[kM] at h
  simp only[cY]
  cases hq:sub (.code x n tr h0 N) with
  |none=>rw[hq] at h;cases h
  |some o=>
   rw[hq] at h
   have:=hs _ _ hq
   simp only[tk] at this
   rw[this]
   simp only[yr] at h
   simp only[ot]
   split at h
   ·
    rename_i id' he
    simp only[he]
    split at h
    ·
     rename_i hb
     rw[if_pos (Nat.eq_of_beq_eq_true hb)]
     cases h
     rfl
    ·
     rename_i hb
     cases h
     rw[if_neg (fun e=>by subst e;rw[Nat.beq_refl] at hb;cases hb)]
     simp[he]
   ·
    rename_i he
    cases h
    split
    ·
     rename_i id' he';exact absurd he' (he id')
    ·
     rfl
 |loop x=>
  simp only[kM] at h
  simp only[cY]
  cases hq:sub (.code x n tr h0 N) with
  |none=>rw[hq] at h;cases h
  |some o=>
   rw[hq] at h
   have:=hs _ _ hq
   simp only[tk] at this
   rw[this]
   simp only[Bb] at h
   simp only[ot]
   split at h
   ·
    rename_i he
    simp only[he]
    exact hs _ _ h
   ·
    rename_i he
    cases h
    split
    ·
     rename_i he';exact absurd he' he
    ·
     rfl
 |region id ops d=>
  simp only[kM] at h
  cases d with
  |false=>simp only at h;simp only[cY];exact hs _ _ h
  |true=>
   simp only at h
   simp only[cY]
   cases hq:sub (.draw ops ops.toList n tr h0 N) with
   |none=>rw[hq] at h;cases h
   |some o=>
    rw[hq] at h
    have:=hs _ _ hq
    simp only[tk] at this
    simp only[this]
    simp only[EF] at h
    split at h
    ·
     rename_i hb
     simp only[Bool.and_eq_true] at hb
     cases h
     rw[if_pos]
     exact⟨hb.1,hb.2.1,hb.2.2⟩
    ·
     cases h
 |_=>simp[kM] at h
theorem Aw {ops:Array Oper}{os:List Oper}{n:Nat}{tr:Tr}{h0:Heap}{N:Nat}{O:TOut}(h:C0 C sub ops os n tr h0 N=some O):cY C (k+1) (.ops ops os (toL n tr) h0 N)=some (ot O):=by
 unfold C0 at h
 split at h
 ·
  cases h;simp only[cY];rfl
 ·
  rename_i o os
  rw[jQ,uf] at h
  simp only[cY]
  split at h
  ·
   rename_i hw
   rw[if_pos hw]
   have hex:∀{O:TOut},sEx sub ops o os n tr N (nX C.P C.Γ o.op (evT C.Γ n tr) h0 N)=some O→(match bW C.P C.Γ o (toL n tr) h0 N with
     |some (v,h')=>cY C k (.ops ops os (dJ (toL n tr) o.dst v) h' (N+1))
     |none=>none)=some (ot O):=by
    intro O h
    rw[jQ,tU] at h
    unfold sEx at h
    split at h
    ·
     rename_i v h' he
     rw[he]
     obtain⟨tr',h1,h2⟩:=iM h
     have:=hs _ _ h1
     simp only[tk,h2] at this
     exact this
    ·
     cases h
   unfold sOp at h
   rw[jQ,vp] at h
   rw[←jQ] at h
   simp only[jP]
   split at h
   ·
    rename_i f vs hc
    simp only[hc]
    split at h
    ·
     rename_i hp
     simp only[hp,if_true]
     unfold B5 at h
     split at h
     ·
      rename_i hpf
      rw[if_pos hpf]
      split at h
      ·
       rename_i hcl
       rw[if_pos hcl]
       cases hq:sub (.pure f vs) with
       |none=>rw[hq] at h;cases h
       |some r=>
        rw[hq] at h
        have h3:=hs _ _ hq
        simp only[tk] at h3
        rw[h3]
        simp only[EE] at h
        obtain⟨tr',h1,h2⟩:=iM h
        have:=hs _ _ h1
        simp only[tk,h2] at this
        exact this
      ·
       rename_i hcl
       rw[if_neg (by simp[hcl])]
       split at h
       ·
        rename_i us hv
        rw[hv]
        cases hq:sub (.pure f us) with
        |none=>rw[hq] at h;cases h
        |some r=>
         rw[hq] at h
         have h3:=hs _ _ hq
         simp only[tk] at h3
         simp only[h3]
         simp only[B8] at h
         split at h
         ·
          rename_i hfl
          rw[if_pos (show(ot r).v.flat=true from hfl)]
          obtain⟨tr',h1,h2⟩:=iM h
          have:=hs _ _ h1
          simp only[tk,h2] at this
          exact this
         ·
          cases h
       ·
        cases h
     ·
      rename_i hpf
      rw[if_neg (by simp[hpf])]
      cases hq:sub (.imp f vs h0 N) with
      |none=>rw[hq] at h;cases h
      |some r=>
       rw[hq] at h
       have h3:=hs _ _ hq
       simp only[tk] at h3
       rw[h3]
       simp only[B7] at h
       obtain⟨tr',h1,h2⟩:=iM h
       have:=hs _ _ h1
       simp only[tk,h2] at this
       exact this
    ·
     rename_i hp
     simp only[hp,Bool.false_eq_true,if_false]
     exact hex h
   ·
    rename_i hc
    simp only[hc]
    exact hex h
  ·
   rename_i hw
   rw[if_neg (by simp[hw])]
   obtain⟨tr',h1,h2⟩:=iM h
   have:=hs _ _ h1
   simp only[tk,h2] at this
   exact this
theorem Av {ops:Array Oper}{o:Oper}{n:Nat}{tr:Tr}{h0:Heap}{N:Nat}{r:Rec}(h:AP C sub ops o n tr h0 N=some r):kc C (cY C k) ops o (toL n tr) h0 N=some r:=by
 unfold AP at h
 rw[jQ,uf] at h
 unfold kc
 split at h
 ·
  rename_i hw
  rw[if_pos hw]
  have hex:∀{r:Rec},AM C o.op n tr N (eK h0 (fpE (evT C.Γ n tr) o.op))=some r→(match bW C.P C.Γ o (toL n tr) (eK h0 (oy C.Γ o (toL n tr))) N with
    |some (v,h')=>if jc o.op=true then some (⟨v,N,N,false,true,eK h0 (oy C.Γ o (toL n tr)),eK h0 (oy C.Γ o (toL n tr))⟩:Rec)
     else if lR h' (eK h0 (oy C.Γ o (toL n tr))) N (N+1)=true then some ⟨v,N,N+1,false,false,eK h0 (oy C.Γ o (toL n tr)),h'⟩ else none
    |none=>none)=some r:=by
   intro r h
   unfold AM at h
   rw[jQ,CI,tU] at h
   unfold dEx at h
   split at h
   ·
    rename_i v h' he
    try rw[he]
    try simp only
    split at h
    ·
     rename_i hro;cases h;simp[hro]
    ·
     rename_i hro
     split at h
     ·
      rename_i hk;cases h;simp[hro,hk]
     ·
      cases h
   ·
    cases h
  unfold dOp at h
  rw[jQ,vp] at h
  rw[←jQ] at h
  simp only[jP]
  split at h
  ·
   rename_i f vs hc
   simp only[hc]
   split at h
   ·
    rename_i hp
    simp only[hp,if_true]
    unfold BZ at h
    split at h
    ·
     rename_i hpf
     rw[if_pos hpf]
     split at h
     ·
      rename_i hcl
      rw[if_pos hcl]
      obtain⟨q,h1,rfl⟩:=map_some h
      have h3:=hs _ _ h1
      simp only[tk] at h3
      rw[h3]
      rfl
     ·
      rename_i hcl
      rw[if_neg (by simp[hcl])]
      unfold Da at h
      split at h
      ·
       rename_i us hv
       rw[hv]
       split at h
       ·
        rename_i q h1
        have h3:=hs _ _ h1
        simp only[tk] at h3
        simp only[h3]
        split at h
        ·
         rename_i hfl
         cases h
         simp[ot,hfl]
        ·
         cases h
       ·
        cases h
      ·
       cases h
    ·
     rename_i hpf
     rw[if_neg (by simp[hpf])]
     unfold Db at h
     split at h
     ·
      rename_i q h1
      have h3:=hs _ _ h1
      simp only[tk] at h3
      simp only[h3]
      split at h
      ·
       rename_i hk
       cases h
       simp[ot,hk]
      ·
       cases h
     ·
      cases h
   ·
    rename_i hp
    simp only[hp,Bool.false_eq_true,if_false]
    exact hex h
  ·
   rename_i hc
   simp only[hc]
   exact hex h
 ·
  rename_i hw
  rw[if_neg (by simp[hw])]
  exact h
theorem zF {ops:Array Oper}{os:List Oper}{n:Nat}{tr:Tr}{h0:Heap}{N:Nat}{O:TOut}(h:yt C sub ops os n tr h0 N=some O):cY C (k+1) (.draw ops os (toL n tr) h0 N)=some (ot O):=by
 unfold yt at h
 split at h
 ·
  cases h;simp only[cY];rfl
 ·
  rename_i o os
  simp only[cY]
  cases hq:AP C sub ops o n tr h0 N with
  |none=>rw[hq] at h;cases h
  |some r=>
   rw[hq] at h
   rw[Av hs hq]
   simp only[ED] at h
   obtain⟨tr',h1,h2⟩:=iM h
   cases hz:sub (.draw ops os n tr' (dw h0 r) r.n') with
   |none=>rw[hz] at h1;cases h1
   |some q=>
    rw[hz] at h1
    have:=hs _ _ hz
    simp only[tk,h2] at this
    simp only[this]
    cases h1
    rfl
end
theorem xR {C:Ctx}:∀(k:Nat)(T:TTask)(O:TOut),m8 C k T=some O→cY C k (tk T)=some (ot O):=by
 intro k
 induction k with
 |zero=>intro T O h;cases h
 |succ k ih=>
  intro T O h
  rw[xS] at h
  cases T with
  |pure f vs=>exact zG ih h
  |imp f vs h0 N=>exact Au ih h
  |code c n tr h0 N=>exact zE ih h
  |ops ops os n tr h0 N=>exact Aw ih h
  |draw ops os n tr h0 N=>exact zF ih h
end Go.V
