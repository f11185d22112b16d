/-
  A part of a proof: V23.
-/
import Derived.Test.YtkfjenbfbendhaaGreatDoorLk32
set_option linter.unusedSimpArgs false
set_option linter.unusedVariables false
namespace Go.V
open Go
inductive Tr where
 |e
 |n (v:Option Val) (l r:Tr)
def Tr.get:Tr→Nat→Option Val
 |.e,_=>none
 |.n v l r,t=>match Nat.beq t 0 with
  |true=>v
  |false=>match Nat.beq (Nat.mod t 2) 1 with
   |true=>l.get (Nat.div t 2)
   |false=>r.get (Nat.pred (Nat.div t 2))
def Tr.set:Nat→Tr→Nat→Val→Tr
 |0,t,_,_=>t
 |f+1,.e,k,x=>match Nat.beq k 0 with
  |true=>.n (some x) .e .e
  |false=>match Nat.beq (Nat.mod k 2) 1 with
   |true=>.n none (Tr.set f .e (Nat.div k 2) x) .e
   |false=>.n none .e (Tr.set f .e (Nat.pred (Nat.div k 2)) x)
 |f+1,.n v l r,k,x=>match Nat.beq k 0 with
  |true=>.n (some x) l r
  |false=>match Nat.beq (Nat.mod k 2) 1 with
   |true=>.n v (Tr.set f l (Nat.div k 2) x) r
   |false=>.n v l (Tr.set f r (Nat.pred (Nat.div k 2)) x)
theorem Tr.get_n (v:Option Val)(l r:Tr)(t:Nat):(Tr.n v l r).get t=if t=0 then v else if t % 2=1 then l.get (t / 2) else r.get (t / 2-1):=by
 rw[Tr.get]
 by_cases h:t=0
 ·
  subst h;rfl
 ·
  have h1:Nat.beq t 0=false:=by cases hh:Nat.beq t 0;rfl;exact absurd (Nat.eq_of_beq_eq_true hh) h
  rw[h1,if_neg h]
  by_cases h2:t % 2=1
  ·
   have h3:Nat.beq (Nat.mod t 2) 1=true:=by rw[show Nat.mod t 2=1 from h2];rfl
   rw[h3,if_pos h2];rfl
  ·
   have h3:Nat.beq (Nat.mod t 2) 1=false:=by cases hh:Nat.beq (Nat.mod t 2) 1;rfl;exact absurd (Nat.eq_of_beq_eq_true hh) h2
   rw[h3,if_neg h2];rfl
theorem Tr.set_n (f:Nat)(v:Option Val)(l r:Tr)(k:Nat)(x:Val):Tr.set (f+1) (.n v l r) k x=if k=0 then .n (some x) l r else if k % 2=1 then .n v (Tr.set f l (k / 2) x) r else .n v l (Tr.set f r (k / 2-1) x):=by
 rw[Tr.set]
 by_cases h:k=0
 ·
  subst h;rfl
 ·
  have h1:Nat.beq k 0=false:=by cases hh:Nat.beq k 0;rfl;exact absurd (Nat.eq_of_beq_eq_true hh) h
  rw[h1,if_neg h]
  by_cases h2:k % 2=1
  ·
   have h3:Nat.beq (Nat.mod k 2) 1=true:=by rw[show Nat.mod k 2=1 from h2];rfl
   rw[h3,if_pos h2];rfl
  ·
   have h3:Nat.beq (Nat.mod k 2) 1=false:=by cases hh:Nat.beq (Nat.mod k 2) 1;rfl;exact absurd (Nat.eq_of_beq_eq_true hh) h2
   rw[h3,if_neg h2];rfl
theorem Tr.set_e (f:Nat)(k:Nat)(x:Val):Tr.set (f+1) .e k x=Tr.set (f+1) (.n none .e .e) k x:=by rw[Tr.set,Tr.set]
theorem Tr.get_ne (t:Nat):(Tr.n none .e .e).get t=none:=by rw[Tr.get_n];split;rfl;split<;>rfl
theorem Tr.get_set:∀(f:Nat)(tr:Tr)(k:Nat)(x:Val)(j:Nat),k+1<2 ^ f→(Tr.set f tr k x).get j=if j=k then some x else tr.get j:=by
 intro f
 induction f with
 |zero=>intro tr k x j h;simp at h
 |succ f ih=>
  intro tr k x j h
  rw[Nat.pow_succ] at h
  have key:∀v l r,(Tr.set (f+1) (.n v l r) k x).get j=if j=k then some x else (Tr.n v l r).get j:=by
   intro v l r
   rw[Tr.set_n]
   by_cases hk:k=0
   ·
    subst hk
    rw[if_pos rfl,Tr.get_n,Tr.get_n]
    by_cases hj:j=0<;>simp[hj]
   ·
    rw[if_neg hk]
    by_cases h2:k % 2=1
    ·
     rw[if_pos h2,Tr.get_n,Tr.get_n,ih _ _ _ _ (by omega)]
     by_cases hj:j=0
     ·
      have:¬j=k:=by omega
      simp[hj];intro h;omega
     ·
      rw[if_neg hj,if_neg hj]
      by_cases h3:j % 2=1
      ·
       rw[if_pos h3,if_pos h3]
       by_cases h4:j=k
       ·
        rw[if_pos h4,if_pos (by omega)]
       ·
        rw[if_neg h4,if_neg (by omega)]
      ·
       rw[if_neg h3,if_neg h3,if_neg (by omega)]
    ·
     rw[if_neg h2,Tr.get_n,Tr.get_n,ih _ _ _ _ (by omega)]
     by_cases hj:j=0
     ·
      have:¬j=k:=by omega
      simp[hj];intro h;omega
     ·
      rw[if_neg hj,if_neg hj]
      by_cases h3:j % 2=1
      ·
       rw[if_pos h3,if_pos h3,if_neg (by omega)]
      ·
       rw[if_neg h3,if_neg h3]
       by_cases h4:j=k
       ·
        rw[if_pos h4,if_pos (by omega)]
       ·
        rw[if_neg h4,if_neg (by omega)]
  cases tr with
  |e=>rw[Tr.set_e,key,Tr.get_ne];rfl
  |n v l r=>exact key v l r
def toL (n:Nat)(tr:Tr):List Val:=(List.range n).map fun t=>match tr.get t with
 |some v=>v
 |none=>uv
theorem oT (n:Nat)(tr:Tr)(t:Nat):(toL n tr)[t]?=if t<n then some (match tr.get t with|some v=>v|none=>uv) else none:=by
 unfold toL
 rw[List.getElem?_map]
 split
 ·
  rename_i h;rw[List.getElem?_range h];rfl
 ·
  rename_i h;rw[List.getElem?_eq_none (by simpa using h)];rfl
theorem BA (n:Nat)(tr:Tr):(toL n tr).length=n:=by simp[toL]
theorem BB (n:Nat)(tr:Tr)(d:Nat)(v:Val)(hd:d<1000):(toL n tr).set d v=toL n (Tr.set 10 tr d v):=by
 apply List.ext_getElem?
 intro t
 rw[oT,List.getElem?_set,oT,BA,Tr.get_set _ _ _ _ _ (by omega)]
 by_cases h:d=t
 ·
  subst h;simp
 ·
  have h':¬t=d:=fun e=>h e.symm
  simp[h,h']
def mG:List Val→Nat→Tr→Tr
 |[],_,tr=>tr
 |v::vs,i,tr=>mG vs (Nat.succ i) (Tr.set 10 tr i v)
theorem qr:∀(vs:List Val)(i:Nat)(tr:Tr)(t:Nat),i+vs.length≤1000→(mG vs i tr).get t=if i≤t then (match vs[t-i]? with|some v=>some v|none=>tr.get t) else tr.get t
 |[],i,tr,t,_=>by simp[mG]
 |v::vs,i,tr,t,h=>by
  simp only[List.length_cons] at h
  rw[mG,qr vs _ _ t (by simp only[Nat.succ_eq_add_one];omega),Tr.get_set _ _ _ _ _ (by omega)]
  simp only[Nat.succ_eq_add_one]
  by_cases h1:i+1≤t
  ·
   have e:¬t=i:=by omega
   have e2:i≤t:=by omega
   have e3:(v::vs)[t-i]?=vs[t-(i+1)]?:=by rw[show t-i=(t-(i+1))+1 by omega,List.getElem?_cons_succ]
   simp only[if_pos h1,if_neg e,if_pos e2,e3]
  ·
   rw[if_neg h1]
   by_cases h2:t=i
   ·
    subst h2;simp
   ·
    rw[if_neg h2,if_neg (by omega)]
theorem uU (vs:List Val)(n:Nat)(h:vs.length≤n)(hn:n≤1000):toL n (mG vs 0 .e)=vs++List.replicate (n-vs.length) uv:=by
 apply List.ext_getElem?
 intro t
 rw[oT,qr _ _ _ _ (by omega)]
 simp only[Nat.zero_le,if_true,Nat.sub_zero]
 by_cases h1:t<vs.length
 ·
  rw[if_pos (by omega),List.getElem?_append_left h1,List.getElem?_eq_getElem h1]
 ·
  rw[List.getElem?_append_right (by omega),List.getElem?_eq_none (by omega),List.getElem?_replicate]
  by_cases h2:t<n
  ·
   rw[if_pos h2,if_pos (by omega)];rfl
  ·
   rw[if_neg h2,if_neg (by omega)]
inductive TTask where
 |pure (f:FuncId) (vs:List Val)
 |imp (f:FuncId) (vs:List Val) (h:Heap) (N:Nat)
 |code (c:Code) (n:Nat) (tr:Tr) (h:Heap) (N:Nat)
 |ops (ops:Array Oper) (os:List Oper) (n:Nat) (tr:Tr) (h:Heap) (N:Nat)
 |draw (ops:Array Oper) (os:List Oper) (n:Nat) (tr:Tr) (h:Heap) (N:Nat)
structure TOut where
 e:Exit
 v:Val
 n:Nat
 tr:Tr
 h:Heap
 N:Nat
 rs:List Rec
def tk:TTask→Task
 |.pure f vs=>.pure f vs
 |.imp f vs h N=>.imp f vs h N
 |.code c n tr h N=>.code c (toL n tr) h N
 |.ops ops os n tr h N=>.ops ops os (toL n tr) h N
 |.draw ops os n tr h N=>.draw ops os (toL n tr) h N
def ot (o:TOut):Out:=⟨o.e,o.v,toL o.n o.tr,o.h,o.N,o.rs⟩
def evT {P:Program}(Γ:Glo P)(n:Nat)(tr:Tr):Operand→Option Val
 |.tmp t=>match Nat.blt t n with
  |true=>match tr.get t with
   |some v=>some v
   |none=>some uv
  |false=>none
 |.const v=>ofV v
 |.global g=>(Γ.g g).map .pp
 |.func f=>some (.fn f [] [])
theorem jQ {P:Program}(Γ:Glo P)(n:Nat)(tr:Tr):evT Γ n tr=ev Γ (toL n tr):=by
 funext x
 cases x with
 |tmp t=>
  simp only[evT,ev,oT]
  by_cases h:t<n
  ·
   have:Nat.blt t n=true:=by simpa[Nat.blt_eq] using h
   rw[this,if_pos h]
   cases tr.get t<;>rfl
  ·
   have:Nat.blt t n=false:=by cases hh:Nat.blt t n;rfl;exact absurd (by simpa[Nat.blt_eq] using hh) h
   rw[this,if_neg h]
 |const v=>rfl
 |global g=>rfl
 |func f=>rfl
def uc {β:Type}(tr:Tr)(dst:Option Tmp)(v:Val)(k:Tr→Option β):Option β:=match dst with
 |some d=>match Nat.blt d 1000 with
  |true=>k (Tr.set 10 tr d v)
  |false=>none
 |none=>k tr
theorem iM {β:Type}{tr:Tr}{dst:Option Tmp}{v:Val}{k:Tr→Option β}{r:β}(h:uc tr dst v k=some r):∃tr',k tr'=some r∧∀n,toL n tr'=dJ (toL n tr) dst v:=by
 unfold uc at h
 cases dst with
 |none=>exact⟨tr,h,fun n=>rfl⟩
 |some d=>
  simp only at h
  split at h
  ·
   rename_i hd
   exact⟨_,h,fun n=>(BB n tr d v (by simpa[Nat.blt_eq] using hd)).symm⟩
  ·
   cases h
def GA (ops:Array Oper)(e:Operand→Option Val)(j:Nat):Option Bool:=match ops[j]? with
 |some o=>match o.dst with
  |some d=>match e (.tmp d) with
   |some (.bool b)=>some b
   |some (.jk (.bool b))=>some b
   |_=>none
  |none=>none
 |none=>none
def wq (ops:Array Oper)(o:Oper)(e:Operand→Option Val):Bool:=match o.guard with
 |none=>true
 |some (j,want)=>GA ops e j==some want
theorem uf {P:Program}(Γ:Glo P)(ops:Array Oper)(o:Oper)(a:List Val):wq ops o (ev Γ a)=aO ops o a:=by
 unfold wq aO
 cases o.guard with
 |none=>rfl
 |some p=>rfl
def BY (e:Operand→Option Val)(c:Call):Option (FuncId×List Val):=match c.callee with
 |.value f=>match e f,exL e c.args.toList with
  |some (.fn g first cap),some vs=>some (g,first++vs++cap)
  |_,_=>none
 |_=>none
def AK (e:Operand→Option Val)(op:Op):Option (FuncId×List Val):=match op with
 |.call c=>BY e c
 |_=>none
theorem vp {P:Program}(Γ:Glo P)(o:Oper)(a:List Val):AK (ev Γ a) o.op=callee Γ a o:=by
 obtain⟨d,op,t,p,af,g⟩:=o
 cases op with
 |call c=>
  obtain⟨ce,args,ts⟩:=c
  cases ce with
  |value f=>simp only[AK,BY,callee,ry];rfl
  |_=>rfl
 |_=>rfl
def fpE (e:Operand→Option Val)(op:Op):List Nat:=
 match op with
 |.load ..|.store ..|.lookup ..|.mapUpdate ..|.slice ..=>op.operands.toList.flatMap fun x=>match e x with
  |some (.pr id _)|some (.so id _ _ _)|some (.mp id)=>[id]
  |_=>[]
 |.call ⟨.builtin _,args,_⟩=>args.toList.flatMap fun x=>match e x with
  |some (.pr id _)|some (.so id _ _ _)|some (.mp id)=>[id]
  |_=>[]
 |_=>[]
theorem CI {P:Program}(Γ:Glo P)(o:Oper)(a:List Val):fpE (ev Γ a) o.op=oy Γ o a:=by
 obtain⟨d,op,t,p,af,g⟩:=o
 cases op with
 |call c=>
  obtain⟨ce,args,ts⟩:=c
  cases ce<;>rfl
 |_=>rfl
section
variable (C:Ctx) (sub:TTask→Option TOut)
def CQ (v:Val):TOut:=⟨.normal,v,0,.e,[],0,[]⟩
def zA (o:TOut):Option Val→Option TOut
 |some r0=>(vw C.P o.h 1000 r0).map CQ
 |none=>none
def yz (fn:Func):Option TOut→Option TOut
 |some o=>match Exit.goes o.e with
  |true=>zA C o (gr C.P fn (toL o.n o.tr) o.h)
  |false=>none
 |none=>none
def AW (vs:List Val)(n:Nat):Bool:=Nat.ble vs.length n&&Nat.ble n 1000
def yy (vs:List Val)(fn:Func):Option TOut:=match fn.body with
 |some c=>match AW vs fn.ntmps with
  |true=>yz C fn (sub (.code c fn.ntmps (mG vs 0 .e) [] 0))
  |false=>none
 |none=>none
def yx (f:FuncId)(vs:List Val):Option TOut:=match C.S f vs with
 |some r=>some (CQ r)
 |none=>match C.P.funcs[f]? with
  |some fn=>yy C sub vs fn
  |none=>none
def Ba (h:Heap)(N:Nat)(fn:Func):Option TOut→Option TOut
 |some o=>match Exit.goes o.e&&Nat.ble N o.N with
  |true=>(gr C.P fn (toL o.n o.tr) o.h).map fun r=>⟨.normal,r,0,.e,eK o.h (gh o.h 1000 (h.map (·.1)++tc r) []),o.N,[]⟩
  |false=>none
 |none=>none
def B9 (vs:List Val)(h:Heap)(N:Nat)(fn:Func):Option TOut:=match fn.body with
 |some c=>match AW vs fn.ntmps with
  |true=>Ba C h N fn (sub (.code c fn.ntmps (mG vs 0 .e) h N))
  |false=>none
 |none=>none
def yw (f:FuncId)(vs:List Val)(h:Heap)(N:Nat):Option TOut:=match C.P.funcs[f]? with
 |some fn=>B9 C sub vs h N fn
 |none=>none
def As (f:FuncId)(vs:List Val)(h:Heap)(N:Nat):Option TOut:=match C.I f vs h N with
 |some (r,h',N')=>some ⟨.normal,r,0,.e,h',N',[]⟩
 |none=>match C.T f,vs with
  |some r,[.fn g first cap]=>match bL C.P g with
   |true=>(sub (.imp g (first++cap) h N)).map fun o=>{o with v:=r}
   |false=>none
  |_,_=>yw C sub f vs h N
def EG (y:Code):Option TOut→Option TOut
 |some o=>match o.e with
  |.normal=>sub (.code y o.n o.tr o.h o.N)
  |_=>some o
 |none=>none
def B6 (x y:Code)(n:Nat)(tr:Tr)(h:Heap)(N:Nat):Option Val→Option TOut
 |some (.bool true)=>sub (.code x n tr h N)
 |some (.bool false)=>sub (.code y n tr h N)
 |_=>none
def yr (id:Nat):Option TOut→Option TOut
 |some o=>match o.e with
  |.exit id'=>match Nat.beq id' id with
   |true=>some {o with e:=.normal}
   |false=>some o
  |_=>some o
 |none=>none
def Bb (x:Code):Option TOut→Option TOut
 |some o=>match o.e with
  |.normal=>sub (.code (.loop x) o.n o.tr o.h o.N)
  |_=>some o
 |none=>none
def Dz:Rec:=⟨uv,0,0,false,true,[],[]⟩
def EF (ops:Array Oper):Option TOut→Option TOut
 |some o=>match ti ops&&(jr ops&&(lI ops).all (fun p=>mV (o.rs.getD p.1 Dz) (o.rs.getD p.2 Dz))) with
  |true=>some o
  |false=>none
 |none=>none
def kM (c:Code)(n:Nat)(tr:Tr)(h:Heap)(N:Nat):Option TOut:=match c with
 |.skip=>some ⟨.normal,uv,n,tr,h,N,[]⟩
 |.exit id=>some ⟨.exit id,uv,n,tr,h,N,[]⟩
 |.ret=>some ⟨.ret,uv,n,tr,h,N,[]⟩
 |.seq x y=>EG sub y (sub (.code x n tr h N))
 |.cond c x y=>B6 sub x y n tr h N (evT C.Γ n tr c)
 |.block id x=>yr id (sub (.code x n tr h N))
 |.loop x=>Bb sub x (sub (.code x n tr h N))
 |.region _ ops d=>match d with
  |false=>sub (.ops ops ops.toList n tr h N)
  |true=>EF ops (sub (.draw ops ops.toList n tr h N))
 |_=>none
def EE (ops:Array Oper)(o:Oper)(os:List Oper)(n:Nat)(tr:Tr)(h:Heap)(N:Nat):Option TOut→Option TOut
 |some r=>uc tr o.dst r.v fun tr=>sub (.ops ops os n tr h N)
 |none=>none
def B8 (ops:Array Oper)(o:Oper)(os:List Oper)(n:Nat)(tr:Tr)(h:Heap)(N:Nat):Option TOut→Option TOut
 |some r=>match r.v.flat with
  |true=>uc tr o.dst r.v fun tr=>sub (.ops ops os n tr h N)
  |false=>none
 |none=>none
def B7 (ops:Array Oper)(o:Oper)(os:List Oper)(n:Nat)(tr:Tr):Option TOut→Option TOut
 |some r=>uc tr o.dst r.v fun tr=>sub (.ops ops os n tr r.h r.N)
 |none=>none
def B5 (ops:Array Oper)(o:Oper)(os:List Oper)(n:Nat)(tr:Tr)(h:Heap)(N:Nat)(f:FuncId)(vs:List Val):Option TOut:=match C.pureF f with
 |true=>match aE vs with
  |true=>EE sub ops o os n tr h N (sub (.pure f vs))
  |false=>match vwL C.P h 1000 vs with
   |some us=>B8 sub ops o os n tr h N (sub (.pure f us))
   |none=>none
 |false=>B7 sub ops o os n tr (sub (.imp f vs h N))
def sEx (ops:Array Oper)(o:Oper)(os:List Oper)(n:Nat)(tr:Tr)(N:Nat):Option (Val×Heap)→Option TOut
 |some (v,h')=>uc tr o.dst v fun tr=>sub (.ops ops os n tr h' (Nat.succ N))
 |none=>none
def sOp (ops:Array Oper)(o:Oper)(os:List Oper)(n:Nat)(tr:Tr)(h:Heap)(N:Nat):Option TOut:=match AK (evT C.Γ n tr) o.op with
 |some (f,vs)=>match bL C.P f with
  |true=>B5 C sub ops o os n tr h N f vs
  |false=>sEx sub ops o os n tr N (nX C.P C.Γ o.op (evT C.Γ n tr) h N)
 |none=>sEx sub ops o os n tr N (nX C.P C.Γ o.op (evT C.Γ n tr) h N)
def C0 (ops:Array Oper)(os:List Oper)(n:Nat)(tr:Tr)(h:Heap)(N:Nat):Option TOut:=match os with
 |[]=>some ⟨.normal,uv,n,tr,h,N,[]⟩
 |o::os=>match wq ops o (evT C.Γ n tr) with
  |true=>sOp C sub ops o os n tr h N
  |false=>uc tr o.dst uv fun tr=>sub (.ops ops os n tr h N)
end
end Go.V
