/-
  A part of a proof: M3 M4 M5 M6 M7 M8.
-/
import Derived.Test.YtkfjenbfbendhaaGreatDoorPk11
import Derived.Test.YtkfjenbfbendhaaGreatDoorPk15
import Derived.Test.YtkfjenbfbendhaaGreatDoorPk22
import Derived.Test.YtkfjenbfbendhaaGreatDoorPk23
import Derived.Test.YtkfjenbfbendhaaGreatDoorPk26
import Derived.Test.YtkfjenbfbendhaaGreatDoorPk46
set_option linter.unusedSimpArgs false
set_option linter.unusedVariables false
section
set_option maxHeartbeats 4000000
namespace Go.V
open Go Go.Proofs
attribute [local irreducible] W bM WD aO yl aU bU
section
variable (Γ:Glo Tryz.prog)
attribute [local simp] veq bD eD V.del
theorem pg (x:Int)(j:Jn):∀(l:List Jn)(i:Nat),ej x i (l++[j])=ej x i l++(if x=j.src then [⟨((i+l.length:Nat):Int),false⟩] else if x=j.dst then [⟨((i+l.length:Nat):Int),true⟩] else [])
 |[],i=>by simp only[List.nil_append,ej,List.length_nil,Nat.add_zero]
 |y::l,i=>by
  simp only[List.cons_append,ej,pg x j l (i+1),List.length_cons];rw[show i+1+l.length=i+(l.length+1) by omega];generalize (if x=j.src then [⟨((i+(l.length+1):Nat):Int),false⟩] else if x=j.dst then [⟨((i+(l.length+1):Nat):Int),true⟩] else ([]:List Hop))=t;split
  ·rfl
  ·split<;>rfl
theorem ko (x:Int):∀(l:List Jn)(i:Nat),(ej x i l).length≤l.length
 |[],_=>Nat.le_refl _
 |y::l,i=>by
  have:=ko x l (i+1);rw[ej];split
  ·simp;omega
  ·split
   ·simp;omega
   ·simp;omega
@[simp] theorem Ls (i:Int):cU Tryz.prog 92 [(0,.int .i64 i)]=some [.int .i64 i,.bool false]:=by kernel_rfl
@[simp] theorem Lt (i:Int)(b:Bool):cU Tryz.prog 92 [(0,.int .i64 i),(1,.bool b)]=some [.int .i64 i,.bool b]:=by kernel_rfl
@[simp] theorem Jj (x y:Val)(h:Heap)(i:Nat):av Tryz.prog 57 1 [(0,.ag [x,y])] h i=some (.so i 0 1 (some 1),V.put h i (.cells [x,y] 92 false)):=by kernel_rfl
theorem w92 (r:Reg)(x:Int)(hb:r.joins.length<1000000)(c:Code)(hc:Tryz.f92.body=some c)(a:List Val)(hl:a.length=37)(g0:lk a 0=some (.ag (bN r)))(g1:lk a 1=some (.int .i64 x)) :
  W Tryz.prog Γ c a [] 0 (fun e' a' h' _=>(e'=.normal∨e'=.ret)∧lk a' 4=some (gV 7 (dF r x))∧∀i b,get (gH bn 7 92 (dF r x)) i=some b→get h' i=some b):=by
 cases hc;unfold dF;obtain⟨S,J⟩:=r;simp only at *
 refine GG ?_;refine mo [(6,7),(12,35)] [11,5] 8 (fun k a h=>∃pre rest,J=pre++rest∧k=rest.length∧lk a 11=some (.int .i64 pre.length)∧lk a 5=some (gV 7 (ej x 0 pre))∧h=(0,.cells (bN ⟨S,J⟩) 50 false)::gH bn 7 92 (ej x 0 pre)) (by omega) ⟨[],J,rfl,rfl,by simp[*],by simp[*,ej,gV],rfl⟩ ?_;intro a1 hk hk0 k a h hF hI;replace g1:=hF.a hk 1;replace g9:=hF.a hk 9;replace g10:=hF.a hk 10;replace hl:a.length=37:=hF.len.trans (hk0.trans (by simp[*]));clear hk hk0;obtain⟨pre,rest,rfl,rfl,h11,h5,rfl⟩:=hI;cases rest with
 |nil=>
  simp only[List.append_nil] at *
  generalize ej x 0 pre=out at *
  rcases cz bn 2 dH dQ e9 7 92 out with ⟨_,e1,e2,e3⟩|⟨n,cs,hn,hcs,e1,e2,e3,c1,c2,c3⟩<;>rw[e1] at h5 ⊢ <;> rw[e2]<;>clear e1 e2 e3
  ·refine GG ?_;exact⟨by simp,by simp[*],fun i b hi=>by cases hi⟩
  ·refine GG ?_;exact⟨by simp,by simp[*],(by (repeat (first|exact aP|refine aK (by simp[V.get, *]) ?_)))⟩
 |cons j r=>
  have hlt:(pre.length:Int)<pre.length+(r.length+1):=(by omega);have hw:=ac ((pre.length:Int)+1) (by simp at hb;omega) (by simp at hb;omega);have hlen:=ko x pre 0;have hsn:=pg x j pre 0;rw[Nat.zero_add] at hsn;have hle:1≤3+r.length*3:=(by omega);generalize ej x 0 pre=out at *
  have hln:out.length<1000000:=(by simp at hb;omega);clear hlen;by_cases q1:x=j.src
  ·subst q1;rw[if_pos rfl] at hsn;rcases cz bn 2 dH dQ e9 7 92 out with ⟨rfl,e1,e2,e3⟩|⟨n,cs,hn,hcs,e1,e2,e3,c1,c2,c3⟩<;>rw[e1] at h5<;>rw[e2]
   ·refine GG ?_
    ·exact⟨(by (repeat refine Frm.set ?_ rfl);exact hF),[(24,7)],[(0,.cells (bN ⟨S,pre++j::r⟩) 50 false),(24,.cells [.int .i64 pre.length,.bool false] 92 true)],(by (repeat (first|exact aP|refine aK (by simp[V.get, *]) ?_))),(by simp),(by simp),(by simp[*,aS,aV,aD]),(by simp[*,bW,cN,aS,aV,aD]),_,rfl,fun a2 hF2 hL2=>⟨pre++[j],r,by simp,rfl,((hL2 11 (by simp)).trans (by simp[*]<;>omega)),(hL2 5 (by simp)).trans (by simp[*,gV]),by simp[*,gH,row,bn]⟩⟩
   ·have hn2:(n+1)*16≤140737488355328:=(by unfold Hid at hn;omega);have hnl:¬(n+1)*2≤n*2:=(by omega);have hta:List.take (n*2) cs=cs:=List.take_of_length_le (by omega);refine GG ?_
    ·exact⟨(by (repeat refine Frm.set ?_ rfl);exact hF),[(24,7)],[(0,.cells (bN ⟨S,pre++j::r⟩) 50 false),(24,.cells (cs++[.int .i64 pre.length,.bool false]) 92 true)],(by (repeat (first|exact aP|refine aK (by simp[V.get, *]) ?_))),(by simp),(by simp),(by simp[*,aS,aV,aD]),(by simp[*,bW,cN,aS,aV,aD]),_,rfl,fun a2 hF2 hL2=>⟨pre++[j],r,by simp,rfl,((hL2 11 (by simp)).trans (by simp[*]<;>omega)),(hL2 5 (by simp)).trans (by unfold Hid at hn;simp[*,jQ]),by unfold Hid at hcs;simp[*,ga,bn]⟩⟩
  ·rw[if_neg q1] at hsn;by_cases q2:x=j.dst
   ·subst q2;rw[if_pos rfl] at hsn;rcases cz bn 2 dH dQ e9 7 92 out with ⟨rfl,e1,e2,e3⟩|⟨n,cs,hn,hcs,e1,e2,e3,c1,c2,c3⟩<;>rw[e1] at h5<;>rw[e2]
    ·refine GG ?_
     ·exact⟨(by (repeat refine Frm.set ?_ rfl);exact hF),[(28,7)],[(0,.cells (bN ⟨S,pre++j::r⟩) 50 false),(28,.cells [.int .i64 pre.length,.bool true] 92 true)],(by (repeat (first|exact aP|refine aK (by simp[V.get, *]) ?_))),(by simp),(by simp),(by simp[*,aS,aV,aD]),(by simp[*,bW,cN,aS,aV,aD]),_,rfl,fun a2 hF2 hL2=>⟨pre++[j],r,by simp,rfl,((hL2 11 (by simp)).trans (by simp[*]<;>omega)),(hL2 5 (by simp)).trans (by simp[*,gV]),by simp[*,gH,row,bn]⟩⟩
    ·have hn2:(n+1)*16≤140737488355328:=(by unfold Hid at hn;omega);have hnl:¬(n+1)*2≤n*2:=(by omega);have hta:List.take (n*2) cs=cs:=List.take_of_length_le (by omega);refine GG ?_
     ·exact⟨(by (repeat refine Frm.set ?_ rfl);exact hF),[(28,7)],[(0,.cells (bN ⟨S,pre++j::r⟩) 50 false),(28,.cells (cs++[.int .i64 pre.length,.bool true]) 92 true)],(by (repeat (first|exact aP|refine aK (by simp[V.get, *]) ?_))),(by simp),(by simp),(by simp[*,aS,aV,aD]),(by simp[*,bW,cN,aS,aV,aD]),_,rfl,fun a2 hF2 hL2=>⟨pre++[j],r,by simp,rfl,((hL2 11 (by simp)).trans (by simp[*]<;>omega)),(hL2 5 (by simp)).trans (by unfold Hid at hn;simp[*,jQ]),by unfold Hid at hcs;simp[*,ga,bn]⟩⟩
   ·rw[if_neg q2,List.append_nil] at hsn;rcases cz bn 2 dH dQ e9 7 92 out with ⟨rfl,e1,e2,e3⟩|⟨n,cs,hn,hcs,e1,e2,e3,c1,c2,c3⟩<;>rw[e1] at h5<;>rw[e2]
    ·refine GG ?_
     ·exact⟨(by (repeat refine Frm.set ?_ rfl);exact hF),[],[(0,.cells (bN ⟨S,pre++j::r⟩) 50 false)],(by (repeat (first|exact aP|refine aK (by simp[V.get, *]) ?_))),(by simp),(by simp),(by simp[*,aS,aV,aD]),(by simp[*,bW,cN,aS,aV,aD]),_,rfl,fun a2 hF2 hL2=>⟨pre++[j],r,by simp,rfl,((hL2 11 (by simp)).trans (by simp[*]<;>omega)),(hL2 5 (by simp)).trans (by simp[*,gV]),by simp[*,gH,row,bn]⟩⟩
    ·refine GG ?_
     ·exact⟨(by (repeat refine Frm.set ?_ rfl);exact hF),[(7,7)],[(0,.cells (bN ⟨S,pre++j::r⟩) 50 false),(7,.cells cs 92 true)],(by (repeat (first|exact aP|refine aK (by simp[V.get, *]) ?_))),(by simp),(by simp),(by simp[*,aS,aV,aD]),(by simp[*,bW,cN,aS,aV,aD]),_,rfl,fun a2 hF2 hL2=>⟨pre++[j],r,by simp,rfl,((hL2 11 (by simp)).trans (by simp[*]<;>omega)),(hL2 5 (by simp)).trans (by simp[*]),by simp[*]⟩⟩
theorem f92 (r:Reg)(x:Int)(hb:r.joins.length<1000000):PureOk Tryz.prog Γ 92 [.ag (bN r),.int .i64 x] (sls bn (dF r x)):=by
 refine PureOk.wk ?_ (oA bn (dF r x));refine iA Tryz.func92 rfl (by simp[Tryz.f92]) fun a hla ha=>(w92 Γ r x hb _ rfl a hla (ha 0 _ rfl) (ha 1 _ rfl)).mono ?_
 rintro e' a' h' _ ⟨g1,g2,g3⟩;refine⟨g1,_,3+(row bn (dF r x)).length,(by simp[Tryz.f92,g2];rfl),?_⟩;generalize dF r x=out at *
 rcases cz bn 2 dH dQ e9 7 92 out with ⟨rfl,e1,e2,e3⟩|⟨n,cs,hn,hcs,e1,e2,e3,c1,c2,c3⟩
 ·rw[e1,e3];rfl
 ·rw[e1,e3];rw[e2] at g3;have hg:=g3 7 (.cells cs 92 true) (by simp[get]);unfold Hid at hcs;rw[←hcs,show 3+cs.length=(2+cs.length)+1 by omega];exact dD hg (by simp[c1]) c2 (by omega)
theorem ph (x:Int)(j:Jn):∀(l:List Jn)(i:Nat),gQ x i (l++[j])=gQ x i l++(if j.src=x∨j.dst=x then [⟨((i+l.length:Nat):Int),decide (j.dst=x)⟩] else [])
 |[],i=>by simp only[List.nil_append,gQ,List.length_nil,Nat.add_zero]
 |y::l,i=>by simp only[List.cons_append,gQ,ph x j l (i+1),List.length_cons];rw[show i+1+l.length=i+(l.length+1) by omega];generalize (if j.src=x∨j.dst=x then [⟨((i+(l.length+1):Nat):Int),decide (j.dst=x)⟩] else ([]:List Hop))=t;split<;>rfl
theorem rQ (x:Int):∀(l:List Jn)(i:Nat),(gQ x i l).length≤l.length
 |[],_=>Nat.le_refl _
 |y::l,i=>by have:=rQ x l (i+1);rw[gQ];split<;>simp<;>omega
theorem w90 (r:Reg)(x:Int)(hb:r.joins.length<1000000)(c:Code)(hc:Tryz.f90.body=some c)(a:List Val)(hl:a.length=37)(g0:lk a 0=some (.ag (bN r)))(g1:lk a 1=some (.int .i64 x)) :
  W Tryz.prog Γ c a [] 0 (fun e' a' h' _=>(e'=.normal∨e'=.ret)∧lk a' 4=some (gV 7 (hopsT r x))∧∀i b,get (gH bn 7 92 (hopsT r x)) i=some b→get h' i=some b):=by
 cases hc;unfold hopsT;obtain⟨S,J⟩:=r;simp only at *
 refine GG ?_;refine mo [(6,7),(12,35)] [11,5] 8 (fun k a h=>∃pre rest,J=pre++rest∧k=rest.length∧lk a 11=some (.int .i64 pre.length)∧lk a 5=some (gV 7 (gQ x 0 pre))∧h=(0,.cells (bN ⟨S,J⟩) 50 false)::gH bn 7 92 (gQ x 0 pre)) (by omega) ⟨[],J,rfl,rfl,by simp[*],by simp[*,gQ,gV],rfl⟩ ?_;intro a1 hk hk0 k a h hF hI;replace g1:=hF.a hk 1;replace g9:=hF.a hk 9;replace g10:=hF.a hk 10;replace hl:a.length=37:=hF.len.trans (hk0.trans (by simp[*]));clear hk hk0;obtain⟨pre,rest,rfl,rfl,h11,h5,rfl⟩:=hI;cases rest with
 |nil=>
  simp only[List.append_nil] at *
  generalize gQ x 0 pre=out at *
  rcases cz bn 2 dH dQ e9 7 92 out with ⟨_,e1,e2,e3⟩|⟨n,cs,hn,hcs,e1,e2,e3,c1,c2,c3⟩<;>rw[e1] at h5 ⊢ <;> rw[e2]<;>clear e1 e2 e3
  ·refine GG ?_;exact⟨by simp,by simp[*],fun i b hi=>by cases hi⟩
  ·refine GG ?_;exact⟨by simp,by simp[*],(by (repeat (first|exact aP|refine aK (by simp[V.get, *]) ?_)))⟩
 |cons j r=>
  have hlt:(pre.length:Int)<pre.length+(r.length+1):=(by omega);have hw:=ac ((pre.length:Int)+1) (by simp at hb;omega) (by simp at hb;omega);have hlen:=rQ x pre 0;have hsn:=ph x j pre 0;rw[Nat.zero_add] at hsn;have hle:1≤3+r.length*3:=(by omega);generalize gQ x 0 pre=out at *
  have hln:out.length<1000000:=(by simp at hb;omega);clear hlen;by_cases q1:j.src=x
  ·rw[if_pos (.inl q1)] at hsn;generalize hd:decide (j.dst=x)=bd at *
   rcases cz bn 2 dH dQ e9 7 92 out with ⟨rfl,e1,e2,e3⟩|⟨n,cs,hn,hcs,e1,e2,e3,c1,c2,c3⟩<;>rw[e1] at h5<;>rw[e2]
   ·refine GG ?_
    ·exact⟨(by (repeat refine Frm.set ?_ rfl);exact hF),[(29,7)],[(0,.cells (bN ⟨S,pre++j::r⟩) 50 false),(29,.cells [.int .i64 pre.length,.bool bd] 92 true)],(by (repeat (first|exact aP|refine aK (by simp[V.get, *]) ?_))),(by simp),(by simp),(by simp[*,aS,aV,aD]),(by simp[*,bW,cN,aS,aV,aD]),_,rfl,fun a2 hF2 hL2=>⟨pre++[j],r,by simp,rfl,((hL2 11 (by simp)).trans (by simp[*]<;>omega)),(hL2 5 (by simp)).trans (by simp[*,gV]),by simp[*,gH,row,bn]⟩⟩
   ·have hn2:(n+1)*16≤140737488355328:=(by unfold Hid at hn;omega);have hnl:¬(n+1)*2≤n*2:=(by omega);have hta:List.take (n*2) cs=cs:=List.take_of_length_le (by omega);refine GG ?_
    ·exact⟨(by (repeat refine Frm.set ?_ rfl);exact hF),[(29,7)],[(0,.cells (bN ⟨S,pre++j::r⟩) 50 false),(29,.cells (cs++[.int .i64 pre.length,.bool bd]) 92 true)],(by (repeat (first|exact aP|refine aK (by simp[V.get, *]) ?_))),(by simp),(by simp),(by simp[*,aS,aV,aD]),(by simp[*,bW,cN,aS,aV,aD]),_,rfl,fun a2 hF2 hL2=>⟨pre++[j],r,by simp,rfl,((hL2 11 (by simp)).trans (by simp[*]<;>omega)),(hL2 5 (by simp)).trans (by unfold Hid at hn;simp[*,jQ]),by unfold Hid at hcs;simp[*,ga,bn]⟩⟩
  ·by_cases q2:j.dst=x
   ·rw[if_pos (.inr q2)] at hsn;rw[decide_eq_true q2] at hsn;rcases cz bn 2 dH dQ e9 7 92 out with ⟨rfl,e1,e2,e3⟩|⟨n,cs,hn,hcs,e1,e2,e3,c1,c2,c3⟩<;>rw[e1] at h5<;>rw[e2]
    ·refine GG ?_
     ·exact⟨(by (repeat refine Frm.set ?_ rfl);exact hF),[(33,7)],[(0,.cells (bN ⟨S,pre++j::r⟩) 50 false),(33,.cells [.int .i64 pre.length,.bool true] 92 true)],(by (repeat (first|exact aP|refine aK (by simp[V.get, *]) ?_))),(by simp),(by simp),(by simp[*,aS,aV,aD]),(by simp[*,bW,cN,aS,aV,aD]),_,rfl,fun a2 hF2 hL2=>⟨pre++[j],r,by simp,rfl,((hL2 11 (by simp)).trans (by simp[*]<;>omega)),(hL2 5 (by simp)).trans (by simp[*,gV]),by simp[*,gH,row,bn]⟩⟩
    ·have hn2:(n+1)*16≤140737488355328:=(by unfold Hid at hn;omega);have hnl:¬(n+1)*2≤n*2:=(by omega);have hta:List.take (n*2) cs=cs:=List.take_of_length_le (by omega);refine GG ?_
     ·exact⟨(by (repeat refine Frm.set ?_ rfl);exact hF),[(33,7)],[(0,.cells (bN ⟨S,pre++j::r⟩) 50 false),(33,.cells (cs++[.int .i64 pre.length,.bool true]) 92 true)],(by (repeat (first|exact aP|refine aK (by simp[V.get, *]) ?_))),(by simp),(by simp),(by simp[*,aS,aV,aD]),(by simp[*,bW,cN,aS,aV,aD]),_,rfl,fun a2 hF2 hL2=>⟨pre++[j],r,by simp,rfl,((hL2 11 (by simp)).trans (by simp[*]<;>omega)),(hL2 5 (by simp)).trans (by unfold Hid at hn;simp[*,jQ]),by unfold Hid at hcs;simp[*,ga,bn]⟩⟩
   ·rw[if_neg (by rintro(h|h);exact q1 h;exact q2 h),List.append_nil] at hsn;rcases cz bn 2 dH dQ e9 7 92 out with ⟨rfl,e1,e2,e3⟩|⟨n,cs,hn,hcs,e1,e2,e3,c1,c2,c3⟩<;>rw[e1] at h5<;>rw[e2]
    ·refine GG ?_
     ·exact⟨(by (repeat refine Frm.set ?_ rfl);exact hF),[],[(0,.cells (bN ⟨S,pre++j::r⟩) 50 false)],(by (repeat (first|exact aP|refine aK (by simp[V.get, *]) ?_))),(by simp),(by simp),(by simp[*,aS,aV,aD]),(by simp[*,bW,cN,aS,aV,aD]),_,rfl,fun a2 hF2 hL2=>⟨pre++[j],r,by simp,rfl,((hL2 11 (by simp)).trans (by simp[*]<;>omega)),(hL2 5 (by simp)).trans (by simp[*,gV]),by simp[*,gH]⟩⟩
    ·refine GG ?_
     ·exact⟨(by (repeat refine Frm.set ?_ rfl);exact hF),[(7,7)],[(0,.cells (bN ⟨S,pre++j::r⟩) 50 false),(7,.cells cs 92 true)],(by (repeat (first|exact aP|refine aK (by simp[V.get, *]) ?_))),(by simp),(by simp),(by simp[*,aS,aV,aD]),(by simp[*,bW,cN,aS,aV,aD]),_,rfl,fun a2 hF2 hL2=>⟨pre++[j],r,by simp,rfl,((hL2 11 (by simp)).trans (by simp[*]<;>omega)),(hL2 5 (by simp)).trans (by simp[*]),by simp[*]⟩⟩
theorem f90 (r:Reg)(x:Int)(hb:r.joins.length<1000000):PureOk Tryz.prog Γ 90 [.ag (bN r),.int .i64 x] (sls bn (hopsT r x)):=by
 refine PureOk.wk ?_ (oA bn (hopsT r x));refine iA Tryz.func90 rfl (by simp[Tryz.f90]) fun a hla ha=>(w90 Γ r x hb _ rfl a hla (ha 0 _ rfl) (ha 1 _ rfl)).mono ?_
 rintro e' a' h' _ ⟨g1,g2,g3⟩;refine⟨g1,_,3+(row bn (hopsT r x)).length,(by simp[Tryz.f90,g2];rfl),?_⟩;generalize hopsT r x=out at *
 rcases cz bn 2 dH dQ e9 7 92 out with ⟨rfl,e1,e2,e3⟩|⟨n,cs,hn,hcs,e1,e2,e3,c1,c2,c3⟩
 ·rw[e1,e3];rfl
 ·rw[e1,e3];rw[e2] at g3;have hg:=g3 7 (.cells cs 92 true) (by simp[get]);unfold Hid at hcs;rw[←hcs,show 3+cs.length=(2+cs.length)+1 by omega];exact dD hg (by simp[c1]) c2 (by omega)
def mW (m:WM):List (Val×Val):=m.map fun p=>(.int .i64 p.1,gR bn p.2)
def tB (x:Int)(m:WM):Val:=match gP x m with
 |some w=>gR bn w
 |none=>.nils
def yr (x:Int):WM→Nat→Option (Nat×Val)
 |[],_=>none
 |p::f,i=>if p.1=x then some (i,gR bn p.2) else yr x f (i+1)
theorem sR (x:Int):∀(f:WM)(i:Nat),iJ (.int .i64 x) (mW f) i=some (yr x f i)
 |[],_=>rfl
 |p::f,i=>by
  show iJ (.int .i64 x) ((.int .i64 p.1,gR bn p.2)::mW f) i=_;rw[iJ,yr];by_cases h:p.1=x
  ·subst h;simp[nF]
  ·have h2:(x==p.1)=false:=(by rw[beq_eq_false_iff_ne];exact fun e=>h e.symm);simp only[nF,h2,if_neg h]
   simpa using sR x f (i+1)
theorem ra (x:Int):∀(f:WM)(i:Nat),(yr x f i).map (·.2)=(gP x f).map fun w=>gR bn w
 |[],_=>rfl
 |(y,d)::f,i=>by
  rw[yr,gP];split
  ·rfl
  ·exact ra x f (i+1)
theorem FG:Tryz.prog.underlying 97=some (.map 3 57):=by kernel_rfl
theorem pk3 (x:Int):ft Tryz.prog 3 (.int .i64 x)=true:=by kernel_rfl
theorem Io:ei Tryz.prog 57=some .nils:=by kernel_rfl
theorem sW {h:Heap}{id:Nat}{f:WM}(hg:V.get h id=some (.map (mW f)))(x:Int)(ok:Bool):iy Tryz.prog 97 h (.mp id) (.int .i64 x) ok=some (if ok then .tp [tB x f,.bool (gP x f).isSome] else tB x f):=by
 unfold iy;rw[FG];simp only[pk3,if_true,hg,Io,sR];have:=ra x f 0;unfold tB;cases hp:yr x f 0 with
 |none=>
  rw[hp] at this;cases hm:gP x f with
  |none=>rfl
  |some y=>rw[hm] at this;cases this
 |some q=>
  rw[hp] at this;obtain⟨j,v⟩:=q;cases hm:gP x f with
  |none=>rw[hm] at this;cases this
  |some y=>rw[hm] at this;simp only[Option.map_some,Option.some.injEq] at this;subst this;rfl
theorem BH {h:Heap}{id:Nat}{f:WM}(hg:V.get h id=some (.map (mW f)))(x:Int)(w:List Hop)(hn:gP x f=none):gj Tryz.prog 97 h (.mp id) (.int .i64 x) (gR bn w)=some (V.put h id (.map (mW (f++[(x,w)])))):=by
 unfold gj;rw[FG];simp only[pk3,if_true,hg,sR];have:=ra x f 0;rw[hn] at this;cases hp:yr x f 0 with
 |none=>simp only;have e:mW (f++[(x,w)])=mW f++[(.int .i64 x,gR bn w)]:=(by unfold mW;simp);rw[e]
 |some q=>rw[hp] at this;cases this
theorem kT (w:List Hop):(gR bn w).closed=true:=by cases w<;>simp[gR,Val.closed]
@[simp] theorem LE (N:Nat)(f:WM):(∀(a b:Val),(a,b)∈mW f→aS N a=true∧aS N b=true)↔True:=by
 refine iff_true_intro fun a b h=>?_
 unfold mW at h;obtain⟨p,_,hp⟩:=List.mem_map.1 h;cases hp;simp[aS,fO _ (kT p.2)]
@[simp] theorem Kz (N:Nat)(f:WM):(∀(a b:Val),(a,b)∈mW f→(a.flat=true∧aS N a=true)∧aS N b=true)↔True:=by
 refine iff_true_intro fun a b h=>?_
 unfold mW at h;obtain⟨p,_,hp⟩:=List.mem_map.1 h;cases hp;simp[aS,fO _ (kT p.2),Val.flat]
@[simp] theorem Fz (t:Nat→Nat)(m:WM):b9 t (.map (mW m))=.map (mW m):=by unfold mW;simp only[b9,List.map_map];congr 1;apply List.map_congr_left;intro p _;simp[ax,dB t _ (kT p.2)]
@[simp] theorem J0 (t:Nat→Nat)(m:WM):(mW m).map (fun e=>(ax t e.1,ax t e.2))=mW m:=by
 have:=Fz t m
 simpa[b9] using this
theorem mQ (x:Int)(m:WM):(tB x m).closed=true:=by
 unfold tB;split
 ·exact kT _
 ·rfl
@[simp] theorem Kx (x:Hop)(h:Heap)(i:Nat):av Tryz.prog 57 1 [(0,.ag (bn x))] h i=some (.so i 0 1 (some 1),V.put h i (.cells (bn x) 92 false)):=Jj _ _ h i
@[simp] theorem Ky (h:Heap)(i:Nat):av Tryz.prog 57 0 [] h i=some (.so i 0 0 (some 0),V.put h i (.cells [] 92 false)):=by kernel_rfl
theorem f94c (x:Hop)(r:List Hop)(hb:r.length+1<big):CallOk Tryz.prog Γ 94 [sls bn (x::r)] [] 0 true (.so 5 0 (r.length+1) none) [(5,.cells (row bn (x::r)) 92 true)] 6:=by
 simp only[big] at hb;have hb2:(r.length+1)*16≤140737488355328:=by omega
 have hl1:(bn x++row bn r).length=(r.length+1)*2:=by simp<;>omega
 have hl2:2+r.length*2=(r.length+1)*2:=by omega
 have hc1:ae (bn x++row bn r)=true:=by simp[bZ,bn]
 refine Z1 8 Tryz.func94 rfl rfl fun a hl g0=>?_
 refine GG ?_;exact⟨by simp,by simp[Tryz.f94, *],by (repeat (first|exact aP|refine aK (by simp[V.get, *]) ?_))⟩
theorem f94n:PureOk Tryz.prog Γ 94 [.nils] .nils:=by
 refine Y1 8 Tryz.func94 rfl rfl fun a hl g0=>?_
 refine GG ?_;exact⟨by simp,.nils,1,by simp[Tryz.f94, *],rfl⟩
def oG (r:Reg)(m:WM):Heap:=[(0,.cells [.mp 1] 97 false),(1,.map (mW m)),(2,.cells [.fn 91 [] [.pr 0 0,.pp (bN r),.pr 2 0]] 153 false)]
def uq (r:Reg)(n:Nat):Prop:=∀(x:Int)(way:List Hop)(m m':WM),n+way.length<1000→gP x m=none→i7 r n x way m=some m'→
 CallOk Tryz.prog Γ 91 [.int .i64 x,gV 3 way,.pr 0 0,.pp (bN r),.pr 2 0] (oG r m++gH bn 3 92 way) 4 true (.tp []) (oG r m') 4
theorem zH (r:Reg):uq Γ r 0:=fun x way m m' _ _ h=>by rw[i7] at h;cases h
theorem w91 (r:Reg)(hb:r.joins.length<1000000)(hs:r.schemas.length<big)(n:Nat)(ih:uq Γ r n)(x:Int)(way:List Hop)(m m':WM)(hn:n+1+way.length<1000)(hx:gP x m=none)(hv:i7 r (n+1) x way m=some m')
  (c:Code) (hc:Tryz.f91.body=some c) (a:List Val) (hl:a.length=48) (g0:lk a 0=some (.int .i64 x)) (g1:lk a 1=some (gR bn way)) (g2:lk a 2=some (.pr 0 0)) (g3:lk a 3=some (.pp (bN r))) (g4:lk a 4=some (.pr 2 0)) :
  W Tryz.prog Γ c a (oG r m) 4 (fun e a h' _=>(e=.normal∨e=.ret)∧jC Tryz.prog Tryz.f91 a h'=some (.tp [])∧∀i b,get (oG r m') i=some b→get h' i=some b):=by
 cases hc;have h1:=f92 Γ r x hb;have hj:r.joins.length<big:=by unfold big;omega
 have h93:∀h∈dF r x,PureOk Tryz.prog Γ 93 [.ag (bN r),.ag (bn h)] (.int .i64 (cJ r h)):=fun h hh=>by obtain⟨n,j,q1,q2,_⟩:=hY.1 hh;exact f93 Γ r h q1 q2 hj
 have h48:=fun y=>f48 Γ r y hs
 rw[i7] at hv;have hlen:=ko x r.joins 0;have hln:(dF r x).length<1000000:=by unfold dF;omega
 have hup:=fun(h:Heap) (hg:V.get h 1=some (.map (mW m)))=>BH hg x way hx
 have hrc:=en r;have hrl:=lV r;have hlo:=fun N=>aD (N:=N) _ hrc
 have hrt:(bN r).take 2=bN r:=rfl;have hr0:=tN r;have hr1:=tO r;have hgc:=kT way;have hgl:=fun N=>fO (N:=N) _ hgc
 have ih':=fun y h m m'=>ih y (way++[h]) m m'
 clear hlen hj hb hs ih;unfold oG at *
 generalize hcr:bN r=cr at *
 generalize dF r x=hops at *
 clear hcr;refine GG ?_;refine aC h1 ?_;clear h1;refine GG ?_;refine aq [(8,11),(20,47)] [19] (fun k a h=>∃pre rest m1,hops=pre++rest∧k=rest.length∧lk a 19=some (.int .i64 pre.length)∧oN r (i7 r n) way rest m1=some m'∧h=[(0,.cells [.mp 1] 97 false),(1,.map (mW m1)),(2,.cells [.fn 91 [] [.pr 0 0,.pp cr,.pr 2 0]] 153 false)]) ⟨[],hops,m++[(x,way)],rfl,rfl,by simp[*],hv,rfl⟩ ?_;intro a1 hk hk0 k a h hF hI;replace g1:=hF.a hk 1;replace g2:=hF.a hk 2;replace g3:=hF.a hk 3;replace g4:=hF.a hk 4;replace g17:=hF.a hk 17;replace g18:=hF.a hk 18;replace hl:a.length=48:=hF.len.trans (hk0.trans (by simp[*]));clear hk hk0;clear hv hup hx;obtain⟨pre,rest,m1,rfl,rfl,h19,hv,rfl⟩:=hI;cases rest with
 |nil=>simp only[oN,Option.some.injEq] at hv;subst hv;clear ih' h93 h48;refine GG ?_;exact⟨by simp,by simp[Tryz.f91, *],(by (repeat (first|exact aP|refine aK (by simp[V.get, *]) ?_)))⟩
 |cons h rl=>
  have hlt:(pre.length:Int)<pre.length+(rl.length+1):=(by omega);have hw:=ac ((pre.length:Int)+1) (by simp at hln;omega) (by simp at hln;omega);have k93:=h93 h (by simp);have k48:=h48 (cJ r h);have hlk:=fun(h':Heap) (hg:V.get h' 1=some (.map (mW m1)))=>sW hg (cJ r h) true
  simp only[if_true] at hlk;have hwc:=mQ (cJ r h) m1;have hwl:=fun N=>fO (N:=N) _ hwc
  rw[oN] at hv;clear h93 h48;generalize tB (cJ r h) m1=w0 at *
  generalize hy:cJ r h=y at *
  by_cases c1:(gP y m1).isSome=true
  ·rw[c1] at hlk;rw[if_pos (by simp[c1])] at hv;clear ih' k48;refine GG ?_;refine aC k93 ?_;refine GG ?_;exact NX [(0,.cells [.mp 1] 97 false),(1,.map (mW m1)),(2,.cells [.fn 91 [] [.pr 0 0,.pp cr,.pr 2 0]] 153 false)] fun a2 hF2=>⟨pre++[h],rl,m1,by simp,rfl,(hF2.q 19),hv,rfl⟩
  ·have hno:gP y m1=none:=(by simpa using c1);rw[hno] at hlk;simp only[Option.isSome_none] at hlk;by_cases c2:bF r y=true;case neg=>have c3:bF r y=false:=(by simpa using c2);rw[c3] at k48;rw[if_pos (by simp[c3])] at hv;clear ih';refine GG ?_;refine aC k93 ?_;refine GG ?_;refine aC k48 ?_;refine GG ?_;exact NX [(0,.cells [.mp 1] 97 false),(1,.map (mW m1)),(2,.cells [.fn 91 [] [.pr 0 0,.pp cr,.pr 2 0]] 153 false)] fun a2 hF2=>⟨pre++[h],rl,m1,by simp,rfl,(hF2.q 19),hv,rfl⟩
   rw[c2] at k48;rw[if_neg (by simp[c2,hno])] at hv;cases hq:i7 r n y (way++[h]) m1 with
   |none=>rw[hq] at hv;cases hv
   |some m2=>
   rw[hq] at hv;simp only at hv;have k0:=ih' y h m1 m2 (by simp;omega) hno hq;clear ih' hq c1 c2;cases way with
   |nil=>
    have k94:=f94n Γ;simp only[gR] at *
    refine GG ?_;refine aC k93 ?_;refine GG ?_;refine aC k48 ?_;refine GG ?_;refine aM k94 ?_;refine GG ?_;refine gn [(34,.cells (bn h) 92 false)] ?_;have hch:=fun t=>aH t _ (jv h)
    have k1:=k0.ren [0,1,2,35] 36 rfl (by simp[co,fg,aV,aS,aD,gV,gH,Val.flat, *]) (by simp) (by simp[cu]);simp[bJ,b9,cK,ax,tau,aH,hrc,hch,gV,gH,row] at k1;refine GG ?_;refine bl k1 ?_;refine GG ?_;exact NX [(0,.cells [.mp 1] 97 false),(1,.map (mW m2)),(2,.cells [.fn 91 [] [.pr 0 0,.pp cr,.pr 2 0]] 153 false)] fun a2 hF2=>⟨pre++[h],rl,m2,by simp,rfl,(hF2.q 19),hv,rfl⟩
   |cons q0 ql=>
    have k94:=(f94c Γ q0 ql (by unfold big;simp at hn;omega)).ren [] 34 rfl (by simp[co]) (by simp) rfl;have hqc:=dQ (q0::ql);have hqk:=e9 (q0::ql);have hql:=dH (q0::ql);have hch:=fun t=>aH t _ (jv h)
    have hqr:=fun t=>aH t _ hqc
    have hqo:=fun N=>aD (N:=N) _ hqc
    rw[jQ,ga] at k0;have hgr:gR bn (q0::ql)=.sl (row bn (q0::ql)) (ql.length+1) none:=rfl;rw[hgr] at g1 hgc hgl;simp only[List.length_cons] at *
    have hq2:(ql.length+1+1)*16≤140737488355328:=(by omega);simp only[sls,List.length_cons,bJ,b9,cK,ax,List.map_cons,List.map_nil,hqr] at k94;have hnl:¬(ql.length+1+1)*2≤(ql.length+1)*2:=(by omega);generalize row bn (q0::ql)=cs at *
    generalize ql.length+1=n1 at *
    have hta:List.take (n1*2) cs=cs:=List.take_of_length_le (by omega);simp[tau] at k94;have k1:=k0.ren [0,1,2,41] 42 rfl (by simp[co,fg,aV,aS,aD,xK,Val.flat, *]) (by simp) (by simp[cu]);simp[bJ,b9,cK,ax,tau,aH,ik,hrc,hch,hqr] at k1;refine GG ?_;refine aC k93 ?_;refine GG ?_;refine aC k48 ?_;refine GG ?_;refine bl k94 ?_;refine GG ?_;refine gn [(39,.cells cs 92 true),(40,.cells (bn h) 92 false)] ?_;refine GG ?_;refine bl k1 ?_;refine GG ?_;exact NX [(0,.cells [.mp 1] 97 false),(1,.map (mW m2)),(2,.cells [.fn 91 [] [.pr 0 0,.pp cr,.pr 2 0]] 153 false)] fun a2 hF2=>⟨pre++[h],rl,m2,by simp,rfl,(hF2.q 19),hv,rfl⟩
theorem ua (r:Reg)(hb:r.joins.length<1000000)(hs:r.schemas.length<big):∀n,uq Γ r n
 |0=>zH Γ r
 |n+1=>fun x way m m' hn hx hv=>by
  have hW:=w91 Γ r hb hs n (ua r hb hs n) x way m m' (by omega) hx hv _ rfl;have hrc:=en r;have hlo:=fun N=>aD (N:=N) _ hrc
  unfold oG at *
  generalize bN r=cr at *
  cases way with
  |nil=>
   simp only[gV,gH,List.append_nil];refine J5 48 Tryz.func91 rfl rfl fun a hl g0 g1 g2 g3 g4=>?_
   exact hW a hl g0 g1 g2 g3 g4
  |cons q ql=>
   simp only[gV,gH,gR,sls] at *
   have hqc:=dQ (q::ql);have hql:=dH (q::ql);generalize row bn (q::ql)=cs at *
   generalize (q::ql).length=n1 at *
   refine J5 48 Tryz.func91 rfl rfl fun a hl g0 g1 g2 g3 g4=>?_
   refine jt (h1:=[(3,.cells cs 92 true)]) (h2:=[(0,.cells [.mp 1] 97 false),(1,.map (mW m)),(2,.cells [.fn 91 [] [.pr 0 0,.pp cr,.pr 2 0]] 153 false)]) (cs.length+20) [(1,.sl cs n1 none)] (by (repeat (first|exact aP|refine aK (by simp[V.get, *]) ?_))) (by (repeat (first|exact aP|refine aK (by simp[V.get, *]) ?_))) (by simp) (by simp only[List.mem_cons,List.not_mem_nil,or_false,forall_eq_or_imp,forall_eq];exact⟨.so 3 0 n1 none,by simp[*],dD rfl (by simp[hql]) hqc (by omega)⟩) ?_;simp only[setTs];exact hW _ (by simp[hl]) (by simp[*]) (by simp[*]) (by simp[*]) (by simp[*]) (by simp[*])
theorem f49 (r:Reg)(x:Int)(hb:r.joins.length<1000000)(hs:r.schemas.length<900):CallOk Tryz.prog Γ 49 [.ag (bN r),.int .i64 x] [] 0 true (.mp 0) [(0,.map (mW (bT r x)))] 1:=by
 have h48:=f48 Γ r x (by unfold big;omega);have hrc:=en r;have hrl:=lV r;have hrt:(bN r).take 2=bN r:=rfl;have hlo:=fun N=>aD (N:=N) _ hrc
 cases ht:bF r x with
 |false=>
  rw[ht] at h48;have hw:bT r x=[]:=(by unfold bT;simp[ht]);rw[hw];generalize bN r=cr at *
  refine bc Tryz.func49 rfl (by simp[Tryz.f49]) (by omega) (by simp[aS,aV]) (by simp[mW,bW,cN]) ?_;intro a hla ha;replace hla:a.length=18:=hla;have g0:=ha 0 _ rfl;have g1:=ha 1 _ rfl;clear ha;refine GG ?_;refine aC h48 ?_;refine GG ?_;exact⟨by simp,[(2,0)],.mp 2,[(2,.map [])],.mp 2,_,by simp,by simp,by simp[Tryz.f49, *],by simp[ax],by simp[bJ,mW,b9],by (repeat (first|exact aP|refine aK (by simp[V.get, *]) ?_)),Clo.refl _ _⟩
 |true=>
  rw[ht] at h48;have hv:=sf ht;have k1:=(ua Γ r hb (by unfold big;omega) _ x [] [] (bT r x) (by simp;omega) rfl hv).ren [3,2,8,12] 13 rfl (by simp[oG,co,fg,aV,aS,aD,gV,gH,Val.flat, *]) (by simp) (by simp[oG,cu]);simp[oG,bJ,b9,cK,ax,tau,aH,hrc,gV,gH,row,show mW []=[] from rfl] at k1;generalize bN r=cr at *
  refine bc Tryz.func49 rfl (by simp[Tryz.f49]) (by omega) (by simp[aS,aV]) (by simp[bW,cN]) ?_;intro a hla ha;replace hla:a.length=18:=hla;have g0:=ha 0 _ rfl;have g1:=ha 1 _ rfl;clear ha;(repeat' refine fM ?_);refine dM ?_;(repeat' first|refine eR ?_|refine gK ?_);refine db ?_;simp only[eH,cX,cV];refine jt (h1:=[(0,.cells cr 50 false)]) (h2:=[]) (cr.length+20) [(2,.pp cr)] (by (repeat (first|exact aP|refine aK (by simp[V.get, *]) ?_))) (by (repeat (first|exact aP|refine aK (by simp[V.get, *]) ?_))) (by simp) (by simp only[List.mem_cons,List.not_mem_nil,or_false,forall_eq_or_imp,forall_eq];exact⟨.pr 0 0,by simp[*],od rfl hrc (by omega)⟩) ?_;simp only[setTs];refine GG ?_;refine aC h48 ?_;refine GG ?_;refine aw k1 ?_;refine GG ?_;exact⟨by simp,[(2,0)],.mp 2,[(2,.map (mW (bT r x)))],.mp 2,_,by simp,by simp,by simp[Tryz.f49, *],by simp[ax],by simp[bJ],by (repeat (first|exact aP|refine aK (by simp[V.get, *]) ?_)),Clo.refl _ _⟩
theorem K3 (s:Str)(t:Ty):cU Tryz.prog 55 [(0,.str s),(1,.ag (cTy t))]=some (cNm ⟨s,t⟩):=by
 have key:∀a b c d e f:Val,cU Tryz.prog 55 [(0,.str s),(1,.ag [a,b,c,d,e,f])]=some [.str s,a,b,c,d,e,f]:=fun a b c d e f=>by kernel_rfl
 unfold cNm;rw[fC];exact key _ _ _ _ _ _
theorem Jh (x:Nm)(h:Heap)(i:Nat):av Tryz.prog 47 1 [(0,.ag (cNm x))] h i=some (.so i 0 1 (some 1),V.put h i (.cells (cNm x) 55 false)):=by
 have key:∀g a b c d e f:Val,av Tryz.prog 47 1 [(0,.ag [g,a,b,c,d,e,f])] h i=some (.so i 0 1 (some 1),V.put h i (.cells [g,a,b,c,d,e,f] 55 false)):=fun g a b c d e f=>by kernel_rfl
 unfold cNm;rw[fC];exact key _ _ _ _ _ _ _
@[simp] theorem NE:cU Tryz.prog 50 []=some [.nils,.nils]:=by kernel_rfl
@[simp] theorem Gd (r:Reg):(bN r).tail=[sls cJn r.joins]:=rfl
@[simp] theorem FZ (r:Reg):(bN r).take 1=[sls cNm r.schemas]:=rfl
@[simp] theorem FY (r:Reg):(bN r).drop 2=[]:=rfl
def ve (r:Reg)(e:Int):Val:=.tp [.ag (bN r),.int .i64 e]
theorem fe (e:Int):Wk (.tp [.ag [.nils,.nils],.int .i64 e]) (ve fb e):=Wk.tp ⟨Wk.ag ⟨Wk.nils,Wk.nils,trivial⟩,Wk.refl _,trivial⟩
theorem f107x (s:Str):PureOk Tryz.prog Γ 107 [.str s] (.bool (dA s)):=by
 by_cases h:s.length<big
 ·exact f107 Γ s h
 ·have h1:¬s.length≤16:=(by unfold big at h;omega);have e:dA s=false:=(by unfold dA;simp[h1]);rw[e];have h2:(16:Int)<s.length:=(by omega);have h3:¬s=[]:=(by rintro rfl;simp at h1);clear h e;refine Y1 46 Tryz.func107 rfl rfl fun a hl g0=>?_
  refine GG ?_;exact⟨by simp,.bool false,1,by simp[Tryz.f107, *],rfl⟩
theorem f53 (r:Reg)(s:Str)(t:Ty)(hb:r.schemas.length<1000000)(ht:wT t<big):PureOk Tryz.prog Γ 53 [.ag (bN r),.str s,.ag (cTy t)] (ve (dj r s t).1 (dj r s t).2):=by
 have h1:=f107x Γ s;have h2:=f27 Γ t ht;have h3:=f56 Γ r s (by unfold big;omega);have h4:=f108 Γ r.schemas (by unfold big;omega);have hk:(cTy t)[0]?=some (.int .i64 t.kind):=BY t;unfold dj;clear ht;by_cases c1:dA s=false
 ·rw[if_pos (.inl c1)];refine PureOk.wk ?_ (fe 1);rw[c1] at h1;refine Y3 45 Tryz.func53 rfl rfl fun a hl g0 g1 g2=>?_
  refine GG ?_;all_goals (try (refine aC h1 ?_))
  refine GG ?_;exact⟨by simp,.tp [.ag [.nils,.nils],.int .i64 1],1,by simp[Tryz.f53, *],rfl⟩
 by_cases c2:bq t=false
 ·rw[if_pos (.inr (.inl c2))];refine PureOk.wk ?_ (fe 1);rw[show dA s=true by simpa using c1] at h1;rw[c2] at h2;refine Y3 45 Tryz.func53 rfl rfl fun a hl g0 g1 g2=>?_
  refine GG ?_;all_goals (try (refine aC h1 ?_))
  refine GG ?_;all_goals (try (refine aC h2 ?_))
  refine GG ?_;exact⟨by simp,.tp [.ag [.nils,.nils],.int .i64 1],1,by simp[Tryz.f53, *],rfl⟩
 rw[show dA s=true by simpa using c1] at h1;rw[show bq t=true by simpa using c2] at h2;by_cases c3:t.kind=1;case neg=>
  rw[if_pos (.inr (.inr c3))];refine PureOk.wk ?_ (fe 1);refine Y3 45 Tryz.func53 rfl rfl fun a hl g0 g1 g2=>?_
  refine GG ?_;all_goals (try (refine aC h1 ?_))
  refine GG ?_;all_goals (try (refine aC h2 ?_))
  refine GG ?_;exact⟨by simp,.tp [.ag [.nils,.nils],.int .i64 1],1,by simp[Tryz.f53, *],rfl⟩
 rw[if_neg (by simp[c1,c2,c3])];generalize th s r.schemas=p at *
 by_cases c4:0≤p
 ·rw[if_pos c4];refine PureOk.wk ?_ (fe 5);refine Y3 45 Tryz.func53 rfl rfl fun a hl g0 g1 g2=>?_
  refine GG ?_;all_goals (try (refine aC h1 ?_))
  refine GG ?_;all_goals (try (refine aC h2 ?_))
  refine GG ?_;all_goals (try (refine aC h3 ?_))
  refine GG ?_;exact⟨by simp,.tp [.ag [.nils,.nils],.int .i64 5],1,by simp[Tryz.f53, *],rfl⟩
 rw[if_neg c4];by_cases c5:12≤r.schemas.length
 ·rw[if_pos c5];refine PureOk.wk ?_ (fe 2);have c5':(12:Int)≤r.schemas.length:=(by omega);refine Y3 45 Tryz.func53 rfl rfl fun a hl g0 g1 g2=>?_
  refine GG ?_;all_goals (try (refine aC h1 ?_))
  refine GG ?_;all_goals (try (refine aC h2 ?_))
  refine GG ?_;all_goals (try (refine aC h3 ?_))
  refine GG ?_;exact⟨by simp,.tp [.ag [.nils,.nils],.int .i64 2],1,by simp[Tryz.f53, *],rfl⟩
 rw[if_neg c5];have c5':¬(12:Int)≤r.schemas.length:=by omega
 have hvb:=K3 s t;have hbs:=Jh ⟨s,t⟩;refine Y3 45 Tryz.func53 rfl rfl fun a hl g0 g1 g2=>?_
 refine GG ?_;all_goals (try (refine aC h1 ?_))
 refine GG ?_;all_goals (try (refine aC h2 ?_))
 refine GG ?_;all_goals (try (refine aC h3 ?_))
 refine GG ?_;refine aM h4 ?_;refine GG ?_;have hsp:∀v,aY (bN r) 0 [v]=[v,sls cJn r.joins]:=fun _=>rfl
 have hbt:(r.schemas.length+1)*112≤140737488355328:=by omega
 have hst:List.take 7 (cNm ⟨s,t⟩)=cNm ⟨s,t⟩:=D1 _;refine gn [(25,.cells (cNm ⟨s,t⟩) 55 false)] ?_;refine GG ?_;have e:ve ⟨r.schemas++[⟨s,t⟩],r.joins⟩ 0=.tp [.ag [.sl (row cNm r.schemas++cNm ⟨s,t⟩) (r.schemas.length+1) none,sls cJn r.joins],.int .i64 0]:=by simp[ve,bN,bf,row]
 rw[e];have hcs:aE (row cNm r.schemas++cNm ⟨s,t⟩)=true:=by simp[au]
 exact⟨by simp,.tp [.ag [.so 26 0 (r.schemas.length+1) none,sls cJn r.joins],.int .i64 0],(row cNm r.schemas++cNm ⟨s,t⟩).length+20,by simp[Tryz.f53, *],Cs (by simp[aE,Val.closed]) (aI (fL (by simp[aE,Val.closed]) (aI (dD (t:=55) rfl (by simp;omega) hcs (by omega)) (aI (aG (by simp[Val.closed])) bP))) (aI (aG rfl) bP))⟩
theorem Ji (x:Jn)(h:Heap)(i:Nat):av Tryz.prog 48 1 [(0,.ag (cJn x))] h i=some (.so i 0 1 (some 1),V.put h i (.cells (cJn x) 108 false)):=by
 have key:∀g a b:Val,av Tryz.prog 48 1 [(0,.ag [g,a,b])] h i=some (.so i 0 1 (some 1),V.put h i (.cells [g,a,b] 108 false)):=fun g a b=>by kernel_rfl
 exact key _ _ _
theorem jr {r:Reg}{k:Int}(h:bF r k=true):∃(n m:Nat)(x:Nm)(post:List Nm),k=(n:Int)∧n<r.schemas.length∧(row cNm r.schemas).drop (n*7)=cNm x++row cNm post∧gU r k=x.ty∧x∈r.schemas∧m=post.length:=by obtain⟨pre,x,post,h1,h2,h3,h4⟩:=xj h;refine⟨pre.length,post.length,x,post,h2,by rw[h1];simp,?_,h3,h4,rfl⟩;rw[h1];exact FW pre post x
theorem f55 (H:fQ Γ)(r:Reg)(j:Jn)(hb:r.joins.length<1000000)(hs:r.schemas.length<900)(hT:∀n∈r.schemas,wT n.ty<big)(hl:wNs j.lens<30000000000):PureOk Tryz.prog Γ 55 [.ag (bN r),.ag (cJn j)] (ve (em r j).1 (em r j).2):=by
 have k1:=f48 Γ r j.src (by unfold big;omega);have k2:=f48 Γ r j.dst (by unfold big;omega);have k3:=(f49 Γ r j.src hb hs).ren [] 14 rfl (by simp[co,aV,aS]) (by simp) (by simp[cu]);simp[bJ,ax,tau] at k3;have hlk:=fun(h':Heap) (hg:V.get h' 14=some (.map (mW (bT r j.src))))=>sW hg j.dst true
 simp only[if_true] at hlk;have hwc:=mQ j.dst (bT r j.src);have hwl:=fun N=>fO (N:=N) _ hwc
 unfold em;by_cases c1:bF r j.src=false
 ·rw[if_pos (.inl c1)];refine PureOk.wk ?_ (fe 3);rw[c1] at k1;clear hlk k3;refine Y2 75 Tryz.func55 rfl rfl fun a hl g0 g1=>?_
  refine GG ?_;all_goals (try (refine aC k1 ?_))
  refine GG ?_;exact⟨by simp,.tp [.ag [.nils,.nils],.int .i64 3],1,by simp[Tryz.f55, *],rfl⟩
 have c1':bF r j.src=true:=by simpa using c1
 by_cases c2:bF r j.dst=false
 ·rw[if_pos (.inr c2)];refine PureOk.wk ?_ (fe 3);rw[c1'] at k1;rw[c2] at k2;clear hlk k3;refine Y2 75 Tryz.func55 rfl rfl fun a hl g0 g1=>?_
  refine GG ?_;all_goals (try (refine aC k1 ?_))
  refine GG ?_;all_goals (try (refine aC k2 ?_))
  refine GG ?_;exact⟨by simp,.tp [.ag [.nils,.nils],.int .i64 3],1,by simp[Tryz.f55, *],rfl⟩
 have c2':bF r j.dst=true:=by simpa using c2
 rw[if_neg (by simp[c1',c2'])];rw[c1'] at k1;rw[c2'] at k2;generalize bT r j.src=W0 at *
 generalize tB j.dst W0=w0 at *
 by_cases c3:(gP j.dst W0).isSome=true
 ·rw[if_pos c3];rw[c3] at hlk;refine PureOk.wk ?_ (fe 11);refine Y2 75 Tryz.func55 rfl rfl fun a hl g0 g1=>?_
  refine GG ?_;all_goals (try (refine aC k1 ?_))
  refine GG ?_;all_goals (try (refine aC k2 ?_))
  refine GG ?_;refine bl k3 ?_;refine GG ?_;exact⟨by simp,.tp [.ag [.nils,.nils],.int .i64 11],1,by simp[Tryz.f55, *],rfl⟩
 rw[if_neg c3];rw[show(gP j.dst W0).isSome=false by simpa using c3] at hlk;obtain⟨n1,m1,x1,post1,e1,l1,d1,t1,i1,rfl⟩:=jr c1';obtain⟨n2,m2,x2,post2,e2,l2,d2,t2,i2,rfl⟩:=jr c2';rw[t1,t2];obtain⟨js,jd,jl⟩:=j;simp only at *
 subst e1;subst e2;have l1':(n1:Int)<r.schemas.length:=by omega
 have l2':(n2:Int)<r.schemas.length:=by omega
 have l3:n1≤r.schemas.length:=by omega
 have l4:n2≤r.schemas.length:=by omega
 have l5:n1*7≤r.schemas.length*7:=by omega
 have l6:n2*7≤r.schemas.length*7:=by omega
 have b1:1≤7+post1.length*7:=by omega
 have b2:1≤7+post2.length*7:=by omega
 have f1:List.take 6 (cNm x1++row cNm post1).tail=cTy x1.ty:=by show List.take 6 (cTy x1.ty++row cNm post1)=_;exact ed (bG _)
 have f2:List.take 6 (cNm x2++row cNm post2).tail=cTy x2.ty:=by show List.take 6 (cTy x2.ty++row cNm post2)=_;exact ed (bG _)
 have k9:=f9 Γ H x1.ty jl (hT x1 i1) hl;unfold kL at k9;by_cases c4:(bH x1.ty jl).2.2=0;case neg=>
  rw[if_pos c4];refine PureOk.wk ?_ (fe _);generalize bH x1.ty jl=T at *
  obtain⟨T1,T2,T3⟩:=T;simp only at c4 k9 ⊢;clear c1 c2 c3 c1' c2' t1 t2 hl hT i1 i2;refine Y2 75 Tryz.func55 rfl rfl fun a hl g0 g1=>?_
  refine GG ?_;all_goals (try (refine aC k1 ?_))
  refine GG ?_;all_goals (try (refine aC k2 ?_))
  refine GG ?_;refine bl k3 ?_;refine GG ?_;refine aM k9 ?_;refine GG ?_;exact⟨by simp,.tp [.ag [.nils,.nils],.int .i64 T3],1,by simp[Tryz.f55, *],rfl⟩
 rw[if_neg (by simp[c4])];obtain⟨u,hu,hte⟩:=uX c4;have hwu:=qC hu.gu.right;rw[hte] at k9 ⊢;simp only at k9 ⊢;have k22:=f22 Γ u x2.ty (by unfold big;omega) (hT x2 i2);have k110:=f110 Γ r.joins (by unfold big;omega);by_cases c5:eqT u x2.ty=false
 ·rw[if_pos c5];rw[c5] at k22;refine PureOk.wk ?_ (fe _);clear c1 c2 c3 c1' c2' t1 t2 hl hT i1 i2 c4 hu hte hwu k110;refine Y2 75 Tryz.func55 rfl rfl fun a hl g0 g1=>?_
  refine GG ?_;all_goals (try (refine aC k1 ?_))
  refine GG ?_;all_goals (try (refine aC k2 ?_))
  refine GG ?_;refine bl k3 ?_;refine GG ?_;refine aM k9 ?_;refine GG ?_;refine aM k22 ?_;refine GG ?_;exact⟨by simp,.tp [.ag [.nils,.nils],.int .i64 7],1,by simp[Tryz.f55, *],rfl⟩
 rw[if_neg c5];rw[show eqT u x2.ty=true by simpa using c5] at k22;clear c1 c2 c3 c1' c2' t1 t2 hl hT i1 i2 c4 hu hte hwu c5;have hbs:=Ji ⟨(n1:Int),(n2:Int),jl⟩;have hjt:List.take 3 (cJn ⟨(n1:Int),(n2:Int),jl⟩)=cJn ⟨(n1:Int),(n2:Int),jl⟩:=rfl;have hbt:(r.joins.length+1)*40≤140737488355328:=by omega
 refine Y2 75 Tryz.func55 rfl rfl fun a hl g0 g1=>?_
 refine GG ?_;all_goals (try (refine aC k1 ?_))
 refine GG ?_;all_goals (try (refine aC k2 ?_))
 refine GG ?_;refine bl k3 ?_;refine GG ?_;refine aM k9 ?_;refine GG ?_;refine aM k22 ?_;refine GG ?_;refine aM k110 ?_;refine GG ?_;generalize hcj:cJn ⟨(n1:Int),(n2:Int),jl⟩=cj at *
 have hcc:aE cj=true:=by rw[←hcj];simp
 have hck:ae cj=true:=by rw[←hcj];rfl
 have hcl:cj.length=3:=by rw[←hcj];rfl
 refine gn [(21,.cells cj 108 false)] ?_;refine GG ?_;have e:ve ⟨r.schemas,r.joins++[⟨(n1:Int),(n2:Int),jl⟩]⟩ 0=.tp [.ag [sls cNm r.schemas,.sl (row cJn r.joins++cj) (r.joins.length+1) none],.int .i64 0]:=by rw[←hcj];simp[ve,bN,bf,row]
 rw[e];have hcs:aE (row cJn r.joins++cj)=true:=by simp[au,hcc]
 exact⟨by simp,.tp [.ag [sls cNm r.schemas,.so 22 0 (r.joins.length+1) none],.int .i64 0],(row cJn r.joins++cj).length+20,by simp[Tryz.f55, *],Cs (by simp[aE,Val.closed]) (aI (fL (by simp[aE,Val.closed]) (aI (aG (by simp[Val.closed])) (aI (dD (t:=108) rfl (by simp[hcl];omega) hcs (by omega)) bP))) (aI (aG rfl) bP))⟩
theorem DU {r:Reg}{s:Str}{t:Ty}(c:(dj r s t).2=0):(dj r s t).1=⟨r.schemas++[⟨s,t⟩],r.joins⟩:=by
 unfold dj at c ⊢;by_cases c1:dA s=false∨bq t=false∨t.kind≠1
 ·rw[if_pos c1] at c;cases c
 rw[if_neg c1] at c ⊢;by_cases c2:0≤th s r.schemas
 ·rw[if_pos c2] at c;cases c
 rw[if_neg c2] at c ⊢;by_cases c3:12≤r.schemas.length
 ·rw[if_pos c3] at c;cases c
 rw[if_neg c3]
theorem DT {r:Reg}{j:Jn}(h:(em r j).2=0):(em r j).1=⟨r.schemas,r.joins++[j]⟩:=by
 unfold em at h ⊢;by_cases c1:bF r j.src=false∨bF r j.dst=false
 ·rw[if_pos c1] at h;cases h
 rw[if_neg c1] at h ⊢;by_cases c2:(gP j.dst (bT r j.src)).isSome=true
 ·rw[if_pos c2] at h;cases h
 rw[if_neg c2] at h ⊢;by_cases c3:(bH (gU r j.src) j.lens).2.2=0;case neg=>rw[if_pos c3] at h;exact(c3 h).elim
 rw[if_neg (by simp[c3])] at h ⊢;by_cases c4:eqT (bH (gU r j.src) j.lens).1 (gU r j.dst)=false
 ·rw[if_pos c4] at h;cases h
 rw[if_neg c4]
def Ho (J:List Jn)(o:Option Reg):Bool:=match o with
 |none=>false
 |some x=>(kH x J).isSome
theorem A8 (r:Reg):fA r=Ho r.joins (lE fb r.schemas):=rfl
structure FewR (r:Reg):Prop where
 s:r.schemas.length<900
 j:r.joins.length<900
 n:∀n∈r.schemas,True∧wT n.ty<big
 l:∀j∈r.joins,wNs j.lens<30000000000
theorem f47 (H:fQ Γ)(r:Reg)(hf:FewR r):PureOk Tryz.prog Γ 47 [.ag (bN r)] (.bool (fA r)):=by
 obtain⟨S,J⟩:=r;obtain⟨hs,hj,hn,hl⟩:=hf;simp only at hs hj hn hl;have k53:=fun(x:Reg) (xv:List Val) (n:Nm) (hx:x.schemas.length<900) (hm:n∈S) (hw:WkL xv (bN x))=>(f53 Γ x n.name n.ty (by omega) (hn n hm).2).arg (vs:=[.ag xv,.str n.name,.ag (cTy n.ty)]) ⟨Wk.ag hw,Wk.refl _,Wk.refl _,trivial⟩
 have k55:=fun(x:List Jn) (xv:List Val) (j:Jn) (hx:x.length<900) (hm:j∈J) (hw:WkL xv (bN ⟨S,x⟩))=>(f55 Γ H ⟨S,x⟩ j (by show x.length<_;omega) hs (fun n h=>(hn n h).2) (hl j hm)).arg (vs:=[.ag xv,.ag (cJn j)]) ⟨Wk.ag hw,Wk.refl _,trivial⟩
 clear hn hl;obtain⟨v,hv⟩:∃v,v=fA ⟨S,J⟩:=⟨_,rfl⟩;rw[←hv];rw[A8] at hv;have hz:WkL [.nils,.nils] (bN fb):=⟨Wk.nils,Wk.nils,trivial⟩;refine Y1 44 Tryz.func47 rfl rfl fun a hl g0=>?_
 refine GG ?_;refine aq [(2,2),(4,4),(6,6),(13,27)] [12] (fun k a h=>∃pre rest xv,S=pre++rest∧k=rest.length∧lk a 12=some (.int .i64 pre.length)∧xv.length=2∧aE xv=true∧ae xv=true∧WkL xv (bN ⟨pre,[]⟩)∧v=Ho J (lE ⟨pre,[]⟩ rest)∧h=[(0,.cells (bN ⟨S,J⟩) 50 false),(2,.cells xv 50 false)]) ⟨[],S,[.nils,.nils],rfl,rfl,by simp[*],rfl,rfl,rfl,hz,hv,rfl⟩ ?_;intro a1 hk hk0 k a h hF hI;replace g1:=hF.a hk 1;replace g3:=hF.a hk 3;replace g10:=hF.a hk 10;replace g11:=hF.a hk 11;replace hl:a.length=44:=hF.len.trans (hk0.trans (by simp[*]));clear hk hk0;clear hv hz;obtain⟨pre,rest,xv,rfl,rfl,h12,hxl,hxc,hxk,hxw,hv,rfl⟩:=hI;have hxo:=fun N=>aD (N:=N) _ hxc
 have hxt:List.take 2 xv=xv:=List.take_of_length_le (by omega);cases rest with
 |nil=>
  simp only[lE,List.append_nil] at *
  clear k53;have hv1:v=(kH ⟨pre,[]⟩ J).isSome:=hv;clear hv;refine GG ?_;refine aq [(2,2),(4,4),(8,8),(32,43)] [31] (fun k a h=>∃pre2 rest2 xv,J=pre2++rest2∧k=rest2.length∧lk a 31=some (.int .i64 pre2.length)∧xv.length=2∧aE xv=true∧ae xv=true∧WkL xv (bN ⟨pre,pre2⟩)∧v=(kH ⟨pre,pre2⟩ rest2).isSome∧h=[(0,.cells (bN ⟨pre,J⟩) 50 false),(2,.cells xv 50 false)]) ⟨[],J,xv,rfl,rfl,by simp[*],hxl,hxc,hxk,hxw,hv1,rfl⟩ ?_;intro a1 hk hk0 k a h hF hI;replace g3:=hF.a hk 3;replace g29:=hF.a hk 29;replace g30:=hF.a hk 30;replace hl:a.length=44:=hF.len.trans (hk0.trans (by simp[*]));clear hk hk0;clear hv1 hxl hxc hxk hxw hxo hxt;obtain⟨pre2,rest2,xv,rfl,rfl,h31,hxl,hxc,hxk,hxw,hv,rfl⟩:=hI;have hxo:=fun N=>aD (N:=N) _ hxc
  have hxt:List.take 2 xv=xv:=List.take_of_length_le (by omega);cases rest2 with
  |nil=>
   simp only[kH,List.append_nil,Option.isSome_some] at *
   clear k55;subst hv;refine GG ?_;exact⟨by simp,.bool true,1,by simp[Tryz.f47, *],rfl⟩
  |cons j rl=>
   have hlt:(pre2.length:Int)<pre2.length+(rl.length+1):=(by omega);have hw:=ac ((pre2.length:Int)+1) (by simp at hj;omega) (by simp at hj;omega);have k:=k55 pre2 xv j (by simp at hj;omega) (by simp) hxw;unfold ve at k;rw[kH] at hv;clear k55;by_cases c:(em ⟨pre,pre2⟩ j).2=0
   ·have e:=DT c;rw[if_neg (by simp[c]),e] at hv;rw[e,c] at k;simp only at hv k;refine GG ?_;refine aC k ?_;refine GG ?_;exact NX [(0,.cells (bN ⟨pre,pre2++j::rl⟩) 50 false),(2,.cells (bN ⟨pre,pre2++[j]⟩) 50 false)] fun a2 hF2=>⟨pre2++[j],rl,bN ⟨pre,pre2++[j]⟩,by simp,rfl,(hF2.q 31),rfl,en _,rfl,WkL.refl _,hv,rfl⟩
   ·rw[if_pos c] at hv;generalize em ⟨pre,pre2⟩ j=q at *
    obtain⟨q1,q2⟩:=q;simp only[Option.isSome_none] at c k hv;subst hv;refine GG ?_;refine aC k ?_;refine GG ?_;exact⟨by simp,.bool false,1,by simp[Tryz.f47, *],rfl⟩
 |cons n rl=>
  have hlt:(pre.length:Int)<pre.length+(rl.length+1):=(by omega);have hw:=ac ((pre.length:Int)+1) (by simp at hs;omega) (by simp at hs;omega);have k:=k53 ⟨pre,[]⟩ xv n (by simp at hs;show pre.length<_;omega) (by simp) hxw;unfold ve at k;rw[lE] at hv;clear k53 k55;by_cases c:(dj ⟨pre,[]⟩ n.name n.ty).2=0
  ·have e:=DU c;rw[if_neg (by simp[c]),e] at hv;rw[e,c] at k;simp only at hv k;have hrl:=BW 8 ⟨pre++[n],[]⟩;refine GG ?_;refine aC k ?_;refine GG ?_;exact NX [(0,.cells (bN ⟨pre++n::rl,J⟩) 50 false),(2,.cells (bN ⟨pre++[n],[]⟩) 50 false)] fun a2 hF2=>⟨pre++[n],rl,bN ⟨pre++[n],[]⟩,by simp,rfl,(hF2.q 12),rfl,en _,rfl,WkL.refl _,hv,rfl⟩
  ·rw[if_pos c] at hv;generalize dj ⟨pre,[]⟩ n.name n.ty=q at *
   obtain⟨q1,q2⟩:=q;simp only at c k hv;subst hv;refine GG ?_;refine aC k ?_;refine GG ?_;exact⟨by simp,.bool false,1,by simp[Tryz.f47, *],rfl⟩
end
end Go.V
end
