/-
  A part of a proof: H1 H2 H3 H4 H5 H6.
-/
import Derived.Test.YtkfjenbfbendhaaGreatDoorPk21
set_option linter.unusedSimpArgs false
set_option linter.unusedVariables false
section
namespace Go.V
structure Nm where
 name:Str
 ty:Ty
structure Jn where
 src:Int
 dst:Int
 lens:List Lns
structure Reg where
 schemas:List Nm
 joins:List Jn
structure Hop where
 join:Int
 back:Bool
def fb:Reg:=⟨[],[]⟩
def GZ:Nm:=⟨[],zeroTy⟩
def GY:Jn:=⟨0,0,[]⟩
def vK (s:Str):Nat→List Nm→Int
 |_,[]=>-1
 |i,n::l=>if n.name=s then (i:Int) else vK s (i+1) l
def th (s:Str)(l:List Nm):Int:=vK s 0 l
def bF (r:Reg)(k:Int):Bool:=decide (0≤k)&&decide (k<r.schemas.length)
def gU (r:Reg)(k:Int):Ty:=(r.schemas.getD k.toNat GZ).ty
def mw (r:Reg)(i:Int):Jn:=r.joins.getD i.toNat GY
def cJ (r:Reg)(h:Hop):Int:=if h.back then (mw r h.join).src else (mw r h.join).dst
def ej (k:Int):Nat→List Jn→List Hop
 |_,[]=>[]
 |i,j::l=>if k=j.src then ⟨i,false⟩::ej k (i+1) l else if k=j.dst then ⟨i,true⟩::ej k (i+1) l else ej k (i+1) l
def dF (r:Reg)(k:Int):List Hop:=ej k 0 r.joins
abbrev WM:=List (Int×List Hop)
def gP (k:Int):WM→Option (List Hop)
 |[]=>none
 |(x,w)::m=>if x=k then some w else gP k m
def oN (r:Reg)(run:Int→List Hop→WM→Option WM)(way:List Hop):List Hop→WM→Option WM
 |[],m=>some m
 |h::l,m=>if (gP (cJ r h) m).isSome||!bF r (cJ r h) then oN r run way l m else match run (cJ r h) (way++[h]) m with
  |some m'=>oN r run way l m'
  |none=>none
def i7 (r:Reg):Nat→Int→List Hop→WM→Option WM
 |0,_,_,_=>none
 |n+1,k,way,m=>oN r (i7 r n) way (dF r k) (m++[(k,way)])
def bT (r:Reg)(a:Int):WM:=if bF r a then (i7 r r.schemas.length a [] []).getD [] else []
def dj (r:Reg)(s:Str)(t:Ty):Reg×Int:=
 if dA s=false∨bq t=false∨t.kind≠1 then (fb,1)
 else if 0≤th s r.schemas then (fb,5)
 else if 12≤r.schemas.length then (fb,2)
 else (⟨r.schemas++[⟨s,t⟩],r.joins⟩,0)
def em (r:Reg)(j:Jn):Reg×Int:=
 if bF r j.src=false∨bF r j.dst=false then (fb,3)
 else if (gP j.dst (bT r j.src)).isSome then (fb,11)
 else if (bH (gU r j.src) j.lens).2.2≠0 then (fb,(bH (gU r j.src) j.lens).2.2)
 else if eqT (bH (gU r j.src) j.lens).1 (gU r j.dst)=false then (fb,7)
 else (⟨r.schemas,r.joins++[j]⟩,0)
def lE:Reg→List Nm→Option Reg
 |r,[]=>some r
 |r,n::l=>if (dj r n.name n.ty).2≠0 then none else lE (dj r n.name n.ty).1 l
def kH:Reg→List Jn→Option Reg
 |r,[]=>some r
 |r,j::l=>if (em r j).2≠0 then none else kH (em r j).1 l
def fA (r:Reg):Bool:=match lE fb r.schemas with
 |none=>false
 |some x=>(kH x r.joins).isSome
theorem rV {k:Int}{h:Hop}:∀{l:List Jn}{i:Nat},h∈ej k i l↔∃n j,l[n]?=some j∧h.join=((i+n:Nat):Int)∧((h.back=false∧k=j.src)∨(h.back=true∧k=j.dst∧k≠j.src))
 |[],i=>by simp[ej]
 |j::l,i=>by
  have ih:=@rV k h l (i+1);have rest:(h∈ej k (i+1) l)↔∃n j',(j::l)[n+1]?=some j'∧h.join=((i+(n+1):Nat):Int)∧((h.back=false∧k=j'.src)∨(h.back=true∧k=j'.dst∧k≠j'.src)):=by
   rw[ih];have e:∀n,i+1+n=i+(n+1):=fun n=>by omega
   simp only[List.getElem?_cons_succ,e]
  have key:(∃n j',(j::l)[n]?=some j'∧h.join=((i+n:Nat):Int)∧((h.back=false∧k=j'.src)∨(h.back=true∧k=j'.dst∧k≠j'.src)))↔(h.join=(i:Int)∧((h.back=false∧k=j.src)∨(h.back=true∧k=j.dst∧k≠j.src)))∨h∈ej k (i+1) l:=by
   rw[rest];constructor
   ·rintro⟨n,j',h1,h2,h3⟩;cases n with
    |zero=>simp only[List.getElem?_cons_zero,Option.some.injEq] at h1;subst h1;exact .inl ⟨h2,h3⟩
    |succ n=>exact .inr ⟨n,j',h1,h2,h3⟩
   ·rintro(⟨h2,h3⟩|⟨n,j',h1,h2,h3⟩)
    ·exact⟨0,j,rfl,h2,h3⟩
    ·exact⟨n+1,j',h1,h2,h3⟩
  rw[key,ej];obtain⟨hj,hb⟩:=h;by_cases h1:k=j.src
  ·rw[if_pos h1];simp only[List.mem_cons,Hop.mk.injEq,h1,ne_eq,not_true_eq_false,and_false,or_false,and_true]
  ·rw[if_neg h1];by_cases h2:k=j.dst
   ·rw[if_pos h2];simp only[List.mem_cons,Hop.mk.injEq,h1,h2,ne_eq,not_false_eq_true,and_false,false_or,and_true,true_and];rw[←h2];simp[h1]
   ·rw[if_neg h2];simp[h1,h2]
theorem hY {r:Reg}{k:Int}{h:Hop}:h∈dF r k↔∃(n:Nat)(j:Jn),r.joins[(n:Nat)]?=some (j:Jn)∧h.join=(n:Int)∧((h.back=false∧k=j.src)∨(h.back=true∧k=j.dst∧k≠j.src)):=by unfold dF;rw[rV];simp
theorem jj {r:Reg}{n:Nat}{j:Jn}(h:r.joins[n]?=some j){i:Int}(hi:i=(n:Int)):mw r i=j:=by subst hi;unfold mw;simp[List.getD,h]
theorem oE {k:Int}{w:List Hop}:∀{m:WM},gP k m=some w→(k,w)∈m
 |[],h=>by simp[gP] at h
 |(x,v)::m,h=>by
  rw[gP] at h;split at h
  ·rename_i e;subst e;cases h;simp
  ·exact List.mem_cons_of_mem _ (oE h)
theorem pA {k:Int}:∀{m:WM},gP k m=none↔k∉m.map (·.1)
 |[]=>by simp[gP]
 |(x,v)::m=>by
  rw[gP];split
  ·rename_i e;simp[e]
  ·rename_i e;rw[pA];simp[Ne.symm e]
theorem mc {k:Int}{w:List Hop}{m:WM}(h:(m.map (·.1)).Nodup)(hm:(k,w)∈m):gP k m=some w:=by
 induction m with
 |nil=>cases hm
 |cons p m ih=>
  obtain⟨x,v⟩:=p;simp only[List.map_cons,List.nodup_cons] at h;rw[gP];rcases List.mem_cons.1 hm with e|hm
  ·cases e;rw[if_pos rfl]
  ·rw[if_neg,ih h.2 hm];rintro rfl;exact h.1 (List.mem_map_of_mem (f:=(·.1)) hm)
theorem ff {r:Reg}{k:Int}:bF r k=true↔0≤k∧k<r.schemas.length:=by unfold bF;simp
theorem rC:∀(n:Nat)(l:List Nat),l.Nodup→(∀x∈l,x<n)→l.length≤n
 |0,l,_,h=>by
  cases l with
  |nil=>simp
  |cons x l=>exact absurd (h x (by simp)) (by omega)
 |n+1,l,hn,h=>by
  by_cases hm:n∈l
  ·have:=rC n (l.erase n) (hn.erase n) fun x hx=>by have h1:=(hn.mem_erase_iff).1 hx;have:=h x h1.2;have:x≠n:=h1.1;omega
   rw[List.length_erase_of_mem hm] at this;omega
  ·have:=rC n l hn fun x hx=>by
    have h1:=h x hx;have:x≠n:=fun e=>hm (e ▸ hx)
    omega
   omega
def Lnk (r:Reg)(a:Int)(m:WM)(k:Int)(way:List Hop):Prop:=
 (way=[]∧k=a)∨∃y w h,way=w++[h]∧(y,w)∈m∧h∈dF r y∧cJ r h=k
structure WOk (r:Reg)(a:Int)(m:WM):Prop where
 nod:(m.map (·.1)).Nodup
 rng:∀x w,(x,w)∈m→bF r x=true
 lnk:∀x w,(x,w)∈m→Lnk r a m x w
theorem Lnk.mono {r:Reg}{a:Int}{m m':WM}{k:Int}{way:List Hop}(h:Lnk r a m k way)(hs:∀p∈m,p∈m'):Lnk r a m' k way:=by
 rcases h with h|⟨y,w,h,h1,h2,h3⟩
 ·exact .inl h
 ·exact .inr ⟨y,w,h,h1,hs _ h2,h3⟩
structure WPost (r:Reg)(a:Int)(m m':WM):Prop where
 ok:WOk r a m'
 sub:∀p∈m,p∈m'
 len:m.length≤m'.length
 cl:∀x w,(x,w)∈m'→(x,w)∈m∨∀h∈dF r x,bF r (cJ r h)=true→∃w',(cJ r h,w')∈m'
theorem sU (r:Reg)(a:Int):∀(n:Nat)(k:Int)(way:List Hop)(m:WM),WOk r a m→gP k m=none→bF r k=true→Lnk r a m k way→r.schemas.length≤n+m.length→
  ∃m',i7 r n k way m=some m'∧WPost r a m m'∧(k,way)∈m'
 |0,k,way,m,hm,hk,ht,_,hn=>by
  exfalso;have h1:((k::m.map (·.1)).map Int.toNat).Nodup:=by
   have hnd:(k::m.map (·.1)).Nodup:=List.nodup_cons.2 ⟨pA.1 hk,hm.nod⟩;have hr:∀x∈k::m.map (·.1),0≤x:=by
    intro x hx;rcases List.mem_cons.1 hx with rfl|hx
    ·exact(ff.1 ht).1
    ·obtain⟨p,hp,rfl⟩:=List.mem_map.1 hx;exact(ff.1 (hm.rng p.1 p.2 hp)).1
   exact List.Pairwise.map _ (fun _ _ h=>h) (List.Pairwise.imp_of_mem (fun{x y} hx hy hxy e=>hxy (by have:=hr x hx;have:=hr y hy;omega)) hnd)
  have h2:=rC r.schemas.length _ h1 fun x hx=>by
   obtain⟨y,hy,rfl⟩:=List.mem_map.1 hx;rcases List.mem_cons.1 hy with rfl|hy
   ·have:=ff.1 ht;omega
   ·obtain⟨p,hp,rfl⟩:=List.mem_map.1 hy;have:=ff.1 (hm.rng p.1 p.2 hp);omega
  simp at h2;omega
 |n+1,k,way,m,hm,hk,ht,hl,hn=>by
  rw[i7];have h0:WOk r a (m++[(k,way)]):=by
   refine⟨?_,fun x w hx=>?_,fun x w hx=>?_⟩
   ·rw[List.map_append];refine List.nodup_append.2 ⟨hm.nod,by simp,fun x hx y hy e=>?_⟩;simp only[List.map_cons,List.map_nil,List.mem_singleton] at hy;subst e;subst hy;exact pA.1 hk hx
   ·rcases List.mem_append.1 hx with hx|hx
    ·exact hm.rng x w hx
    ·simp only[List.mem_singleton,Prod.mk.injEq] at hx;rw[hx.1];exact ht
   ·rcases List.mem_append.1 hx with hx|hx
    ·exact(hm.lnk x w hx).mono fun p hp=>by simp[hp]
    ·simp only[List.mem_singleton,Prod.mk.injEq] at hx;rw[hx.1,hx.2];exact hl.mono fun p hp=>by simp[hp]
  have over:∀(l:List Hop) (m1:WM),(∀h∈l,h∈dF r k)→WOk r a m1→(k,way)∈m1→r.schemas.length≤n+m1.length→
    ∃m2,oN r (i7 r n) way l m1=some m2∧WPost r a m1 m2∧∀h∈l,bF r (cJ r h)=true→∃w',(cJ r h,w')∈m2:=by
   intro l;induction l with
   |nil=>intro m1 _ h1 _ _;exact⟨m1,rfl,⟨h1,fun _ h=>h,Nat.le_refl _,fun _ _ h=>.inl h⟩,by simp⟩
   |cons h l ih=>
    intro m1 hin h1 hkm hlen;rw[oN];have fin:∀m2,WPost r a m1 m2→(bF r (cJ r h)=true→∃w',(cJ r h,w')∈m2)→∃m3,oN r (i7 r n) way l m2=some m3∧WPost r a m1 m3∧∀h'∈h::l,bF r (cJ r h')=true→∃w',(cJ r h',w')∈m3:=by
     intro m2 q1 q2;have hl2:=q1.len;obtain⟨m3,s0,s1,s2⟩:=ih m2 (fun h' hh=>hin h' (by simp[hh])) q1.ok (q1.sub _ hkm) (by omega);refine⟨m3,s0,⟨s1.ok,fun p hp=>s1.sub p (q1.sub p hp),Nat.le_trans q1.len s1.len,fun x w hx=>?_⟩,fun h' hh hth=>?_⟩
     ·rcases s1.cl x w hx with hx|hx
      ·rcases q1.cl x w hx with hx|hx
       ·exact .inl hx
       ·exact .inr fun h' hh ht'=>by obtain⟨w',hw'⟩:=hx h' hh ht';exact⟨w',s1.sub _ hw'⟩
      ·exact .inr hx
     ·rcases List.mem_cons.1 hh with rfl|hh
      ·obtain⟨w',hw'⟩:=q2 hth;exact⟨w',s1.sub _ hw'⟩
      ·exact s2 h' hh hth
    by_cases hc:((gP (cJ r h) m1).isSome||!bF r (cJ r h))=true
    ·rw[if_pos hc];refine fin m1 ⟨h1,fun _ h=>h,Nat.le_refl _,fun _ _ h=>.inl h⟩ fun hth=>?_
     simp only[hth,Bool.not_true,Bool.or_false] at hc;obtain⟨w,hw⟩:=Option.isSome_iff_exists.1 hc;exact⟨w,oE hw⟩
    ·rw[if_neg hc];simp only[Bool.or_eq_true,not_or,Bool.not_eq_true,Option.isSome_eq_false_iff,Option.isNone_iff_eq_none,Bool.not_eq_false'] at hc;obtain⟨m2,q0,q1,q2⟩:=sU r a n (cJ r h) (way++[h]) m1 h1 hc.1 hc.2 (.inr ⟨k,way,h,rfl,hkm,hin h (by simp),rfl⟩) hlen;rw[q0];exact fin m2 q1 fun _=>⟨_,q2⟩
  obtain⟨m2,s0,s1,s2⟩:=over (dF r k) (m++[(k,way)]) (fun _ h=>h) h0 (by simp) (by simp;omega);refine⟨m2,s0,⟨s1.ok,fun p hp=>s1.sub p (by simp[hp]),by have:=s1.len;simp at this;omega,fun x w hx=>?_⟩,s1.sub _ (by simp)⟩;rcases s1.cl x w hx with hx|hx
  ·rcases List.mem_append.1 hx with hx|hx
   ·exact .inl hx
   ·simp only[List.mem_singleton,Prod.mk.injEq] at hx;obtain⟨rfl,rfl⟩:=hx;exact .inr s2
  ·exact .inr hx
theorem sf {r:Reg}{a:Int}(h:bF r a=true):i7 r r.schemas.length a [] []=some (bT r a):=by obtain⟨m,s0,_⟩:=sU r a r.schemas.length a [] [] ⟨by simp,by simp,by simp⟩ rfl h (.inl ⟨rfl,rfl⟩) (by simp);unfold bT;rw[if_pos h,s0];rfl
theorem cg {r:Reg}{a:Int}(h:bF r a=true):WOk r a (bT r a)∧(a,[])∈bT r a∧∀x w,(x,w)∈bT r a→∀h∈dF r x,bF r (cJ r h)=true→∃w',(cJ r h,w')∈bT r a:=by
 obtain⟨m,s0,s1,s2⟩:=sU r a r.schemas.length a [] [] ⟨by simp,by simp,by simp⟩ rfl h (.inl ⟨rfl,rfl⟩) (by simp);rw[sf h,Option.some.injEq] at s0;subst s0;refine⟨s1.ok,s2,fun x w hx=>?_⟩;rcases s1.cl x w hx with hx|hx
 ·cases hx
 ·exact hx
def Cut (J:List Jn):Prop:=∀(e:Nat)(j:Jn),J[e]?=some j→∃c:Int→Bool,c j.src≠c j.dst∧∀(f:Nat)(i:Jn),J[f]?=some i→f≠e→c i.src=c i.dst
structure RegOk (r:Reg):Prop where
 few:r.schemas.length≤12
 gd:∀n∈r.schemas,gd n.ty
 rng:∀j∈r.joins,bF r j.src=true∧bF r j.dst=true
 lz:∀j∈r.joins,Lz false (gU r j.src) j.lens (gU r j.dst)
 cut:Cut r.joins
theorem Cut.ne {J:List Jn}(h:Cut J){e:Nat}{j:Jn}(he:J[e]?=some j):j.src≠j.dst:=fun hq=>by obtain⟨c,hc,_⟩:=h e j he;exact hc (by rw[hq])
theorem RegOk.hop {r:Reg}(H:RegOk r){x:Int}{h:Hop}(hh:h∈dF r x) :
  bF r x=true∧bF r (cJ r h)=true∧Lz h.back (gU r x) (mw r h.join).lens (gU r (cJ r h))∧(⟨h.join,!h.back⟩:Hop)∈dF r (cJ r h)∧cJ r ⟨h.join,!h.back⟩=x∧∃n:Nat,h.join=(n:Int)∧∃j,r.joins[n]?=some j∧(x=j.src∧cJ r h=j.dst∨x=j.dst∧cJ r h=j.src):=by
 obtain⟨n,j,h1,h2,h3⟩:=hY.1 hh;have hm:=List.mem_of_getElem? h1;have hj:=jj h1 h2;have hne:=H.cut.ne h1;obtain⟨r1,r2⟩:=H.rng j hm;have hl:=H.lz j hm;obtain⟨e,b⟩:=h;simp only at h2 h3 hj;rcases h3 with ⟨h4,h5⟩|⟨h4,h5,_⟩
 ·subst h4;have e1:cJ r ⟨e,false⟩=j.dst:=(by unfold cJ;simp[hj]);have e2:cJ r ⟨e,true⟩=j.src:=(by unfold cJ;simp[hj]);simp only[hj,e1,Bool.not_false,e2];subst h5;exact⟨r1,r2,hl,hY.2 ⟨n,j,h1,h2,.inr ⟨rfl,rfl,hne.symm⟩⟩,rfl,n,h2,j,h1,.inl ⟨rfl,rfl⟩⟩
 ·subst h4;have e1:cJ r ⟨e,false⟩=j.dst:=(by unfold cJ;simp[hj]);have e2:cJ r ⟨e,true⟩=j.src:=(by unfold cJ;simp[hj]);simp only[hj,e1,Bool.not_true,e2];subst h5;exact⟨r2,r1,hl.turn,hY.2 ⟨n,j,h1,h2,.inl ⟨rfl,rfl⟩⟩,rfl,n,h2,j,h1,.inr ⟨rfl,rfl⟩⟩
theorem yH {r:Reg}(H:RegOk r){a:Int}(ha:bF r a=true){i:Jn}(hi:i∈r.joins):(∃w,(i.src,w)∈bT r a)↔∃w,(i.dst,w)∈bT r a:=by
 obtain⟨s1,_,s3⟩:=cg ha;obtain⟨n,hn⟩:=List.getElem?_of_mem hi;have hne:=H.cut.ne hn;obtain⟨r1,r2⟩:=H.rng i hi;have hj:=jj hn (i:=(n:Int)) rfl;constructor
 ·rintro⟨w,hw⟩;have:=s3 _ _ hw ⟨n,false⟩ (hY.2 ⟨n,i,hn,rfl,.inl ⟨rfl,rfl⟩⟩);have e1:cJ r ⟨(n:Int),false⟩=i.dst:=(by unfold cJ;simp[hj]);rw[e1] at this;exact this r2
 ·rintro⟨w,hw⟩;have:=s3 _ _ hw ⟨n,true⟩ (hY.2 ⟨n,i,hn,rfl,.inr ⟨rfl,rfl,hne.symm⟩⟩);have e1:cJ r ⟨(n:Int),true⟩=i.src:=(by unfold cJ;simp[hj]);rw[e1] at this;exact this r1
theorem Da {r:Reg}(H:RegOk r){j:Jn}(h1:bF r j.src=true)(h3:gP j.dst (bT r j.src)=none):Cut (r.joins++[j]):=by
 classical
 obtain⟨s1,s2,_⟩:=cg h1
 let C:Int→Bool:=fun x=>decide (∃w,(x,w)∈bT r j.src)
 have hC1:C j.src=true:=decide_eq_true ⟨_,s2⟩;have hC2:C j.dst=false:=decide_eq_false fun⟨w,hw⟩=>by rw[mc s1.nod hw] at h3;cases h3
 have hC:∀i∈r.joins,C i.src=C i.dst:=fun i hi=>by show decide _=decide _;exact decide_eq_decide.2 (yH H h1 hi)
 intro e j' he;by_cases hlt:e<r.joins.length
 ·rw[List.getElem?_append_left hlt] at he;obtain⟨c,c1,c2⟩:=H.cut e j' he;have hm:=List.mem_of_getElem? he;by_cases hs:c j.src=c j.dst
  ·refine⟨c,c1,fun f i hf hne=>?_⟩;by_cases hfl:f<r.joins.length
   ·rw[List.getElem?_append_left hfl] at hf;exact c2 f i hf hne
   ·rw[List.getElem?_append_right (by omega)] at hf;have:i=j:=by
     cases hq:f-r.joins.length with
     |zero=>rw[hq] at hf;simpa using hf.symm
     |succ n=>rw[hq] at hf;simp at hf
    rw[this];exact hs
  ·refine⟨fun x=>xor (c x) (C x),?_,fun f i hf hne=>?_⟩
   ·have:=hC j' hm;simp only[ne_eq];rw[this];intro hq;exact c1 (by revert hq;cases c j'.src<;>cases c j'.dst<;>cases C j'.dst<;>simp)
   ·by_cases hfl:f<r.joins.length
    ·rw[List.getElem?_append_left hfl] at hf;simp only;rw[c2 f i hf hne,hC i (List.mem_of_getElem? hf)]
    ·rw[List.getElem?_append_right (by omega)] at hf;have:i=j:=by
      cases hq:f-r.joins.length with
      |zero=>rw[hq] at hf;simpa using hf.symm
      |succ n=>rw[hq] at hf;simp at hf
     rw[this];simp only;rw[hC1,hC2];revert hs;cases c j.src<;>cases c j.dst<;>simp
 ·rw[List.getElem?_append_right (by omega)] at he;have:j'=j∧e=r.joins.length:=by
   cases hq:e-r.joins.length with
   |zero=>rw[hq] at he;exact⟨by simpa using he.symm,by omega⟩
   |succ n=>rw[hq] at he;simp at he
  obtain⟨rfl,rfl⟩:=this;refine⟨C,by rw[hC1,hC2];simp,fun f i hf hne=>?_⟩;have hfl:f<r.joins.length:=(by have:=(List.getElem?_eq_some_iff.1 hf).1;simp at this;omega);rw[List.getElem?_append_left hfl] at hf;exact hC i (List.mem_of_getElem? hf)
theorem yL {r:Reg}(H:RegOk r){j:Jn}(h:(em r j).2=0):(em r j).1=⟨r.schemas,r.joins++[j]⟩∧RegOk ⟨r.schemas,r.joins++[j]⟩:=by
 unfold em at h ⊢;by_cases c1:bF r j.src=false∨bF r j.dst=false
 ·rw[if_pos c1] at h;cases h
 rw[if_neg c1] at h ⊢;by_cases c2:(gP j.dst (bT r j.src)).isSome=true
 ·rw[if_pos c2] at h;cases h
 rw[if_neg c2] at h ⊢;by_cases c3:(bH (gU r j.src) j.lens).2.2=0;case neg=>rw[if_pos c3] at h;exact(c3 h).elim
 rw[if_neg (by simp[c3])] at h ⊢;by_cases c4:eqT (bH (gU r j.src) j.lens).1 (gU r j.dst)=false
 ·rw[if_pos c4] at h;cases h
 rw[if_neg c4] at h ⊢;simp only[not_or,Bool.not_eq_false] at c1 c4;simp only[Bool.not_eq_true,Option.isSome_eq_false_iff,Option.isNone_iff_eq_none] at c2;obtain⟨u,hu,hte⟩:=uX c3;have e1:=(vH _ _).1 c4;rw[hte] at e1;simp only at e1;refine⟨rfl,H.few,H.gd,?_,?_,Da H c1.1 c2⟩
 ·intro i hi;rcases List.mem_append.1 hi with hi|hi
  ·exact H.rng i hi
  ·rw[List.mem_singleton.1 hi];exact c1
 ·intro i hi;rcases List.mem_append.1 hi with hi|hi
  ·exact H.lz i hi
  ·rw[List.mem_singleton.1 hi];show Lz false (gU r j.src) j.lens (gU r j.dst);rw[←e1];exact hu
theorem uO:∀(l:List Jn)(r y:Reg),RegOk r→kH r l=some y→y=⟨r.schemas,r.joins++l⟩∧RegOk y
 |[],r,y,H,h=>by simp only[kH,Option.some.injEq] at h;subst h;exact⟨by simp,H⟩
 |j::l,r,y,H,h=>by
  rw[kH] at h;by_cases c:(em r j).2=0;case neg=>rw[if_pos c] at h;cases h
  rw[if_neg (by simp[c])] at h;obtain⟨q1,q2⟩:=yL H c;rw[q1] at h;obtain⟨p1,p2⟩:=uO l _ y q2 h;exact⟨by rw[p1];simp,p2⟩
theorem uP:∀(l:List Nm)(r y:Reg),r.joins=[]→r.schemas.length≤12→(∀n∈r.schemas,V.gd n.ty)→lE r l=some y→y=⟨r.schemas++l,[]⟩∧y.schemas.length≤12∧∀n∈y.schemas,V.gd n.ty
 |[],r,y,hj,hl,hg,h=>by simp only[lE,Option.some.injEq] at h;subst h;exact⟨by rw[←hj];simp,hl,hg⟩
 |n::l,r,y,hj,hl,hg,h=>by
  rw[lE] at h;by_cases c:(dj r n.name n.ty).2=0;case neg=>rw[if_pos c] at h;cases h
  rw[if_neg (by simp[c])] at h;have e:(dj r n.name n.ty).1=⟨r.schemas++[n],r.joins⟩∧bq n.ty=true∧n.ty.kind=1∧r.schemas.length<12:=by
   unfold dj at c ⊢;by_cases c1:dA n.name=false∨bq n.ty=false∨n.ty.kind≠1
   ·rw[if_pos c1] at c;cases c
   rw[if_neg c1] at c ⊢;by_cases c2:0≤th n.name r.schemas
   ·rw[if_pos c2] at c;cases c
   rw[if_neg c2] at c ⊢;by_cases c3:12≤r.schemas.length
   ·rw[if_pos c3] at c;cases c
   rw[if_neg c3];simp only[not_or,Bool.not_eq_false,ne_eq,Decidable.not_not] at c1;exact⟨rfl,c1.2.1,c1.2.2,by omega⟩
  obtain⟨e1,e2,e3,e4⟩:=e;rw[e1] at h;obtain⟨p1,p2⟩:=uP l ⟨r.schemas++[n],r.joins⟩ y hj (by simp;omega) (fun m hm=>by
   rcases List.mem_append.1 hm with hm|hm
   ·exact hg m hm
   ·rw[List.mem_singleton.1 hm];exact⟨e2,e3⟩) h
  exact⟨by rw[p1];simp,p2⟩
theorem ka {r:Reg}(h:fA r=true):RegOk r:=by
 unfold fA at h;split at h
 ·cases h
 ·rename_i x hx;obtain⟨p1,p2,p3⟩:=uP r.schemas fb x rfl (by simp[fb]) (by simp[fb]) hx;have p4:x=⟨r.schemas,[]⟩:=(by rw[p1];simp[fb]);have h0:RegOk x:=⟨p2,p3,by rw[p4];simp,by rw[p4];simp,by rw[p4];intro e j he;simp at he⟩;obtain⟨y,hy⟩:=Option.isSome_iff_exists.1 h;obtain⟨q1,q2⟩:=uO r.joins x y h0 hy;rw[p4] at q1;have:y=r:=(by rw[q1];simp);rw[←this];exact q2
def li (h:Hop):Hop:=⟨h.join,!h.back⟩
section
variable {r:Reg} {a:Int}
theorem WOk.inj {m:WM}(s:WOk r a m){w:List Hop}:∀{x y:Int},(x,w)∈m→(y,w)∈m→x=y:=by
 intro x y hx hy;rcases s.lnk x w hx with ⟨h1,h2⟩|⟨p,v,h,h1,h2,h3,h4⟩
 ·rcases s.lnk y w hy with ⟨_,k2⟩|⟨q,v',k,k1,_⟩
  ·rw[h2,k2]
  ·rw[h1] at k1;simp at k1
 ·rcases s.lnk y w hy with ⟨k1,_⟩|⟨q,v',k,k1,k2,k3,k4⟩
  ·rw[k1] at h1;simp at h1
  ·rw[h1] at k1;have:=List.append_inj' k1 rfl;simp only[List.cons.injEq,and_true] at this;obtain⟨_,rfl⟩:=this;rw[←h4,←k4]
theorem WOk.fun{m:WM}(s:WOk r a m){x:Int}{w v:List Hop}(h:(x,w)∈m)(k:(x,v)∈m):w=v:=by have e1:=mc s.nod h;have e2:=mc s.nod k;rw[e1] at e2;exact Option.some.inj e2
theorem rP (H:RegOk r){x y:Int}{g h:Hop}(hg:g∈dF r x)(hh:h∈dF r y)(e:g.join=h.join):(x=y∧g=h)∨(x=cJ r h∧cJ r g=y∧g=li h):=by
 obtain⟨n,j,h1,h2,h3⟩:=hY.1 hg;obtain⟨m,i,k1,k2,k3⟩:=hY.1 hh;have hnm:n=m:=by rw[e] at h2;omega
 subst hnm;rw[h1] at k1;cases k1;have hj:=jj h1 h2;have hi:=jj h1 k2;have hne:=H.cut.ne h1;obtain⟨ge,gb⟩:=g;obtain⟨he,hb⟩:=h;simp only at e h2 h3 k2 k3 hj hi;subst e;unfold cJ li;simp only[hj];rcases h3 with ⟨rfl,rfl⟩|⟨rfl,rfl,_⟩<;>rcases k3 with ⟨rfl,h⟩|⟨rfl,h,_⟩
 ·exact .inl ⟨h.symm,rfl⟩
 ·exact .inr ⟨rfl,h.symm,rfl⟩
 ·exact .inr ⟨rfl,h.symm,rfl⟩
 ·exact .inl ⟨h.symm,rfl⟩
theorem WOk.side {m:WM}(H:RegOk r)(s:WOk r a m){f:Nat}{j:Jn}(hf:r.joins[f]?=some j){c:Int→Bool}(hc:∀(g:Nat)(i:Jn),r.joins[g]?=some i→g≠f→c i.src=c i.dst) :
  ∀(n:Nat) (x:Int) (w:List Hop),w.length=n→(x,w)∈m→(∀h∈w,h.join≠(f:Int))→c x=c a
 |n,x,w,hn,hx,hw=>by
  rcases s.lnk x w hx with ⟨_,h2⟩|⟨p,v,h,h1,h2,h3,h4⟩
  ·rw[h2]
  ·subst h1;cases n with
   |zero=>simp at hn
   |succ n=>
   have ih:=WOk.side H s hf hc n p v (by simpa using hn) h2 fun h hh=>hw h (by simp[hh])
   obtain⟨_,_,_,_,_,n',e1,i,e2,e3⟩:=H.hop h3;have:=hc n' i e2 fun e=>hw h (by simp) (by rw[e1,e])
   rw[h4] at e3;rcases e3 with ⟨rfl,rfl⟩|⟨rfl,rfl⟩
   ·rw[←this];exact ih
   ·rw[this];exact ih
theorem WOk.over {m:WM}(s:WOk r a m){f:Int}:∀(n:Nat)(x:Int)(w:List Hop),w.length=n→(x,w)∈m→(∃h∈w,h.join=f)→
  ∃w1 g w2 p,w=w1++g::w2∧g.join=f∧(p,w1)∈m∧g∈dF r p∧(cJ r g,w1++[g])∈m
 |n,x,w,hn,hx,hw=>by
  rcases s.lnk x w hx with ⟨h1,_⟩|⟨p,v,h,h1,h2,h3,h4⟩
  ·obtain⟨h,hh,_⟩:=hw;rw[h1] at hh;cases hh
  ·subst h1;cases n with
   |zero=>simp at hn
   |succ n=>
   by_cases e:h.join=f
   ·exact⟨v,h,[],p,rfl,e,h2,h3,by rw[h4];exact hx⟩
   ·obtain⟨h',hh',e'⟩:=hw;have hv:h'∈v:=by
     rcases List.mem_append.1 hh' with hh'|hh'
     ·exact hh'
     ·rw[List.mem_singleton.1 hh'] at e';exact(e e').elim
    obtain⟨w1,g,w2,q,k1,k2,k3⟩:=WOk.over s n p v (by simpa using hn) h2 ⟨h',hv,e'⟩;exact⟨w1,g,w2++[h],q,by rw[k1];simp,k2,k3⟩
theorem I0 (H:RegOk r)(ha:bF r a=true){x:Int}{w:List Hop}(hx:(x,w)∈bT r a){h:Hop}(hh:h∈dF r x) :
  (cJ r h,w++[h])∈bT r a∨∃v,w=v++[li h]∧(cJ r h,v)∈bT r a:=by
 obtain⟨s1,_,s3⟩:=cg ha;obtain⟨_,h2,_,hflip,hend,n,e1,j,e2,e3⟩:=H.hop hh;obtain⟨v,hv⟩:=s3 x w hx h hh h2;obtain⟨c,c1,c2⟩:=H.cut n j e2;have hc:c x≠c (cJ r h):=by
  rcases e3 with ⟨h,h'⟩|⟨h,h'⟩<;>rw[h',h]
  ·exact c1
  ·exact c1.symm
 by_cases hv':∃g∈v,g.join=(n:Int)
 ·obtain⟨w1,g,w2,p,k1,k2,k3,k4,k5⟩:=s1.over _ _ _ rfl hv hv';rcases rP H k4 hh (k2.trans e1.symm) with ⟨rfl,rfl⟩|⟨rfl,_,_⟩
  ·have:=s1.fun k3 hx;subst this;exact .inl k5
  ·have:=s1.fun k3 hv;rw[this] at k1;have:=congrArg List.length k1;simp at this
 ·by_cases hw':∃g∈w,g.join=(n:Int)
  ·obtain⟨w1,g,w2,p,k1,k2,k3,k4,k5⟩:=s1.over _ _ _ rfl hx hw';rcases rP H k4 hh (k2.trans e1.symm) with ⟨rfl,rfl⟩|⟨rfl,k6,k7⟩
   ·have:=s1.fun k3 hx;rw[this] at k1;have:=congrArg List.length k1;simp at this
   ·rw[k6] at k5;have e4:=s1.fun k5 hx;have e5:=s1.fun k3 hv;subst e5;exact .inr ⟨w1,by rw[←e4,k7],hv⟩
  ·exfalso;have q1:=s1.side H e2 c2 _ _ _ rfl hx fun g hg e=>hw' ⟨g,hg,e⟩
   have q2:=s1.side H e2 c2 _ _ _ rfl hv fun g hg e=>hv' ⟨g,hg,e⟩
   exact hc (q1.trans q2.symm)
end
theorem s6:∀{l:List Str},(∀s∈l,s.length≤256)→cw l≤257*l.length
 |[],_=>by simp[cw]
 |s::l,h=>by
  have h1:=h s (by simp);have h2:=s6 (l:=l) fun x hx=>h x (by simp[hx])
  simp only[cw,List.length_cons];omega
theorem GL {x y s k kl w dl z:Nat}(e1:x=s+k+w+1)(e2:y=z+1)(h1:w+300*dl≤600*z)(h2:k≤257*kl)(h3:kl≤dl)(h4:s≤256):x+300≤600*y:=by omega
theorem E4 {a b c d n x y z:Nat}(h1:a+300≤600*b)(h2:c+300*n≤600*d)(e1:x=a+c)(e2:y=b+d)(e3:z=n+1):x+300*z≤600*y:=by omega
mutual
theorem xz:∀d:Doc,rightD d=true→wD d+300≤600*dG d
 |.mk k n s ks ds,h=>by
  obtain⟨p1,p2,p3⟩:=(d9 _).1 h;have h1:=uc ds p3;have h2:cw ks≤257*ks.length:=s6 ((iP _ none ks).1 p2).2.2.2;have e:fH (.mk k n s ks ds)=if k=1∨k=2 then decide (n=0)&&decide (s=[])&&decide (ks.length=ds.length)
   else if k=3 then decide (n=0)&&decide (s=[])&&decide (ks.length=0)
   else if ks.length+ds.length>0 then false else if k=4 then decide (s=[]) else if k=5 then decide (s=[])&&(decide (n=0)||decide (n=1)) else if k=6 then decide (n=0)&&decide (s.length≤256) else false:=rfl
  have h3:ks.length≤ds.length∧s.length≤256:=by
   by_cases c1:k=1∨k=2
   ·rw[e,if_pos c1] at p1;simp only[Bool.and_eq_true,decide_eq_true_eq] at p1;rw[p1.1.2];simp;omega
   by_cases c2:k=3
   ·rw[e,if_neg c1,if_pos c2] at p1;simp only[Bool.and_eq_true,decide_eq_true_eq] at p1;rw[p1.1.2];simp;omega
   ·have c3:k=4∨k=5∨k=6:=by
     by_cases c3:k=4∨k=5∨k=6
     ·exact c3
     ·rw[e,if_neg c1,if_neg c2] at p1;simp only[not_or] at c3;simp[c3] at p1
    obtain⟨rfl,rfl,hs,_⟩:=lB c3 p1;exact⟨by simp,hs⟩
  have e1:wD (.mk k n s ks ds)=s.length+cw ks+wDs ds+1:=(by simp only[wD]);have e2:dG (.mk k n s ks ds)=cf ds+1:=(by simp only[dG]);exact GL e1 e2 h1 h2 h3.1 h3.2
theorem uc:∀l:List Doc,(∀x∈l,rightD x=true)→wDs l+300*l.length≤600*cf l
 |[],_=>by simp[wDs]
 |d::l,h=>by exact E4 (xz d (h d (by simp))) (uc l fun x hx=>h x (by simp[hx])) (by rw[wDs]) (by rw[cf]) (by rw[List.length_cons])
end
theorem iz {t:Ty}{d:Doc}(h:cD t d=true):wD d≤307200:=by obtain⟨_,h1,_⟩:=(fZ t d).1 h;obtain⟨_,h2,h3⟩:=(eV d).1 h1;have:=xz d h3;omega
theorem s8 (q:Res→Bool):∀l:List Res,wRs l=wRs (l.filter q)+wRs (l.filter fun x=>!q x)
 |[]=>rfl
 |x::l=>by
  have:=s8 q l;by_cases h:q x=true
  ·simp only[List.filter_cons,h,wRs,if_true,Bool.not_true,Bool.false_eq_true,if_false];omega
  ·simp only[Bool.not_eq_true] at h;simp only[List.filter_cons,h,wRs,if_true,Bool.not_false,Bool.false_eq_true,if_false];omega
theorem ue {K:Nat}:∀(es:List Int)(l:List Res),(∀x∈l,x.edge∈es)→(∀e∈es,wRs (l.filter fun x=>decide (x.edge=e))≤K)→wRs l≤es.length*K
 |[],l,h,_=>by
  cases l with
  |nil=>simp[wRs]
  |cons x l=>have:=h x (by simp);cases this
 |e::es,l,h,hk=>by
  rw[s8 (fun x=>decide (x.edge=e)) l];have h1:=hk e (by simp);have h2:=ue es (l.filter fun x=>!decide (x.edge=e)) (fun x hx=>by
   obtain⟨h3,h4⟩:=List.mem_filter.1 hx;rcases List.mem_cons.1 (h x h3) with h5|h5
   ·simp[h5] at h4
   ·exact h5) fun e' he'=>by
   refine Nat.le_trans ?_ (hk e' (by simp[he']));rw[List.filter_filter];by_cases hee:e'=e
   ·subst hee;have:l.filter (fun a=>decide (a.edge=e')&&!decide (a.edge=e'))=[]:=(by rw[List.filter_eq_nil_iff];intro a _;simp);rw[this];simp[wRs]
   ·have:l.filter (fun a=>decide (a.edge=e')&&!decide (a.edge=e))=l.filter fun x=>decide (x.edge=e'):=by
     apply List.filter_congr;intro a _;by_cases h:a.edge=e'
     ·simp[h,hee]
     ·simp[h]
    rw[this];exact Nat.le_refl _
  rw[List.length_cons,Nat.add_mul,Nat.one_mul];omega
theorem sA {l:List Res}(q:Res→Bool)(h:srt l):srt (l.filter q):=List.Pairwise.sublist List.filter_sublist h
theorem oP (p:Plc)(x:Res)(l:List Res):pd p (x::l)=if plc x=p then some x.doc else pd p l:=by unfold pd;rw[eX];split<;>rfl
theorem pF (e:Int)(p:Plc):∀l:List Res,pd p (l.filter fun x=>decide (x.edge=e))=if p.1=e then pd p l else none
 |[]=>by simp[pd]
 |x::l=>by
  have ih:=pF e p l;by_cases h:x.edge=e
  ·simp only[List.filter_cons,h,decide_true,if_true,oP,ih];by_cases h2:plc x=p
   ·have:p.1=e:=(by rw[←h2];exact h);simp[h2,this]
   ·simp[h2]
  ·simp only[List.filter_cons,h,decide_false,Bool.false_eq_true,if_false,oP,ih];by_cases h2:plc x=p
   ·have:¬p.1=e:=(by rw[←h2];exact h);simp[this]
   ·simp[h2]
theorem Fp {l:List Res}{x:Res}(h:srt l)(hx:x∈l):pd (plc x) l=some x.doc:=by unfold pd;rw[vN h hx];rfl
theorem yq {l:List Res}{p:Plc}(h:∀x∈l,plc x≠p):pd p l=none:=by
 induction l with
 |nil=>rfl
 |cons x l ih=>rw[oP,if_neg (h x (by simp)),ih fun y hy=>h y (by simp[hy])]
def iS:List Res→List Res→List Res
 |l,[]=>l
 |l,n::N=>iS (if (fj n.edge n.step n.at_ l).isNone then jV l n else l) N
theorem pG:∀(N l:List Res),srt N→srt l→srt (iS l N)∧∀p,pd p (iS l N)=(pd p l).or (pd p N)
 |[],l,_,h=>⟨h,fun p=>by simp[iS,pd]⟩
 |n::N,l,hN,h=>by
  rw[iS];have hN':srt N:=(List.pairwise_cons.1 hN).2;have hn:pd (plc n) N=none:=yq fun x hx e=>by have:=(List.pairwise_cons.1 hN).1 x hx;rw[e] at this;have h0:cmpP (plc n) (plc n)=0:=(iE.zero _ _).2 rfl;omega
  by_cases c:(fj n.edge n.step n.at_ l).isNone=true
  ·rw[if_pos c];obtain⟨h1,h2⟩:=pG N (jV l n) hN' (sB n h);refine⟨h1,fun p=>?_⟩;rw[h2,qT,oP];by_cases e:p=plc n
   ·subst e;have:pd (plc n) l=none:=(by unfold pd fnd;simp only[Option.isNone_iff_eq_none] at c;show(fj n.edge n.step n.at_ l).map _=none;rw[c];rfl);simp[this]
   ·rw[if_neg e,if_neg fun h=>e h.symm]
  ·rw[if_neg c];obtain⟨h1,h2⟩:=pG N l hN' h;refine⟨h1,fun p=>?_⟩;rw[h2,oP];by_cases e:plc n=p
   ·subst e;rw[hn,if_pos rfl];have:∃y,fj n.edge n.step n.at_ l=some y:=by
     cases hq:fj n.edge n.step n.at_ l with
     |none=>rw[hq] at c;exact(c rfl).elim
     |some y=>exact⟨y,rfl⟩
    obtain⟨y,hy⟩:=this;have:pd (plc n) l=some y.doc:=(by unfold pd fnd;show(fj n.edge n.step n.at_ l).map _=_;rw[hy];rfl);simp[this]
   ·rw[if_neg e]
open Classical in
noncomputable def nxt (e:Int)(bk:Bool)(t:Ty)(l:List Lns)(u:Ty)(d:Doc):Doc×(Plc→Option Doc)×(Plc→Option Doc):=
 if h:∃x:Doc×(Plc→Option Doc)×(Plc→Option Doc),Thru e bk t l u d x.1 x.2.1 x.2.2 then Classical.choose h else (zeroDoc,non,non)
theorem CG {e:Int}{bk:Bool}{t u:Ty}{l:List Lns}{d:Doc}(h:Lz bk t l u)(hv:cD t d=true):Thru e bk t l u d (nxt e bk t l u d).1 (nxt e bk t l u d).2.1 (nxt e bk t l u d).2.2:=by obtain⟨d',A,B,T⟩:=thru e h hv;have hx:∃x:Doc×(Plc→Option Doc)×(Plc→Option Doc),Thru e bk t l u d x.1 x.2.1 x.2.2:=⟨(d',A,B),T⟩;unfold nxt;rw[dif_pos hx];exact Classical.choose_spec hx
noncomputable def nx (r:Reg)(x:Int)(h:Hop)(d:Doc):Doc×(Plc→Option Doc)×(Plc→Option Doc):=nxt h.join h.back (gU r x) (mw r h.join).lens (gU r (cJ r h)) d
def kG (r:Reg):Int→List Hop→Int
 |x,[]=>x
 |_,h::w=>kG r (cJ r h) w
noncomputable def jN (r:Reg):Int→Doc→List Hop→Doc
 |_,d,[]=>d
 |x,d,h::w=>jN r (cJ r h) (nx r x h d).1 w
theorem m7 {r:Reg}{h:Hop}:∀(w:List Hop)(x:Int),kG r x (w++[h])=cJ r h
 |[],_=>rfl
 |_::w,_=>m7 w _
theorem tY {r:Reg}{h:Hop}:∀(w:List Hop)(x:Int)(d:Doc),jN r x d (w++[h])=(nx r (kG r x w) h (jN r x d w)).1
 |[],_,_=>rfl
 |_::w,_,_=>tY w _ _
def Edge (r:Reg)(a:Int)(v:List Hop)(h:Hop):Prop:=∃p,(p,v)∈bT r a∧h∈dF r p∧(cJ r h,v++[h])∈bT r a
section
variable {r:Reg} {a:Int}
theorem mR (H:RegOk r)(ha:bF r a=true){x:Int}{w:List Hop}(hx:(x,w)∈bT r a):kG r a w=x:=by
 obtain⟨s1,_,_⟩:=cg ha;rcases s1.lnk x w hx with ⟨rfl,rfl⟩|⟨p,v,h,rfl,h2,h3,h4⟩
 ·rfl
 ·rw[m7,h4]
theorem Edge.of (ha:bF r a=true){y:Int}{v:List Hop}{h:Hop}(hy:(y,v++[h])∈bT r a):Edge r a v h∧y=cJ r h:=by
 obtain⟨s1,_,_⟩:=cg ha;rcases s1.lnk _ _ hy with ⟨h1,_⟩|⟨p,v',k,h1,h2,h3,h4⟩
 ·simp at h1
 ·have:=List.append_inj' h1 rfl;simp only[List.cons.injEq,and_true] at this;obtain⟨rfl,rfl⟩:=this;exact⟨⟨p,h2,h3,by rw[h4];exact hy⟩,h4.symm⟩
theorem Edge.inj (H:RegOk r)(ha:bF r a=true){v v':List Hop}{h h':Hop}(h1:Edge r a v h)(h2:Edge r a v' h')(e:h.join=h'.join):v=v'∧h=h':=by
 obtain⟨s1,_,_⟩:=cg ha;obtain⟨p,a1,a2,a3⟩:=h1;obtain⟨q,b1,b2,b3⟩:=h2;rcases rP H a2 b2 e with ⟨rfl,rfl⟩|⟨rfl,k,_⟩
 ·exact⟨s1.fun a1 b1,rfl⟩
 ·rw[k] at a3;have e1:=congrArg List.length (s1.fun a1 b3);have e2:=congrArg List.length (s1.fun b1 a3);simp at e1 e2;omega
theorem yI (ha:bF r a=true):∀(n:Nat)(x:Int)(v w:List Hop),w.length=n→(x,v++w)∈bT r a→∃p,(p,v)∈bT r a
 |0,x,v,w,hn,hx=>by have:w=[]:=List.eq_nil_of_length_eq_zero hn;subst this;rw[List.append_nil] at hx;exact⟨x,hx⟩
 |n+1,x,v,w,hn,hx=>by have hne:w≠[]:=(by intro e;subst e;simp at hn);obtain⟨w',k,rfl⟩:∃w' k,w=w'++[k]:=⟨w.dropLast,w.getLast hne,(List.dropLast_concat_getLast hne).symm⟩;rw[←List.append_assoc] at hx;obtain⟨⟨p,h1,_⟩,_⟩:=Edge.of ha hx;exact yI ha n p v w' (by simpa using hn) h1
open Classical in
noncomputable def side (v w:List Hop)(A B:Option Doc):Option Doc:=if v <+: w then B else A
theorem jo {v w:List Hop}{A B:Option Doc}(h:v <+: w):side v w A B=B:=if_pos h
theorem gF {v w:List Hop}{A B:Option Doc}(h:¬v <+: w):side v w A B=A:=if_neg h
structure GoodS (r:Reg)(a:Int)(d:Doc)(w:List Hop)(D:Int→Prop)(s:St):Prop where
 doc:s.doc=jN r a d w
 srt:srt s.res
 on:∀v h,Edge r a v h→D h.join→∀p:Plc,p.1=h.join→pd p s.res=side (v++[h]) w ((nx r (kG r a v) h (jN r a d v)).2.1 p) ((nx r (kG r a v) h (jN r a d v)).2.2 p)
 out:∀p:Plc,(¬∃v h,Edge r a v h∧h.join=p.1∧D p.1)→pd p s.res=none
theorem GoodS.iff {d:Doc}{w:List Hop}{D D':Int→Prop}{s:St}(h:GoodS r a d w D s)(hD:∀v h,Edge r a v h→(D h.join↔D' h.join)):GoodS r a d w D' s:=
 ⟨h.doc,h.srt,fun v k hk hd=>h.on v k hk ((hD v k hk).2 hd),fun p hp=>h.out p fun⟨v,k,hk,e,hd⟩=>hp ⟨v,k,hk,e,by rw[←e] at hd ⊢;exact(hD v k hk).1 hd⟩⟩
theorem GoodS.uniq {d:Doc}{w:List Hop}{D:Int→Prop}{s s':St}(h:GoodS r a d w D s)(h':GoodS r a d w D s'):s=s':=by
 obtain⟨x,l⟩:=s;obtain⟨x',l'⟩:=s';have e1:x=x':=h.doc.trans h'.doc.symm;have e2:l=l':=yp h.srt h'.srt fun p=>by
  by_cases hp:∃v k,Edge r a v k∧k.join=p.1∧D p.1
  ·obtain⟨v,k,hk,e,hd⟩:=hp;rw[←e] at hd;exact(h.on v k hk hd p e.symm).trans (h'.on v k hk hd p e.symm).symm
  ·exact(h.out p hp).trans (h'.out p hp).symm
 rw[e1,e2]
end
theorem Thru.lists {e:Int}{bk:Bool}{t u:Ty}{l:List Lns}{d d':Doc}{A B:Plc→Option Doc}(T:Thru e bk t l u d d' A B):∃LA LB:List Res,srt LA∧srt LB∧(∀p,pd p LA=A p)∧(∀p,pd p LB=B p)∧wRs LA≤34000000∧wRs LB≤34000000:=by
 have hd:=iz T.v;obtain⟨w,g,h1,h2,h3,h4,h5,h6,h7,h8⟩:=T.first ⟨[],[],0⟩ (by simp[srt]) (fun _ _=>rfl) (by simp[wW,wRs,most,lim];omega);obtain⟨n1,n2⟩:=h8 (by simp[srt]);simp only[wW,wRs,most] at h7;refine⟨w.needs,w.res,n1,h3,fun p=>?_,fun p=>?_,by omega,by omega⟩
 ·rw[n2 p];show(A p).or none=A p;cases A p<;>rfl
 ·by_cases hp:rL e [] [] 0 p
  ·exact h4 p hp
  ·rw[h5 p hp,T.supB p hp];rfl
theorem jW {e:Int}{p:Plc}(h:rL e [] [] 0 p):p.1=e:=by obtain⟨_,_,h⟩:=h;exact h.1
theorem Thru.sup {e:Int}{bk:Bool}{t u:Ty}{l:List Lns}{d d':Doc}{A B:Plc→Option Doc}(T:Thru e bk t l u d d' A B){p:Plc}(h:p.1≠e):A p=none∧B p=none:=⟨T.supA p fun hr=>h (jW hr),T.supB p fun hr=>h (jW hr)⟩
def VD (r:Reg)(a:Int)(d:Doc)(v:List Hop):Prop:=cD (gU r (kG r a v)) (jN r a d v)=true
section
variable {r:Reg} {a:Int} {d:Doc}
theorem Edge.thru (H:RegOk r)(ha:bF r a=true){v:List Hop}{h:Hop}(he:Edge r a v h)(hv:VD r a d v) :
  Thru h.join h.back (gU r (kG r a v)) (mw r h.join).lens (gU r (cJ r h)) (jN r a d v) (jN r a d (v++[h])) (nx r (kG r a v) h (jN r a d v)).2.1 (nx r (kG r a v) h (jN r a d v)).2.2:=by
 obtain⟨p,h1,h2,h3⟩:=he;have e:=mR H ha h1;rw[tY];unfold VD at hv;rw[e] at hv ⊢;exact CG (H.hop h2).2.2.1 hv
theorem GoodS.small (H:RegOk r)(ha:bF r a=true){w:List Hop}{D:Int→Prop}{s:St}(h:GoodS r a d w D s)(hD:∀v h,Edge r a v h→D h.join→VD r a d v):wRs s.res≤408000000:=by
 obtain⟨s1,_,_⟩:=cg ha;have hlen:(bT r a).length≤12:=by
  have h1:((bT r a).map (·.1)).map Int.toNat |>.Nodup:=by have hr:∀x∈(bT r a).map (·.1),0≤x:=(by intro x hx;obtain⟨p,hp,rfl⟩:=List.mem_map.1 hx;exact(ff.1 (s1.rng p.1 p.2 hp)).1);exact List.Pairwise.map _ (fun _ _ h=>h) (List.Pairwise.imp_of_mem (fun{x y} hx hy hxy e=>hxy (by have:=hr x hx;have:=hr y hy;omega)) s1.nod)
  have h2:=rC r.schemas.length _ h1 fun x hx=>by obtain⟨y,hy,rfl⟩:=List.mem_map.1 hx;obtain⟨p,hp,rfl⟩:=List.mem_map.1 hy;have:=ff.1 (s1.rng p.1 p.2 hp);omega
  have:=H.few;simp at h2;omega
 let es:List Int:=(bT r a).map fun p=>((p.2.getLast?.map (·.join)).getD (-1))
 have hes:∀v k,Edge r a v k→k.join∈es:=fun v k ⟨p,_,_,h3⟩=>List.mem_map.2 ⟨_,h3,by simp⟩
 have hin:∀x∈s.res,∃v k,Edge r a v k∧k.join=x.edge∧D x.edge:=fun x hx=>by
  by_cases hq:∃v k,Edge r a v k∧k.join=(plc x).1∧D (plc x).1
  ·exact hq
  ·have:=h.out (plc x) hq;rw[Fp h.srt hx] at this;cases this
 have:=ue (K:=34000000) es s.res (fun x hx=>by
  obtain⟨v,k,h1,h2,_⟩:=hin x hx;rw[←h2];exact hes v k h1) fun e _=>by
  by_cases hq:∃v k,Edge r a v k∧k.join=e∧D e
  ·obtain⟨v,k,hk,rfl,hd⟩:=hq;obtain⟨LA,LB,l1,l2,l3,l4,l5,l6⟩:=(hk.thru H ha (hD v k hk hd)).lists;have T:=hk.thru H ha (hD v k hk hd);by_cases hc:(v++[k]) <+: w
   ·have:s.res.filter (fun x=>decide (x.edge=k.join))=LB:=yp (sA _ h.srt) l2 fun p=>by
     rw[pF,l4];by_cases hp:p.1=k.join
     ·rw[if_pos hp,h.on v k hk hd p hp,jo hc]
     ·rw[if_neg hp,(T.sup hp).2]
    rw[this];exact l6
   ·have:s.res.filter (fun x=>decide (x.edge=k.join))=LA:=yp (sA _ h.srt) l1 fun p=>by
     rw[pF,l3];by_cases hp:p.1=k.join
     ·rw[if_pos hp,h.on v k hk hd p hp,gF hc]
     ·rw[if_neg hp,(T.sup hp).1]
    rw[this];exact l5
  ·have:s.res.filter (fun x=>decide (x.edge=e))=[]:=(by rw[List.filter_eq_nil_iff];intro x hx hxe;obtain⟨v,k,h1,h2,h3⟩:=hin x hx;simp only[decide_eq_true_eq] at hxe;exact hq ⟨v,k,h1,by rw[h2,hxe],by rw[←hxe];exact h3⟩);rw[this];simp[wRs]
 have he:es.length≤12:=by simp[es,hlen]
 have:=Nat.mul_le_mul_right 34000000 he;omega
end
end Go.V
namespace Go.V
def okS (s:St):Bool:=decide (wRs s.res+wD s.doc<lim)
def ju (r:Reg)(k:Int)(h:Hop)(s:St):Option (St×Int):=if okS s then goB (gU r k) (mw r h.join).lens h.join h.back s else none
def yn (r:Reg)(k:Int)(h:Hop)(d:Doc):Option (List Res):=(jx (gU r k) (mw r h.join).lens h.join h.back ⟨d,[]⟩).map (·.2.1)
def ky (r:Reg)(k:Int)(h:Hop)(s:St):Option St:=
 if okS s then match yn r k h s.doc with
  |none=>none
  |some N=>if wRs N<lim then some ⟨s.doc,iS s.res N⟩ else none
 else none
def jg (r:Reg)(k:Int)(s:St):Int:=if cD (gU r k) s.doc=false then 7 else if bC s.res=false then 1 else 0
section
variable {r:Reg} {a:Int} {d:Doc}
theorem vL {k:Int}{s:St}(h:jg r k s=0):cD (gU r k) s.doc=true∧bC s.res=true:=by
 unfold jg at h;split at h
 ·cases h
 ·rename_i h1;split at h
  ·cases h
  ·rename_i h2;simp only[Bool.not_eq_false] at h1 h2;exact⟨h1,h2⟩
theorem qP {k:Int}{h:Hop}{s:St}(hs:okS s=true):ju r k h s=goB (gU r k) (mw r h.join).lens h.join h.back s:=by unfold ju;rw[if_pos hs]
theorem mB {s:St}(h1:wRs s.res≤408000000)(h2:wD s.doc<400000000):okS s=true:=by unfold okS lim;simp only[decide_eq_true_eq];omega
theorem rc {α:Type}{u w:List α}{x:α}:u <+: w++[x]↔u=w++[x]∨u <+: w:=by
 constructor
 ·rintro⟨t,ht⟩;by_cases e:t=[]
  ·subst e;exact .inl (by simpa using ht)
  ·right;refine⟨t.dropLast,?_⟩;have h1:t=t.dropLast++[t.getLast e]:=(List.dropLast_concat_getLast e).symm;rw[h1,←List.append_assoc] at ht;exact(List.append_inj' ht rfl).1
 ·rintro(rfl|h)
  ·exact List.prefix_refl _
  ·exact h.trans (List.prefix_append _ _)
theorem x9 {t:Ty}{l:List Lns}{e:Int}{bk:Bool}{s:St}{u:Ty}{w:Wlk}{g:Flds}{d':Doc}(hz:Lz bk t l u)(h2:bC s.res=true)(h3:cD t s.doc=true)(h5:eb e bk l 0 [] [] ⟨s.res,[],0⟩ (ofD s.doc)=some (w,g))(h6:w.err=0)(h7:ay g=d')(ho:okT u d'=true) :
  ∃s' f,goB t l e bk s=some (s',f)∧(f=0→s'=⟨d',w.res⟩∧bC w.res=true∧cD u d'=true):=by
 obtain⟨_,v2,v3⟩:=(fZ t s.doc).1 h3;have hk:=zu ((eV _).1 v2).2.2 hz.gt.kind v3;have G:=Dn hz.target h2 h3 hk h5 h6;rw[h7] at G;cases hr:bC w.res with
 |false=>rw[hr] at G;exact⟨bu,1,G,fun h=>by cases h⟩
 |true=>
  cases hd:dS d' with
  |false=>rw[hr,hd] at G;exact⟨bu,2,G,fun h=>by cases h⟩
  |true=>rw[hr,hd] at G;simp only[Bool.true_eq_false,if_false] at G;exact⟨_,0,G,fun _=>⟨rfl,rfl,(fZ u d').2 ⟨hz.gu.right,hd,ho⟩⟩⟩
variable {w:List Hop} {h:Hop} {D:Int→Prop} {s:St}
theorem xC (H:RegOk r)(ha:bF r a=true)(he:Edge r a w h)(hg:GoodS r a d w D s)(hD:∀v k,Edge r a v k→D k.join→VD r a d v)(hr:bC s.res=true)(hv:VD r a d w) :
  ∃s' f,ju r (kG r a w) h s=some (s',f)∧(f=0→GoodS r a d (w++[h]) (fun e=>D e∨e=h.join) s'∧VD r a d (w++[h])∧bC s'.res=true):=by
 have T:=he.thru H ha hv;have hsm:=hg.small H ha hD;have hdv:=iz T.v;generalize hnx:nx r (kG r a w) h (jN r a d w)=X at T;have hb:wW ⟨s.res,[],0⟩+wD (jN r a d w)+most<lim:=by simp only[wW,wRs,most,lim];omega
 have go:∃w' g',eb h.join h.back (mw r h.join).lens 0 [] [] ⟨s.res,[],0⟩ (ofD (jN r a d w))=some (w',g')∧ay g'=jN r a d (w++[h])∧srt w'.res∧(∀p,rL h.join [] [] 0 p→pd p w'.res=X.2.2 p)∧(∀p,¬rL h.join [] [] 0 p→pd p w'.res=pd p s.res)∧w'.err=0:=by
  by_cases hd:D h.join
  ·obtain⟨w',g',q1,q2,q3,q4,q5,q6,_⟩:=T.again ⟨s.res,[],0⟩ hg.srt (fun p hp=>by have:=hg.on w h he hd p (jW hp);rw[gF (fun hq=>by have:=hq.length_le;simp at this;omega),hnx] at this;exact this) hb;exact⟨w',g',q1,q2,q3,q4,q5,q6⟩
  ·obtain⟨w',g',q1,q2,q3,q4,q5,q6,_⟩:=T.first ⟨s.res,[],0⟩ hg.srt (fun p hp=>hg.out p fun⟨v,k,_,e,hd'⟩=>hd (by rw[jW hp] at hd';exact hd')) hb;exact⟨w',g',q1,q2,q3,q4,q5,q6⟩
 obtain⟨w',g',q1,q2,q3,q4,q5,q6⟩:=go;obtain⟨s',f,k1,k2⟩:=x9 T.lz hr (by rw[hg.doc];exact T.v) (by rw[hg.doc];exact q1) q6 q2 T.out.1;refine⟨s',f,by rw[qP (mB hsm (by rw[hg.doc];omega))];exact k1,fun hf=>?_⟩;obtain⟨rfl,k3,k4⟩:=k2 hf;refine⟨⟨rfl,q3,?_,?_⟩,?_,k3⟩
 ·intro v k hk hd p hp;by_cases e:k.join=h.join
  ·obtain⟨rfl,rfl⟩:=hk.inj H ha he e;rw[jo (List.prefix_refl _),hnx];by_cases hrl:rL k.join [] [] 0 p
   ·exact q4 p hrl
   ·rw[q5 p hrl,T.supB p hrl];by_cases hd':D k.join
    ·rw[hg.on v k hk hd' p hp,gF (fun hq=>by have:=hq.length_le;simp at this;omega),hnx,T.supA p hrl]
    ·exact hg.out p fun⟨v',k',_,e',hd''⟩=>hd' (by rw[hp] at hd'';exact hd'')
  ·have hd':D k.join:=by
    rcases hd with hd|hd
    ·exact hd
    ·exact(e hd).elim
   rw[q5 p fun hrl=>e (by rw[←hp,jW hrl]),hg.on v k hk hd' p hp];by_cases hpre:(v++[k]) <+: w
   ·rw[jo hpre,jo (hpre.trans (List.prefix_append _ _))]
   ·rw[gF hpre,gF];rw[rc];rintro(hq|hq)
    ·have:=List.append_inj' hq rfl;simp only[List.cons.injEq,and_true] at this;exact e (by rw[this.2])
    ·exact hpre hq
 ·intro p hp;have hne:p.1≠h.join:=fun e=>hp ⟨w,h,he,e.symm,.inr e⟩
  rw[q5 p fun hrl=>hne (jW hrl)];exact hg.out p fun⟨v,k,hk,e,hd⟩=>hp ⟨v,k,hk,e,.inl hd⟩
 ·unfold VD;rw[m7];exact k4
theorem Fg (H:RegOk r)(ha:bF r a=true)(he:Edge r a w h)(hg:GoodS r a d (w++[h]) D s)(hd:D h.join)(hD:∀v k,Edge r a v k→D k.join→VD r a d v)(hr:bC s.res=true)(hv:VD r a d w)(hv':VD r a d (w++[h])) :
  ∃s' f,ju r (cJ r h) (li h) s=some (s',f)∧(f=0→GoodS r a d w D s'∧bC s'.res=true):=by
 have T:=he.thru H ha hv;have hsm:=hg.small H ha hD;unfold VD at hv';rw[m7] at hv';have hdv:=iz hv';have hcur:(w++[h]) <+: (w++[h]):=List.prefix_refl _;have hon:∀p:Plc,p.1=h.join→pd p s.res=(nx r (kG r a w) h (jN r a d w)).2.2 p:=fun p hp=>(hg.on w h he hd p hp).trans (jo hcur)
 generalize hnx:nx r (kG r a w) h (jN r a d w)=X at T hon;obtain⟨N,hback⟩:=T.back;obtain⟨w',g',q1,q2,q3,q4,q5,q6,_⟩:=hback ⟨s.res,[],0⟩ hg.srt (fun p hp=>hon p (jW hp)) (by simp only[wW,wRs,most,lim];omega);obtain⟨v1,v2,v3⟩:=(fZ _ _).1 T.v;obtain⟨s',f,k1,k2⟩:=x9 (e:=h.join) (s:=s) T.lz.turn hr (by rw[hg.doc];exact hv') (by rw[hg.doc];exact q1) q6 q2 v3;have hflip:ju r (cJ r h) (li h) s=goB (gU r (cJ r h)) (mw r h.join).lens h.join (!h.back) s:=qP (mB hsm (by rw[hg.doc];omega));rw[hflip];refine⟨s',f,k1,fun hf=>?_⟩;obtain⟨rfl,k3,k4⟩:=k2 hf;refine⟨⟨rfl,q3,?_,?_⟩,k3⟩
 ·intro v k hk hd' p hp;by_cases e:k.join=h.join
  ·obtain⟨rfl,rfl⟩:=hk.inj H ha he e;rw[gF (fun hq=>by have:=hq.length_le;simp at this;omega),hnx];by_cases hrl:rL k.join [] [] 0 p
   ·exact q4 p hrl
   ·rw[q5 p hrl,T.supA p hrl];show pd p s.res=none;rw[hon p hp,T.supB p hrl]
  ·rw[q5 p fun hrl=>e (by rw[←hp,jW hrl])];show pd p s.res=_;rw[hg.on v k hk hd' p hp];by_cases hpre:(v++[k]) <+: w
   ·rw[jo hpre,jo (hpre.trans (List.prefix_append _ _))]
   ·rw[gF hpre,gF];rw[rc];rintro(hq|hq)
    ·have:=List.append_inj' hq rfl;simp only[List.cons.injEq,and_true] at this;exact e (by rw[this.2])
    ·exact hpre hq
 ·intro p hp;have hne:p.1≠h.join:=fun e=>hp ⟨w,h,he,e.symm,by rw[e];exact hd⟩
  rw[q5 p fun hrl=>hne (jW hrl)];exact hg.out p hp
theorem xP (H:RegOk r)(ha:bF r a=true)(he:Edge r a w h)(hg:GoodS r a d w D s)(hD:∀v k,Edge r a v k→D k.join→VD r a d v)(hv:VD r a d w) :
  ∃s',ky r (kG r a w) h s=some s'∧(GoodS r a d w D s'∨GoodS r a d w (fun e=>D e∨e=h.join) s'):=by
 have T:=he.thru H ha hv;have hdv:=iz T.v;generalize hnx:nx r (kG r a w) h (jN r a d w)=X at T;obtain⟨w',g',q1,q2,q3,q4,q5,q6,q7,q8⟩:=T.first ⟨[],[],0⟩ (by simp[srt]) (fun _ _=>rfl) (by simp[wW,wRs,most,lim];omega);obtain⟨n1,n2⟩:=q8 (by simp[srt]);obtain⟨_,v2,v3⟩:=(fZ _ _).1 T.v;have hok:=zu ((eV _).1 v2).2.2 T.lz.gt.kind v3;have G:=uB (s:=⟨jN r a d w,[]⟩) T.lz.target vi T.v hok q1 q6;have same:GoodS r a d w D ⟨s.doc,iS s.res []⟩:=hg;have hs:okS s=true:=mB (hg.small H ha hD) (by rw[hg.doc];omega);have key:∀N,jx (gU r (kG r a w)) (mw r h.join).lens h.join h.back ⟨jN r a d w,[]⟩=some N→wRs N.2.1<lim→ky r (kG r a w) h s=some ⟨s.doc,iS s.res N.2.1⟩:=fun N h1 h2=>by unfold ky yn;rw[if_pos hs,hg.doc,h1];simp only[Option.map_some];rw[if_pos h2]
 by_cases hr:bC w'.res=false
 ·rw[if_pos hr] at G;exact⟨_,key _ G (by decide),.inl same⟩
 rw[if_neg hr] at G;by_cases hd:dS (ay g')=false
 ·rw[if_pos hd] at G;exact⟨_,key _ G (by decide),.inl same⟩
 rw[if_neg hd] at G;refine⟨_,key _ G (by simp only[wW,wRs,most] at q7;show wRs w'.needs<lim;unfold lim;omega),.inr ?_⟩;clear key;obtain⟨p1,p2⟩:=pG w'.needs s.res n1 hg.srt;have hN:∀p,pd p w'.needs=X.2.1 p:=fun p=>by rw[n2 p];show(X.2.1 p).or none=X.2.1 p;cases X.2.1 p<;>rfl
 refine⟨hg.doc,p1,?_,?_⟩
 ·intro v k hk hd' p hp;show pd p (iS s.res w'.needs)=_;rw[p2,hN];by_cases e:k.join=h.join
  ·obtain⟨rfl,rfl⟩:=hk.inj H ha he e;have hs:∀A B,side (v++[k]) v A B=A:=fun _ _=>gF fun hq=>by have:=hq.length_le;simp at this;omega
   rw[hs,hnx];by_cases hd2:D k.join
   ·rw[hg.on v k hk hd2 p hp,hs,hnx];cases X.2.1 p<;>rfl
   ·rw[hg.out p fun⟨v',k',_,e',hd''⟩=>hd2 (by rw[hp] at hd'';exact hd'')];rfl
  ·have hd2:D k.join:=by
    rcases hd' with hd'|hd'
    ·exact hd'
    ·exact(e hd').elim
   rw[(T.sup (fun hq=>e (hp.symm.trans hq))).1,hg.on v k hk hd2 p hp];cases side _ _ _ _<;>rfl
 ·intro p hp;show pd p (iS s.res w'.needs)=none;have hne:p.1≠h.join:=fun e=>hp ⟨w,h,he,e.symm,.inr e⟩
  rw[p2,hN,(T.sup hne).1,hg.out p fun⟨v,k,hk,e,hd⟩=>hp ⟨v,k,hk,e,.inl hd⟩];rfl
end
end Go.V
end
