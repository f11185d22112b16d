/-
  A part of a proof: N3 N4 N5 N6 N7 U13.
-/
import Derived.Test.YtkfjenbfbendhaaGreatDoorLk23
import Derived.Test.YtkfjenbfbendhaaGreatDoorLk28
set_option linter.unusedSimpArgs false
set_option linter.unusedVariables false
section
set_option maxHeartbeats 4000000
namespace Go.V
open Go Go.Proofs
attribute [local irreducible] W bO WD aO yl aS bW
section
variable (Γ:Glo Tryz.prog)
attribute [local simp] veq bP ei V.del
def en:Nat→Doc→Int
 |0,_=>0
 |n+1,d=>if 600<d.kids.length∨600<d.keys.length∨600<d.str.length then 0
  else match dj 700 (en n) d.kids 700 with
   |none=>0
   |some b=>if d.keys.any (fun s=>decide (600<s.length)) then 0 else b-1
theorem ly:∀(n:Nat)(d:Doc),en n d≤699∧0≤en n d
 |0,d=>by simp[en]
 |n+1,d=>by
  rw[en]
  split
  ·
   omega
  ·
   cases h:dj 700 (en n) d.kids 700 with
   |none=>simp
   |some b=>
    have hh:=jy (fun x=>by have:=(ly n x).1;omega) h
    have h1:=hh.2 (by omega)
    have h2:=hh.1
    simp only
    split<;>omega
theorem f26z (d:Doc):PureOk Tryz.prog Γ 26 [.ag (aH d),.int .i64 0] (.int .i64 0):=by
 refine Y2 73 Tryz.func26 rfl rfl fun a hl g0 g1=>?_
 repeat' first|refine G1 ?_|(refine G2 ?_ ?_<;>intro hc hd<;>try exact hd.elim)|fail
 all_goals exact⟨by simp,.int .i64 0,1,by simp[Tryz.f26, *],rfl⟩
theorem f26a (d:Doc)(n:Int)(hn:0<n)(h:600<d.kids.length∨600<d.keys.length∨600<d.str.length):PureOk Tryz.prog Γ 26 [.ag (aH d),.int .i64 n] (.int .i64 0):=by
 have hn':¬n≤0:=by omega
 by_cases h1:(600:Int)<d.kids.length
 ·
  refine Y2 73 Tryz.func26 rfl rfl fun a hl g0 g1=>?_
  repeat' first|refine G1 ?_|(refine G2 ?_ ?_<;>intro hc hd<;>try exact hd.elim)|fail
  all_goals exact⟨by simp,.int .i64 0,1,by simp[Tryz.f26, *],rfl⟩
 by_cases h2:(600:Int)<d.keys.length
 ·
  refine Y2 73 Tryz.func26 rfl rfl fun a hl g0 g1=>?_
  repeat' first|refine G1 ?_|(refine G2 ?_ ?_<;>intro hc hd<;>try exact hd.elim)|fail
  all_goals exact⟨by simp,.int .i64 0,1,by simp[Tryz.f26, *],rfl⟩
 have h3:(600:Int)<d.str.length:=by omega
 refine Y2 73 Tryz.func26 rfl rfl fun a hl g0 g1=>?_
 repeat' first|refine G1 ?_|(refine G2 ?_ ?_<;>intro hc hd<;>try exact hd.elim)|fail
 all_goals exact⟨by simp,.int .i64 0,1,by simp[Tryz.f26, *],rfl⟩
theorem f26n (n:Nat)(hn0:n<1000)(d:Doc)(hs:¬(600<d.kids.length∨600<d.keys.length∨600<d.str.length))(ih:∀x,PureOk Tryz.prog Γ 26 [.ag (aH x),.int .i64 n] (.int .i64 (en n x))):PureOk Tryz.prog Γ 26 [.ag (aH d),.int .i64 ((n:Int)+1)] (.int .i64 (en (n+1) d)):=by
 obtain⟨v,hv⟩:∃v,v=en (n+1) d:=⟨_,rfl⟩
 rw[←hv]
 rw[en,if_neg hs] at hv
 have hn':¬(n:Int)+1≤0:=by omega
 have hwn:=ad ((n:Int)+1-1) (by omega) (by omega)
 rw[show(n:Int)+1-1=n by omega] at hwn
 have h1:¬(600:Int)<d.kids.length:=by omega
 have h2:¬(600:Int)<d.keys.length:=by omega
 have h3:¬(600:Int)<d.str.length:=by omega
 have h4:d.kids.length≤600:=by omega
 have h5:d.keys.length≤600:=by omega
 clear hs
 refine Y2 73 Tryz.func26 rfl rfl fun a hl g0 g1=>?_
 repeat' first|refine G1 ?_|(refine G2 ?_ ?_<;>intro hc hd<;>try exact hd.elim)|fail
 refine am [(4,4),(7,7),(29,56)] [6,5] (fun k a h=>∃pre rest b,d.kids=pre++rest∧dj 700 (en n) pre 700=some b∧k=rest.length∧lk a 5=some (.int .i64 b)∧lk a 6=some (.int .i64 pre.length)∧h=[(0,.cells (aH d) 30 false)]) ⟨[],d.kids,700,rfl,rfl,rfl,by simp[*],by simp[*],rfl⟩ ?_
 intro a1 hk hk0 k a h hF hI
 replace g1:=hF.a hk 1
 replace g2:=hF.a hk 2
 replace hl:a.length=73:=hF.len.trans (hk0.trans (by simp[*]))
 clear hk hk0
 obtain⟨pc,rest,b,hl3,hgo,rfl,h7,h8,rfl⟩:=hI
 have hb1:=jy (fun x=>by have:=(ly n x).1;omega) hgo
 have hb2:=hb1.2 (by omega)
 have hb3:=hb1.1
 cases rest with
 |nil=>
  rw[List.append_nil] at hl3
  have hge3:¬(pc.length:Int)<d.kids.length:=by rw[hl3];omega
  rw[←hl3] at hgo
  rw[hgo] at hv
  simp only at hv
  have hwb:=ad (b-1) (by omega) (by omega)
  clear ih hl3
  repeat' first|refine G1 ?_|(refine G2 ?_ ?_<;>intro hc hd<;>try exact hd.elim)|fail
  refine am [(4,4),(57,70)] [8] (fun k a h=>∃pre rest,d.keys=pre++rest∧pre.any (fun s=>decide (600<s.length))=false∧k=rest.length∧lk a 8=some (.int .i64 pre.length)∧h=[(0,.cells (aH d) 30 false)]) ⟨[],d.keys,rfl,rfl,rfl,by simp[*],rfl⟩ ?_
  intro a1 hk hk0 k a h hF hI
  replace g2:=hF.a hk 2
  replace g5:=hF.a hk 5
  replace hl:a.length=73:=hF.len.trans (hk0.trans (by simp[*]))
  clear hk hk0
  obtain⟨pre,rest,hl1,hp,rfl,hix,rfl⟩:=hI
  cases rest with
  |nil=>
   rw[List.append_nil] at hl1
   have hge:¬(pre.length:Int)<d.keys.length:=by rw[hl1];omega
   rw[hl1,if_neg (by rw[hp];simp)] at hv
   rw[hv]
   clear hv hp hl1
   repeat' first|refine G1 ?_|(refine G2 ?_ ?_<;>intro hc hd<;>try exact hd.elim)|fail
   exact⟨by simp,.int .i64 (b-1),1,by simp[Tryz.f26, *],rfl⟩
  |cons s r=>
   have z1:(pre.length:Int)<d.keys.length:=by rw[hl1];simp<;>omega
   have z2:pre.length<d.keys.length:=by omega
   have z3:pre.length≤d.keys.length:=by omega
   have hrd:(row aW d.keys).drop pre.length=.str s::row aW r:=by rw[hl1];exact fH pre r s
   have hk0:(row aW d.keys)[pre.length]?=some (.str s):=by
    have h:=congrArg (fun l:List Val=>l[0]?) hrd
    simpa using h
   have hw:=ad ((pre.length:Int)+1) (by omega) (by omega)
   by_cases hsl:(600:Int)<s.length
   ·
    have hv0:v=0:=by
     rw[hv,if_pos]
     rw[hl1,List.any_append,List.any_cons]
     have:600<s.length:=by omega
     simp[this]
    rw[hv0]
    clear hv0 hv hl1
    repeat' first|refine G1 ?_|(refine G2 ?_ ?_<;>intro hc hd<;>try exact hd.elim)|fail
    exact⟨by simp,.int .i64 0,1,by simp[Tryz.f26, *],rfl⟩
   ·
    have hp':(pre++[s]).any (fun s=>decide (600<s.length))=false:=by
     rw[List.any_append,hp]
     have:¬600<s.length:=by omega
     simp[this]
    have q1:d.keys=(pre++[s])++r:=by rw[hl1];simp
    replace q1:Hid d.keys ((pre++[s])++r):=q1
    replace hp':Hid ((pre++[s]).any (fun s=>decide (600<s.length))) false:=hp'
    clear hv hl1 hp
    repeat' first|refine G1 ?_|(refine G2 ?_ ?_<;>intro hc hd<;>try exact hd.elim)|fail
    exact NX [(0,.cells (aH d) 30 false)] fun a2 hF2=>⟨pre++[s],r,q1,hp',rfl,(hF2.q 8),rfl⟩
 |cons x r=>
  have hx:=ih x
  have hx0:=(ly n x).1
  have hx1:=(ly n x).2
  have z1:(pc.length:Int)<d.kids.length:=by rw[hl3];simp<;>omega
  have z2:pc.length<d.kids.length:=by omega
  have z3:pc.length≤d.kids.length:=by omega
  have z4:pc.length*5≤d.kids.length*5:=by omega
  have hw:=ad ((pc.length:Int)+1) (by omega) (by omega)
  have hwb:=ad (b-700) (by omega) (by omega)
  have hwc:=ad (b-700+en n x) (by omega) (by omega)
  have hsn:dj 700 (en n) d.kids 700=dj 700 (en n) (x::r) b:=by rw[hl3];exact jF hgo
  rw[dj] at hsn
  rw[hsn] at hv
  have hnx:dj 700 (en n) (pc++[x]) 700=if en n x=0∨b-700+en n x≤1 then none else some (b-700+en n x):=by
   rw[jF hgo,dj]
   split
   ·
    rfl
   ·
    rfl
  have hq:d.kids=(pc++[x])++r:=by rw[hl3];simp
  replace hq:Hid d.kids ((pc++[x])++r):=hq
  have hrd:(row aH d.kids).drop (pc.length*5)=aH x++row aH r:=by rw[hl3];exact oG pc r x
  have hta:List.take 5 (aH x++row aH r)=aH x:=List.take_left' (bS _)
  generalize en n x=k at *
  clear hl3 hgo hb1 hsn
  by_cases hk0:k=0
  ·
   rw[if_pos (.inl hk0)] at hv
   simp only at hv
   rw[hv]
   clear hv hnx
   subst hk0
   repeat' first|refine G1 ?_|(refine G2 ?_ ?_<;>intro hc hd<;>try exact hd.elim)|fail
   all_goals (try (refine aC hx ?_))
   repeat' first|refine G1 ?_|(refine G2 ?_ ?_<;>intro hc hd<;>try exact hd.elim)|fail
   exact⟨by simp,.int .i64 0,1,by simp[Tryz.f26, *],rfl⟩
  by_cases hk1:b-700+k≤1
  ·
   rw[if_pos (.inr hk1)] at hv
   simp only at hv
   rw[hv]
   clear hv hnx
   repeat' first|refine G1 ?_|(refine G2 ?_ ?_<;>intro hc hd<;>try exact hd.elim)|fail
   all_goals (try (refine aC hx ?_))
   repeat' first|refine G1 ?_|(refine G2 ?_ ?_<;>intro hc hd<;>try exact hd.elim)|fail
   exact⟨by simp,.int .i64 0,1,by simp[Tryz.f26, *],rfl⟩
  rw[if_neg (by omega)] at hnx
  replace hnx:Hid (dj 700 (en n) (pc++[x]) 700) (some (b-700+k)):=hnx
  clear hv
  repeat' first|refine G1 ?_|(refine G2 ?_ ?_<;>intro hc hd<;>try exact hd.elim)|fail
  all_goals (try (refine aC hx ?_))
  repeat' first|refine G1 ?_|(refine G2 ?_ ?_<;>intro hc hd<;>try exact hd.elim)|fail
  exact NX [(0,.cells (aH d) 30 false)] fun a2 hF2=>⟨pc++[x],r,b-700+k,hq,hnx,rfl,(hF2.q 5),(hF2.q 6),rfl⟩
theorem f26:∀(n:Nat),n<1000→∀d:Doc,PureOk Tryz.prog Γ 26 [.ag (aH d),.int .i64 n] (.int .i64 (en n d))
 |0,_,d=>f26z Γ d
 |n+1,hn,d=>by
  by_cases hs:600<d.kids.length∨600<d.keys.length∨600<d.str.length
  ·
   have h:=f26a Γ d ((n:Int)+1) (by omega) hs
   rw[en,if_pos hs]
   exact h
  ·
   exact f26n Γ n (by omega) d hs fun x=>f26 n (by omega) x
theorem f8 (d:Doc):PureOk Tryz.prog Γ 8 [.ag (aH d)] (.bool (decide (0<en 20 d))):=by
 have h:=f26 Γ 20 (by omega) d
 simp only[Int.cast_ofNat_Int] at h
 have hd5:List.take 5 (aH d)=aH d:=List.take_of_length_le (by rw[bS];omega)
 generalize en 20 d=k at *
 by_cases hk:0<k
 ·
  refine Y1 6 Tryz.func8 rfl rfl fun a hl g0=>?_
  repeat' first|refine G1 ?_|(refine G2 ?_ ?_<;>intro hc hd<;>try exact hd.elim)|fail
  all_goals (try (refine aC h ?_))
  repeat' first|refine G1 ?_|(refine G2 ?_ ?_<;>intro hc hd<;>try exact hd.elim)|fail
  exact⟨by simp,.bool true,1,by simp[Tryz.f8, *],by simp[vw,Val.closed,hk]⟩
 ·
  refine Y1 6 Tryz.func8 rfl rfl fun a hl g0=>?_
  repeat' first|refine G1 ?_|(refine G2 ?_ ?_<;>intro hc hd<;>try exact hd.elim)|fail
  all_goals (try (refine aC h ?_))
  repeat' first|refine G1 ?_|(refine G2 ?_ ?_<;>intro hc hd<;>try exact hd.elim)|fail
  exact⟨by simp,.bool false,1,by simp[Tryz.f8, *],by simp[vw,Val.closed,hk]⟩
theorem oq {g:Doc→Int}{c:Int}{wt:Doc→Nat}{K:Nat}(hg:∀x,0<g x→(wt x:Int)≤K*(c-g x))(h0:∀x,0≤g x):∀{l:List Doc}{b m:Int},dj c g l b=some m→((l.map wt).sum:Int)≤K*(b-m)
 |[],b,m,h=>by cases h;simp
 |x::l,b,m,h=>by
  rw[dj] at h
  split at h
  ·
   cases h
  ·
   rename_i hc
   have h1:=oq hg h0 h
   have h2:=hg x (by have:=h0 x;omega)
   have h3:(K:Int)*(b-m)=K*(b-c+g x-m)+K*(c-g x):=by rw[←Int.mul_add];congr 1;omega
   rw[List.map_cons,List.sum_cons,h3]
   omega
theorem wh:∀l:List Doc,wDs l=(l.map wD).sum
 |[]=>rfl
 |t::l=>by rw[wDs,List.map_cons,List.sum_cons,wh l]
theorem uy:∀(n:Nat)(d:Doc),0<en n d→(wD d:Int)≤361201*(700-en n d)
 |0,d,h=>by simp[en] at h
 |n+1,d,h=>by
  rw[en] at h ⊢
  split at h
  ·
   cases h
  rename_i h1
  rw[if_neg h1]
  cases hg:dj 700 (en n) d.kids 700 with
  |none=>rw[hg] at h;cases h
  |some b=>
   rw[hg] at h
   simp only at h ⊢
   split at h
   ·
    cases h
   rename_i h2
   rw[if_neg h2]
   have hs:=oq (K:=361201) (wt:=wD) (fun x hx=>uy n x hx) (fun x=>(ly n x).2) hg
   have hn:dD d.keys≤d.keys.length*601:=kX fun s hs=>by
    rcases Nat.lt_or_ge 600 s.length with h4|h4
    ·
     exfalso;apply h2;rw[List.any_eq_true];exact⟨s,hs,by simpa using h4⟩
    ·
     exact h4
   rw[im,wh]
   have e1:d.keys.length≤600:=by omega
   have e3:d.keys.length*601≤600*601:=Nat.mul_le_mul_right _ e1
   omega
theorem f8_small {d:Doc}(h:0<en 20 d):wD d<300000000:=by
 have h1:=uy 20 d h
 omega
theorem f6_small {t:Ty}(h:0<eW 20 t):wT t<5000000:=by
 have h1:=uz 20 t h
 omega
end
end Go.V
end
section
set_option maxHeartbeats 4000000
namespace Go.V
open Go Go.Proofs
attribute [local irreducible] W bO WD aO yl aS bW
section
variable (Γ:Glo Tryz.prog)
attribute [local simp] veq bP ei V.del
def jz (g:List Lns→Int):List Lns→Int→Option Int
 |[],b=>some b
 |s::r,b=>if 0<eW 20 s.ty∧0<en 20 s.doc∧0≤g s.subs∧s.swaps.length≤100∧s.a.length+s.b.length≤200∧b+g s.subs≤100 then jz g r (b+g s.subs) else none
def ew:Nat→List Lns→Int
 |0,_=>-1
 |m+1,l=>if 100<l.length then -1 else match jz (ew m) l l.length with
  |some b=>b
  |none=>-1
theorem ou {g:List Lns→Int}:∀{a b:List Lns}{n m:Int},jz g a n=some m→jz g (a++b) n=jz g b m
 |[],b,n,m,h=>by cases h;rfl
 |x::a,b,n,m,h=>by
  rw[jz] at h
  rw[List.cons_append,jz]
  split at h
  ·
   rename_i hc;rw[if_pos hc];exact ou h
  ·
   cases h
theorem rz {g:List Lns→Int}:∀{a:List Lns}{n m:Int},n≤100→jz g a n=some m→n≤m∧m≤100
 |[],n,m,h0,h=>by cases h;exact⟨by omega,h0⟩
 |x::a,n,m,h0,h=>by
  rw[jz] at h
  split at h
  ·
   rename_i hc
   have:=rz hc.2.2.2.2.2 h
   omega
  ·
   cases h
theorem vy:∀(m:Nat)(l:List Lns),-1≤ew m l∧ew m l≤100
 |0,l=>by simp[ew]
 |m+1,l=>by
  rw[ew]
  split
  ·
   omega
  ·
   cases h:jz (ew m) l l.length with
   |none=>simp
   |some b=>
    have:=rz (by omega) h
    simp only;omega
theorem yD:∀(m:Nat)(l:List Lns),0≤ew m l→(wNs l:Int)≤257454900*ew m l
 |0,l,h=>by simp[ew] at h
 |m+1,l,h=>by
  rw[ew] at h ⊢
  split at h
  ·
   omega
  rename_i h1
  rw[if_neg h1]
  have key:∀(l:List Lns) (b r:Int),jz (ew m) l b=some r→(wNs l:Int)≤257454900*(r-b+l.length):=by
   intro l
   induction l with
   |nil=>intro b r h;cases h;simp[wNs]
   |cons s l ih=>
    intro b r h
    rw[jz] at h
    split at h
    ·
     rename_i hc
     obtain⟨c1,c2,c3,c4,c5,c6⟩:=hc
     have e1:=ih _ _ h
     have e2:=yD m s.subs c3
     have e3:=uz 20 s.ty c1
     have e4:=uy 20 s.doc c2
     simp only[wNs,List.length_cons]
     rw[eM]
     omega
    ·
     cases h
  cases hg:jz (ew m) l l.length with
  |none=>rw[hg] at h;simp at h
  |some b=>
   have:=key _ _ _ hg
   simp only
   rw[show b-(l.length:Int)+l.length=b by omega] at this
   exact this
theorem f25z (l:List Lns):PureOk Tryz.prog Γ 25 [sls aK l,.int .i64 (-1)] (.int .i64 (-1)):=by
 refine Y2 86 Tryz.func25 rfl rfl fun a hl g0 g1=>?_
 repeat' first|refine G1 ?_|(refine G2 ?_ ?_<;>intro hc hd<;>try exact hd.elim)|fail
 all_goals exact⟨by simp,.int .i64 (-1),1,by simp[Tryz.f25, *],rfl⟩
theorem f25a (l:List Lns)(n:Int)(h:100<l.length):PureOk Tryz.prog Γ 25 [sls aK l,.int .i64 n] (.int .i64 (-1)):=by
 have h1:(100:Int)<l.length:=by omega
 refine Y2 86 Tryz.func25 rfl rfl fun a hl g0 g1=>?_
 repeat' first|refine G1 ?_|(refine G2 ?_ ?_<;>intro hc hd<;>try exact hd.elim)|fail
 all_goals exact⟨by simp,.int .i64 (-1),1,by simp[Tryz.f25, *],rfl⟩
end
end Go.V
end
section
set_option maxHeartbeats 4000000
namespace Go.V
open Go Go.Proofs
attribute [local irreducible] W bO WD aO yl aS bW
section
variable (Γ:Glo Tryz.prog)
attribute [local simp] veq bP ei V.del
theorem f25n (m:Nat)(hm0:m<1000)(l:List Lns)(hs:¬100<l.length)(hsh:∀s∈l,s.a.length<4000000000000000000∧s.b.length<4000000000000000000)(ih:∀s∈l,PureOk Tryz.prog Γ 25 [sls aK s.subs,.int .i64 ((m:Int)-1)] (.int .i64 (ew m s.subs))):PureOk Tryz.prog Γ 25 [sls aK l,.int .i64 (m:Int)] (.int .i64 (ew (m+1) l)):=by
 obtain⟨v,hv⟩:∃v,v=ew (m+1) l:=⟨_,rfl⟩
 rw[←hv]
 rw[ew,if_neg hs] at hv
 have hn':¬(m:Int)<0:=by omega
 have hwn:=ad ((m:Int)-1) (by omega) (by omega)
 have h1:¬(100:Int)<l.length:=by omega
 have h2:l.length≤100:=by omega
 clear hs
 refine Y2 86 Tryz.func25 rfl rfl fun a hl g0 g1=>?_
 repeat' first|refine G1 ?_|(refine G2 ?_ ?_<;>intro hc hd<;>try exact hd.elim)|fail
 refine am [(4,4),(7,9),(19,84)] [6,5] (fun k a h=>∃pre rest b,l=pre++rest∧jz (ew m) pre l.length=some b∧k=rest.length∧lk a 5=some (.int .i64 b)∧lk a 6=some (.int .i64 pre.length)∧h=[]) ⟨[],l,l.length,rfl,rfl,rfl,by simp[*],by simp[*],rfl⟩ ?_
 intro a1 hk hk0 k a h hF hI
 replace g0:=hF.a hk 0
 replace g1:=hF.a hk 1
 replace hl:a.length=86:=hF.len.trans (hk0.trans (by simp[*]))
 clear hk hk0
 obtain⟨pre,rest,b,hl3,hgo,rfl,h5,h6,rfl⟩:=hI
 have hb:=rz (by omega) hgo
 cases rest with
 |nil=>
  rw[List.append_nil] at hl3
  have hge:¬(pre.length:Int)<l.length:=by rw[hl3];omega
  rw[←hl3] at hgo
  rw[hgo] at hv
  simp only at hv
  rw[hv]
  clear hv ih hl3 hgo
  repeat' first|refine G1 ?_|(refine G2 ?_ ?_<;>intro hc hd<;>try exact hd.elim)|fail
  exact⟨by simp,.int .i64 b,1,by simp[Tryz.f25, *],rfl⟩
 |cons s r=>
  have hsm:s∈l:=by rw[hl3];simp
  have hx:=ih s hsm
  have hab:=hsh s hsm
  have hx0:=vy m s.subs
  have k6:=f6 Γ s.ty
  have k8:=f8 Γ s.doc
  have z1:(pre.length:Int)<l.length:=by rw[hl3];simp<;>omega
  have z2:pre.length<l.length:=by omega
  have z3:pre.length≤l.length:=by omega
  have z4:pre.length*16≤l.length*16:=by omega
  have hw:=ad ((pre.length:Int)+1) (by omega) (by omega)
  have hwb:=ad (b+ew m s.subs) (by omega) (by omega)
  have hsn:=ou (b:=s::r) hgo
  rw[←hl3] at hsn
  rw[jz] at hsn
  rw[hsn] at hv
  have hnx:jz (ew m) (pre++[s]) l.length=if 0<eW 20 s.ty∧0<en 20 s.doc∧0≤ew m s.subs∧s.swaps.length≤100∧s.a.length+s.b.length≤200∧b+ew m s.subs≤100 then some (b+ew m s.subs) else none:=by
   rw[ou hgo,jz]
   split
   ·
    rfl
   ·
    rfl
  have hq:l=(pre++[s])++r:=by rw[hl3];simp
  replace hq:Hid l ((pre++[s])++r):=hq
  have hrd:(row aK l).drop (pre.length*16)=.int .i64 s.kind :: .str s.a :: .str s.b::(cTy s.ty++(aH s.doc++(sls bx s.swaps::sls aK s.subs::row aK r))):=by
   rw[hl3,oH,eN];simp
  have hr3:(row aK l).drop (pre.length*16+3)=cTy s.ty++(aH s.doc++(sls bx s.swaps::sls aK s.subs::row aK r)):=by
   rw[←List.drop_drop,hrd];rfl
  have hr9:(row aK l).drop (pre.length*16+9)=aH s.doc++(sls bx s.swaps::sls aK s.subs::row aK r):=by
   rw[show pre.length*16+9=pre.length*16+3+6 by omega,←List.drop_drop,hr3];exact List.drop_left' (by simp)
  have hr14:(row aK l).drop (pre.length*16+14)=sls bx s.swaps::sls aK s.subs::row aK r:=by
   rw[show pre.length*16+14=pre.length*16+9+5 by omega,←List.drop_drop,hr9];exact List.drop_left' (by simp)
  have hr15:(row aK l).drop (pre.length*16+15)=sls aK s.subs::row aK r:=by
   rw[show pre.length*16+15=pre.length*16+14+1 by omega,←List.drop_drop,hr14];rfl
  have e11:List.drop 11 (cTy s.ty++(aH s.doc++(sls bx s.swaps::sls aK s.subs::row aK r)))=sls bx s.swaps::sls aK s.subs::row aK r:=by
   rw[show 11=6+5 by rfl,←List.drop_drop,List.drop_left' (by simp)];exact List.drop_left' (by simp)
  have e12:List.drop 12 (cTy s.ty++(aH s.doc++(sls bx s.swaps::sls aK s.subs::row aK r)))=sls aK s.subs::row aK r:=by
   rw[show 12=11+1 by rfl,←List.drop_drop,e11];rfl
  have y11:11≤6+(5+(r.length*16+1+1)):=by omega
  have y12:12≤6+(5+(r.length*16+1+1)):=by omega
  have ht6:(cTy s.ty++(aH s.doc++(sls bx s.swaps::sls aK s.subs::row aK r))).take 6=cTy s.ty:=List.take_left' (by simp)
  have ht5:(aH s.doc++(sls bx s.swaps::sls aK s.subs::row aK r)).take 5=aH s.doc:=List.take_left' (by simp)
  have hrl:(row aK l).length=l.length*16:=lh l
  have hw2:=ad ((s.a.length:Int)+s.b.length) (by omega) (by omega)
  by_cases c1:0<eW 20 s.ty
  case neg=>
   rw[if_neg (fun h=>c1 h.1)] at hv
   simp only at hv
   subst hv
   have d1:decide (0<eW 20 s.ty)=false:=decide_eq_false c1
   rw[d1] at k6
   clear hl3 hgo hsn ih hsh hsm
   unfold sls at *
   generalize row aK l=L at *
   generalize l.length=LL at *
   repeat' first|refine G1 ?_|(refine G2 ?_ ?_<;>intro hc hd<;>try exact hd.elim)|fail
   all_goals (try (refine aC k6 ?_))
   repeat' first|refine G1 ?_|(refine G2 ?_ ?_<;>intro hc hd<;>try exact hd.elim)|fail
   all_goals (try (refine aC k8 ?_))
   repeat' first|refine G1 ?_|(refine G2 ?_ ?_<;>intro hc hd<;>try exact hd.elim)|fail
   all_goals (try (refine aC hx ?_))
   repeat' first|refine G1 ?_|(refine G2 ?_ ?_<;>intro hc hd<;>try exact hd.elim)|fail
   all_goals exact⟨by simp,.int .i64 (-1),1,by simp[Tryz.f25, *],rfl⟩
  have d1:decide (0<eW 20 s.ty)=true:=decide_eq_true c1
  rw[d1] at k6
  by_cases c2:0<en 20 s.doc
  case neg=>
   rw[if_neg (fun h=>c2 h.2.1)] at hv
   simp only at hv
   subst hv
   have d2:decide (0<en 20 s.doc)=false:=decide_eq_false c2
   rw[d2] at k8
   clear hl3 hgo hsn ih hsh hsm
   unfold sls at *
   generalize row aK l=L at *
   generalize l.length=LL at *
   repeat' first|refine G1 ?_|(refine G2 ?_ ?_<;>intro hc hd<;>try exact hd.elim)|fail
   all_goals (try (refine aC k6 ?_))
   repeat' first|refine G1 ?_|(refine G2 ?_ ?_<;>intro hc hd<;>try exact hd.elim)|fail
   all_goals (try (refine aC k8 ?_))
   repeat' first|refine G1 ?_|(refine G2 ?_ ?_<;>intro hc hd<;>try exact hd.elim)|fail
   all_goals (try (refine aC hx ?_))
   repeat' first|refine G1 ?_|(refine G2 ?_ ?_<;>intro hc hd<;>try exact hd.elim)|fail
   all_goals exact⟨by simp,.int .i64 (-1),1,by simp[Tryz.f25, *],rfl⟩
  have d2:decide (0<en 20 s.doc)=true:=decide_eq_true c2
  rw[d2] at k8
  by_cases c3:0≤ew m s.subs
  case neg=>
   rw[if_neg (fun h=>c3 h.2.2.1)] at hv
   simp only at hv
   subst hv
   have c3':ew m s.subs<0:=by omega
   clear hl3 hgo hsn ih hsh hsm
   unfold sls at *
   generalize row aK l=L at *
   generalize l.length=LL at *
   repeat' first|refine G1 ?_|(refine G2 ?_ ?_<;>intro hc hd<;>try exact hd.elim)|fail
   all_goals (try (refine aC k6 ?_))
   repeat' first|refine G1 ?_|(refine G2 ?_ ?_<;>intro hc hd<;>try exact hd.elim)|fail
   all_goals (try (refine aC k8 ?_))
   repeat' first|refine G1 ?_|(refine G2 ?_ ?_<;>intro hc hd<;>try exact hd.elim)|fail
   all_goals (try (refine aC hx ?_))
   repeat' first|refine G1 ?_|(refine G2 ?_ ?_<;>intro hc hd<;>try exact hd.elim)|fail
   all_goals exact⟨by simp,.int .i64 (-1),1,by simp[Tryz.f25, *],rfl⟩
  have c3':¬ew m s.subs<0:=by omega
  by_cases c4:s.swaps.length≤100
  case neg=>
   rw[if_neg (fun h=>c4 h.2.2.2.1)] at hv
   simp only at hv
   subst hv
   have c4':(100:Int)<s.swaps.length:=by omega
   clear hl3 hgo hsn ih hsh hsm
   unfold sls at *
   generalize row aK l=L at *
   generalize l.length=LL at *
   repeat' first|refine G1 ?_|(refine G2 ?_ ?_<;>intro hc hd<;>try exact hd.elim)|fail
   all_goals (try (refine aC k6 ?_))
   repeat' first|refine G1 ?_|(refine G2 ?_ ?_<;>intro hc hd<;>try exact hd.elim)|fail
   all_goals (try (refine aC k8 ?_))
   repeat' first|refine G1 ?_|(refine G2 ?_ ?_<;>intro hc hd<;>try exact hd.elim)|fail
   all_goals (try (refine aC hx ?_))
   repeat' first|refine G1 ?_|(refine G2 ?_ ?_<;>intro hc hd<;>try exact hd.elim)|fail
   all_goals exact⟨by simp,.int .i64 (-1),1,by simp[Tryz.f25, *],rfl⟩
  have c4':¬(100:Int)<s.swaps.length:=by omega
  by_cases c5:s.a.length+s.b.length≤200
  case neg=>
   rw[if_neg (fun h=>c5 h.2.2.2.2.1)] at hv
   simp only at hv
   subst hv
   have c5':(200:Int)<(s.a.length:Int)+s.b.length:=by omega
   clear hl3 hgo hsn ih hsh hsm
   unfold sls at *
   generalize row aK l=L at *
   generalize l.length=LL at *
   repeat' first|refine G1 ?_|(refine G2 ?_ ?_<;>intro hc hd<;>try exact hd.elim)|fail
   all_goals (try (refine aC k6 ?_))
   repeat' first|refine G1 ?_|(refine G2 ?_ ?_<;>intro hc hd<;>try exact hd.elim)|fail
   all_goals (try (refine aC k8 ?_))
   repeat' first|refine G1 ?_|(refine G2 ?_ ?_<;>intro hc hd<;>try exact hd.elim)|fail
   all_goals (try (refine aC hx ?_))
   repeat' first|refine G1 ?_|(refine G2 ?_ ?_<;>intro hc hd<;>try exact hd.elim)|fail
   all_goals exact⟨by simp,.int .i64 (-1),1,by simp[Tryz.f25, *],rfl⟩
  have c5':¬(200:Int)<(s.a.length:Int)+s.b.length:=by omega
  by_cases c6:b+ew m s.subs≤100
  case neg=>
   rw[if_neg (fun h=>c6 h.2.2.2.2.2)] at hv
   simp only at hv
   subst hv
   have c6':(100:Int)<b+ew m s.subs:=by omega
   clear hl3 hgo hsn ih hsh hsm
   unfold sls at *
   generalize row aK l=L at *
   generalize l.length=LL at *
   repeat' first|refine G1 ?_|(refine G2 ?_ ?_<;>intro hc hd<;>try exact hd.elim)|fail
   all_goals (try (refine aC k6 ?_))
   repeat' first|refine G1 ?_|(refine G2 ?_ ?_<;>intro hc hd<;>try exact hd.elim)|fail
   all_goals (try (refine aC k8 ?_))
   repeat' first|refine G1 ?_|(refine G2 ?_ ?_<;>intro hc hd<;>try exact hd.elim)|fail
   all_goals (try (refine aC hx ?_))
   repeat' first|refine G1 ?_|(refine G2 ?_ ?_<;>intro hc hd<;>try exact hd.elim)|fail
   all_goals exact⟨by simp,.int .i64 (-1),1,by simp[Tryz.f25, *],rfl⟩
  have c6':¬(100:Int)<b+ew m s.subs:=by omega
  rw[if_pos ⟨c1,c2,c3,c4,c5,c6⟩] at hv hnx
  clear hl3 hgo hsn ih hsh hsm
  unfold sls at *
  generalize row aK l=L at *
  generalize hLL:l.length=LL at *
  replace hLL:Hid l.length LL:=hLL
  repeat' first|refine G1 ?_|(refine G2 ?_ ?_<;>intro hc hd<;>try exact hd.elim)|fail
  all_goals (try (refine aC k6 ?_))
  repeat' first|refine G1 ?_|(refine G2 ?_ ?_<;>intro hc hd<;>try exact hd.elim)|fail
  all_goals (try (refine aC k8 ?_))
  repeat' first|refine G1 ?_|(refine G2 ?_ ?_<;>intro hc hd<;>try exact hd.elim)|fail
  all_goals (try (refine aC hx ?_))
  repeat' first|refine G1 ?_|(refine G2 ?_ ?_<;>intro hc hd<;>try exact hd.elim)|fail
  exact NX [] fun a2 hF2=>⟨pre++[s],r,b+ew m s.subs,hq,hnx,rfl,(hF2.q 5),(hF2.q 6),rfl⟩
end
end Go.V
end
section
set_option maxHeartbeats 4000000
namespace Go.V
open Go Go.Proofs
attribute [local irreducible] W bO WD aO yl aS bW
section
variable (Γ:Glo Tryz.prog)
attribute [local simp] veq bP ei V.del
inductive Short:Lns→Prop
 |mk {s:Lns} (ha:s.a.length<4000000000000000000) (hb:s.b.length<4000000000000000000) (hs:∀x∈s.subs,Short x):Short s
theorem f25:∀(m:Nat)(l:List Lns),m≤1000→(∀s∈l,Short s)→PureOk Tryz.prog Γ 25 [sls aK l,.int .i64 ((m:Int)-1)] (.int .i64 (ew m l))
 |0,l,_,_=>f25z Γ l
 |m+1,l,hm,hs=>by
  have e:((m+1:Nat):Int)-1=(m:Int):=by omega
  rw[e]
  by_cases h:100<l.length
  ·
   rw[ew,if_pos h]
   exact f25a Γ l m h
  ·
   exact f25n Γ m (by omega) l h (fun s hx=>by cases hs s hx with|mk ha hb _=>exact⟨ha,hb⟩) fun s hx=>f25 m s.subs (by omega) (by cases hs s hx with|mk _ _ h=>exact h)
theorem f7 (l:List Lns)(hs:∀s∈l,Short s):PureOk Tryz.prog Γ 7 [sls aK l] (.bool (decide (0≤ew 13 l))):=by
 have k:=f25 Γ 13 l (by omega) hs
 have e:((13:Nat):Int)-1=12:=by omega
 rw[e] at k
 clear hs
 refine Y1 6 Tryz.func7 rfl rfl fun a hl g0=>?_
 repeat' first|refine G1 ?_|(refine G2 ?_ ?_<;>intro hc hd<;>try exact hd.elim)|fail
 all_goals (try (refine aC k ?_))
 repeat' first|refine G1 ?_|(refine G2 ?_ ?_<;>intro hc hd<;>try exact hd.elim)|fail
 all_goals exact⟨by simp,.bool (decide (0≤ew 13 l)),1,by simp[Tryz.f7, *],rfl⟩
end
end Go.V
end
section
set_option maxHeartbeats 4000000
namespace Go.V
open Go Go.Proofs
attribute [local irreducible] W bO WD aO yl aS bW
section
variable (Γ:Glo Tryz.prog)
attribute [local simp] veq bP ei V.del
theorem ws {b c:List Val}(h:WkL b c):∀a:List Val,WkL (a++b) (a++c)
 |[]=>h
 |v::a=>⟨Wk.refl v,ws h a⟩
theorem qn:∀l:List Res,uu l l=true
 |[]=>rfl
 |a::l=>by
  rw[uu,qn l,(oJ a.doc a.doc).2 rfl]
  have:dc a a=0:=by rw[mP];exact(ik.zero _ _).2 rfl
  simp[this]
theorem tP (s:St):eqS s s=true:=by rw[eqS,qn,(oJ s.doc s.doc).2 rfl];rfl
theorem f3 (X:XOk Γ)(H:iO Γ)(k5:PureOk Tryz.prog Γ 5 [] (.bool true))(t:Ty)(l:List Lns)(d:Doc)(hs:∀s∈l,Short s) :
  PureOk Tryz.prog Γ 3 [.ag (cTy t),sls aK l,.ag (aH d)] (.bool true):=by
 have k6:=f6 Γ t
 have k7:=f7 Γ l hs
 have k8:=f8 Γ d
 by_cases c1:0<eW 20 t
 case neg=>
  have d1:decide (0<eW 20 t)=false:=decide_eq_false c1
  rw[d1] at k6
  clear X H hs c1
  refine Y3 147 Tryz.func3 rfl rfl fun a hl g0 g1 g2=>?_
  repeat' first|refine G1 ?_|(refine G2 ?_ ?_<;>intro hc hd<;>try exact hd.elim)|fail
  all_goals (try (refine aC k5 ?_))
  repeat' first|refine G1 ?_|(refine G2 ?_ ?_<;>intro hc hd<;>try exact hd.elim)|fail
  all_goals (try (refine aC k6 ?_))
  repeat' first|refine G1 ?_|(refine G2 ?_ ?_<;>intro hc hd<;>try exact hd.elim)|fail
  all_goals (try (refine aC k7 ?_))
  repeat' first|refine G1 ?_|(refine G2 ?_ ?_<;>intro hc hd<;>try exact hd.elim)|fail
  all_goals (try (refine aC k8 ?_))
  repeat' first|refine G1 ?_|(refine G2 ?_ ?_<;>intro hc hd<;>try exact hd.elim)|fail
  all_goals exact⟨by simp,.bool true,1,by simp[Tryz.f3, *],rfl⟩
 by_cases c2:0≤ew 13 l
 case neg=>
  have d1:decide (0<eW 20 t)=true:=decide_eq_true c1
  have d2:decide (0≤ew 13 l)=false:=decide_eq_false c2
  rw[d1] at k6
  rw[d2] at k7
  clear X H hs c1 c2
  refine Y3 147 Tryz.func3 rfl rfl fun a hl g0 g1 g2=>?_
  repeat' first|refine G1 ?_|(refine G2 ?_ ?_<;>intro hc hd<;>try exact hd.elim)|fail
  all_goals (try (refine aC k5 ?_))
  repeat' first|refine G1 ?_|(refine G2 ?_ ?_<;>intro hc hd<;>try exact hd.elim)|fail
  all_goals (try (refine aC k6 ?_))
  repeat' first|refine G1 ?_|(refine G2 ?_ ?_<;>intro hc hd<;>try exact hd.elim)|fail
  all_goals (try (refine aC k7 ?_))
  repeat' first|refine G1 ?_|(refine G2 ?_ ?_<;>intro hc hd<;>try exact hd.elim)|fail
  all_goals (try (refine aC k8 ?_))
  repeat' first|refine G1 ?_|(refine G2 ?_ ?_<;>intro hc hd<;>try exact hd.elim)|fail
  all_goals exact⟨by simp,.bool true,1,by simp[Tryz.f3, *],rfl⟩
 by_cases c3:0<en 20 d
 case neg=>
  have d1:decide (0<eW 20 t)=true:=decide_eq_true c1
  have d2:decide (0≤ew 13 l)=true:=decide_eq_true c2
  have d3:decide (0<en 20 d)=false:=decide_eq_false c3
  rw[d1] at k6
  rw[d2] at k7
  rw[d3] at k8
  clear X H hs c1 c2 c3
  refine Y3 147 Tryz.func3 rfl rfl fun a hl g0 g1 g2=>?_
  repeat' first|refine G1 ?_|(refine G2 ?_ ?_<;>intro hc hd<;>try exact hd.elim)|fail
  all_goals (try (refine aC k5 ?_))
  repeat' first|refine G1 ?_|(refine G2 ?_ ?_<;>intro hc hd<;>try exact hd.elim)|fail
  all_goals (try (refine aC k6 ?_))
  repeat' first|refine G1 ?_|(refine G2 ?_ ?_<;>intro hc hd<;>try exact hd.elim)|fail
  all_goals (try (refine aC k7 ?_))
  repeat' first|refine G1 ?_|(refine G2 ?_ ?_<;>intro hc hd<;>try exact hd.elim)|fail
  all_goals (try (refine aC k8 ?_))
  repeat' first|refine G1 ?_|(refine G2 ?_ ?_<;>intro hc hd<;>try exact hd.elim)|fail
  all_goals exact⟨by simp,.bool true,1,by simp[Tryz.f3, *],rfl⟩
 have ht:=f6_small c1
 have hd:=f8_small c3
 have hl:wNs l<30000000000:=by have:=yD 13 l c2;have:=vy 13 l;omega
 rw[decide_eq_true c1] at k6
 rw[decide_eq_true c2] at k7
 rw[decide_eq_true c3] at k8
 have k9:=f9 Γ H t l (by unfold big;omega) hl
 obtain⟨x,f,hx,hxb,hf,h0⟩:=yZ t l d hd
 have k10:=(f10 Γ X H t l 0 false ⟨d,[]⟩ x f (by unfold big;omega) hl (by simp[wRs];omega) hx).1
 have k10':=k10.arg (vs:=[.ag (cTy t),sls aK l,.int .i64 0,.bool false,.ag (aH d++[.nils])]) ⟨Wk.refl _,Wk.refl _,Wk.refl _,Wk.refl _,Wk.ag (ws (b:=[.nils]) (c:=[sls ac []]) ⟨Wk.nils,trivial⟩ (aH d)),trivial⟩
 have k11:=H t d (by unfold big;omega) (by unfold big;omega)
 by_cases hf0:f=0
 case neg=>
  have hq:=hf hf0
  generalize hT:bC t l=T at *
  obtain⟨u,i,e⟩:=T
  simp only at hq k9
  unfold i8 at k9
  replace hf0:¬f=0:=hf0
  clear h0 hf hT hx hxb ht hd hl X H hs c1 c2 c3 k10
  generalize cQ t d=vd at *
  by_cases f2:f=2
  case pos=>
   subst f2
   clear hq
   refine Y3 147 Tryz.func3 rfl rfl fun a hl g0 g1 g2=>?_
   repeat' first|refine G1 ?_|(refine G2 ?_ ?_<;>intro hc hd<;>try exact hd.elim)|fail
   all_goals (try (refine aC k5 ?_))
   repeat' first|refine G1 ?_|(refine G2 ?_ ?_<;>intro hc hd<;>try exact hd.elim)|fail
   all_goals (try (refine aC k6 ?_))
   repeat' first|refine G1 ?_|(refine G2 ?_ ?_<;>intro hc hd<;>try exact hd.elim)|fail
   all_goals (try (refine aC k7 ?_))
   repeat' first|refine G1 ?_|(refine G2 ?_ ?_<;>intro hc hd<;>try exact hd.elim)|fail
   all_goals (try (refine aC k8 ?_))
   repeat' first|refine G1 ?_|(refine G2 ?_ ?_<;>intro hc hd<;>try exact hd.elim)|fail
   all_goals (try (refine aC k9 ?_))
   repeat' first|refine G1 ?_|(refine G2 ?_ ?_<;>intro hc hd<;>try exact hd.elim)|fail
   all_goals (try (refine aC k10' ?_))
   repeat' first|refine G1 ?_|(refine G2 ?_ ?_<;>intro hc hd<;>try exact hd.elim)|fail
   all_goals (try (refine aC k11 ?_))
   repeat' first|refine G1 ?_|(refine G2 ?_ ?_<;>intro hc hd<;>try exact hd.elim)|fail
   all_goals first|exact⟨by simp,.bool true,1,by simp[Tryz.f3, *],rfl⟩|(exfalso;simp_all)
  by_cases f1:f=1
  case pos=>
   subst f1
   clear hq
   refine Y3 147 Tryz.func3 rfl rfl fun a hl g0 g1 g2=>?_
   repeat' first|refine G1 ?_|(refine G2 ?_ ?_<;>intro hc hd<;>try exact hd.elim)|fail
   all_goals (try (refine aC k5 ?_))
   repeat' first|refine G1 ?_|(refine G2 ?_ ?_<;>intro hc hd<;>try exact hd.elim)|fail
   all_goals (try (refine aC k6 ?_))
   repeat' first|refine G1 ?_|(refine G2 ?_ ?_<;>intro hc hd<;>try exact hd.elim)|fail
   all_goals (try (refine aC k7 ?_))
   repeat' first|refine G1 ?_|(refine G2 ?_ ?_<;>intro hc hd<;>try exact hd.elim)|fail
   all_goals (try (refine aC k8 ?_))
   repeat' first|refine G1 ?_|(refine G2 ?_ ?_<;>intro hc hd<;>try exact hd.elim)|fail
   all_goals (try (refine aC k9 ?_))
   repeat' first|refine G1 ?_|(refine G2 ?_ ?_<;>intro hc hd<;>try exact hd.elim)|fail
   all_goals (try (refine aC k10' ?_))
   repeat' first|refine G1 ?_|(refine G2 ?_ ?_<;>intro hc hd<;>try exact hd.elim)|fail
   all_goals (try (refine aC k11 ?_))
   repeat' first|refine G1 ?_|(refine G2 ?_ ?_<;>intro hc hd<;>try exact hd.elim)|fail
   all_goals first|exact⟨by simp,.bool true,1,by simp[Tryz.f3, *],rfl⟩|(exfalso;simp_all)
  cases vd
  ·
   refine Y3 147 Tryz.func3 rfl rfl fun a hl g0 g1 g2=>?_
   repeat' first|refine G1 ?_|(refine G2 ?_ ?_<;>intro hc hd<;>try exact hd.elim)|fail
   all_goals (try (refine aC k5 ?_))
   repeat' first|refine G1 ?_|(refine G2 ?_ ?_<;>intro hc hd<;>try exact hd.elim)|fail
   all_goals (try (refine aC k6 ?_))
   repeat' first|refine G1 ?_|(refine G2 ?_ ?_<;>intro hc hd<;>try exact hd.elim)|fail
   all_goals (try (refine aC k7 ?_))
   repeat' first|refine G1 ?_|(refine G2 ?_ ?_<;>intro hc hd<;>try exact hd.elim)|fail
   all_goals (try (refine aC k8 ?_))
   repeat' first|refine G1 ?_|(refine G2 ?_ ?_<;>intro hc hd<;>try exact hd.elim)|fail
   all_goals (try (refine aC k9 ?_))
   repeat' first|refine G1 ?_|(refine G2 ?_ ?_<;>intro hc hd<;>try exact hd.elim)|fail
   all_goals (try (refine aC k10' ?_))
   repeat' first|refine G1 ?_|(refine G2 ?_ ?_<;>intro hc hd<;>try exact hd.elim)|fail
   all_goals (try (refine aC k11 ?_))
   repeat' first|refine G1 ?_|(refine G2 ?_ ?_<;>intro hc hd<;>try exact hd.elim)|fail
   all_goals first|exact⟨by simp,.bool true,1,by simp[Tryz.f3, *],rfl⟩|(exfalso;simp_all)
  ·
   obtain⟨q1,q2⟩:e≠0∧f=e:=by simpa[f1,f2] using hq
   subst q2
   clear hq
   refine Y3 147 Tryz.func3 rfl rfl fun a hl g0 g1 g2=>?_
   repeat' first|refine G1 ?_|(refine G2 ?_ ?_<;>intro hc hd<;>try exact hd.elim)|fail
   all_goals (try (refine aC k5 ?_))
   repeat' first|refine G1 ?_|(refine G2 ?_ ?_<;>intro hc hd<;>try exact hd.elim)|fail
   all_goals (try (refine aC k6 ?_))
   repeat' first|refine G1 ?_|(refine G2 ?_ ?_<;>intro hc hd<;>try exact hd.elim)|fail
   all_goals (try (refine aC k7 ?_))
   repeat' first|refine G1 ?_|(refine G2 ?_ ?_<;>intro hc hd<;>try exact hd.elim)|fail
   all_goals (try (refine aC k8 ?_))
   repeat' first|refine G1 ?_|(refine G2 ?_ ?_<;>intro hc hd<;>try exact hd.elim)|fail
   all_goals (try (refine aC k9 ?_))
   repeat' first|refine G1 ?_|(refine G2 ?_ ?_<;>intro hc hd<;>try exact hd.elim)|fail
   all_goals (try (refine aC k10' ?_))
   repeat' first|refine G1 ?_|(refine G2 ?_ ?_<;>intro hc hd<;>try exact hd.elim)|fail
   all_goals (try (refine aC k11 ?_))
   repeat' first|refine G1 ?_|(refine G2 ?_ ?_<;>intro hc hd<;>try exact hd.elim)|fail
   all_goals first|exact⟨by simp,.bool true,1,by simp[Tryz.f3, *],rfl⟩|(exfalso;simp_all)
 subst hf0
 obtain⟨u,hT,hz,y,g,hy,hyb,hg,hg0⟩:=h0 rfl
 rw[hT] at k9
 unfold i8 at k9
 have hu:wT u<big:=by have:=ny hz.gu.right;unfold big;omega
 have hxs:wRs x.res+wD x.doc<20000000000:=by unfold wSt at hxb;omega
 have hys:wRs y.res+wD y.doc<20000000000:=by unfold wSt at hyb;omega
 have k20:=(f10 Γ X H u l 0 true x y g hu hl hxs hy).1
 by_cases hg1:g=0
 case neg=>
  have hq:=hg hg1
  clear hg hg0 hT hx hxb ht hd hl X H hs c1 c2 c3 k10 hf hz hu hxs hys hyb hy h0
  rcases hq with q|q
  ·
   subst q
   refine Y3 147 Tryz.func3 rfl rfl fun a hl g0 g1 g2=>?_
   repeat' first|refine G1 ?_|(refine G2 ?_ ?_<;>intro hc hd<;>try exact hd.elim)|fail
   all_goals (try (refine aC k5 ?_))
   repeat' first|refine G1 ?_|(refine G2 ?_ ?_<;>intro hc hd<;>try exact hd.elim)|fail
   all_goals (try (refine aC k6 ?_))
   repeat' first|refine G1 ?_|(refine G2 ?_ ?_<;>intro hc hd<;>try exact hd.elim)|fail
   all_goals (try (refine aC k7 ?_))
   repeat' first|refine G1 ?_|(refine G2 ?_ ?_<;>intro hc hd<;>try exact hd.elim)|fail
   all_goals (try (refine aC k8 ?_))
   repeat' first|refine G1 ?_|(refine G2 ?_ ?_<;>intro hc hd<;>try exact hd.elim)|fail
   all_goals (try (refine aC k9 ?_))
   repeat' first|refine G1 ?_|(refine G2 ?_ ?_<;>intro hc hd<;>try exact hd.elim)|fail
   all_goals (try (refine aC k10' ?_))
   repeat' first|refine G1 ?_|(refine G2 ?_ ?_<;>intro hc hd<;>try exact hd.elim)|fail
   all_goals (try (refine aC k20 ?_))
   repeat' first|refine G1 ?_|(refine G2 ?_ ?_<;>intro hc hd<;>try exact hd.elim)|fail
   all_goals exact⟨by simp,.bool true,1,by simp[Tryz.f3, *],rfl⟩
  ·
   subst q
   refine Y3 147 Tryz.func3 rfl rfl fun a hl g0 g1 g2=>?_
   repeat' first|refine G1 ?_|(refine G2 ?_ ?_<;>intro hc hd<;>try exact hd.elim)|fail
   all_goals (try (refine aC k5 ?_))
   repeat' first|refine G1 ?_|(refine G2 ?_ ?_<;>intro hc hd<;>try exact hd.elim)|fail
   all_goals (try (refine aC k6 ?_))
   repeat' first|refine G1 ?_|(refine G2 ?_ ?_<;>intro hc hd<;>try exact hd.elim)|fail
   all_goals (try (refine aC k7 ?_))
   repeat' first|refine G1 ?_|(refine G2 ?_ ?_<;>intro hc hd<;>try exact hd.elim)|fail
   all_goals (try (refine aC k8 ?_))
   repeat' first|refine G1 ?_|(refine G2 ?_ ?_<;>intro hc hd<;>try exact hd.elim)|fail
   all_goals (try (refine aC k9 ?_))
   repeat' first|refine G1 ?_|(refine G2 ?_ ?_<;>intro hc hd<;>try exact hd.elim)|fail
   all_goals (try (refine aC k10' ?_))
   repeat' first|refine G1 ?_|(refine G2 ?_ ?_<;>intro hc hd<;>try exact hd.elim)|fail
   all_goals (try (refine aC k20 ?_))
   repeat' first|refine G1 ?_|(refine G2 ?_ ?_<;>intro hc hd<;>try exact hd.elim)|fail
   all_goals exact⟨by simp,.bool true,1,by simp[Tryz.f3, *],rfl⟩
 subst hg1
 obtain⟨hz1,hz2,hz3⟩:=hg0 rfl
 have k30:=(f10 Γ X H t l 0 false y x 0 (by unfold big;omega) hl hys hz1).1
 have k12:=f12 Γ y.doc d (by unfold wSt at hyb;unfold big;omega) (by unfold big;omega)
 have e12:eqD y.doc d=true:=by rw[hz2];exact(oJ d d).2 rfl
 rw[e12] at k12
 have k13:=f13 Γ x x (by unfold wSt at hxb;unfold big;omega) (by unfold wSt at hxb;unfold big;omega)
 have e13:eqS x x=true:=tP x
 rw[e13] at k13
 have k14:=f13 Γ y y (by unfold wSt at hyb;unfold big;omega) (by unfold wSt at hyb;unfold big;omega)
 have e14:eqS y y=true:=tP y
 rw[e14] at k14
 have k15:=H u x.doc hu (by unfold wSt at hxb;unfold big;omega)
 rw[hz3] at k15
 clear hg hg0 hT hx hxb ht hd hl X H hs c1 c2 c3 k10 hf hz hu hxs hys hyb hy h0 hz1 hz2 hz3 e12 e13 e14 k11
 refine Y3 147 Tryz.func3 rfl rfl fun a hl g0 g1 g2=>?_
 repeat' first|refine G1 ?_|(refine G2 ?_ ?_<;>intro hc hd<;>try exact hd.elim)|fail
 all_goals (try (refine aC k5 ?_))
 repeat' first|refine G1 ?_|(refine G2 ?_ ?_<;>intro hc hd<;>try exact hd.elim)|fail
 all_goals (try (refine aC k6 ?_))
 repeat' first|refine G1 ?_|(refine G2 ?_ ?_<;>intro hc hd<;>try exact hd.elim)|fail
 all_goals (try (refine aC k7 ?_))
 repeat' first|refine G1 ?_|(refine G2 ?_ ?_<;>intro hc hd<;>try exact hd.elim)|fail
 all_goals (try (refine aC k8 ?_))
 repeat' first|refine G1 ?_|(refine G2 ?_ ?_<;>intro hc hd<;>try exact hd.elim)|fail
 all_goals (try (refine aC k9 ?_))
 repeat' first|refine G1 ?_|(refine G2 ?_ ?_<;>intro hc hd<;>try exact hd.elim)|fail
 all_goals (try (refine aC k10' ?_))
 repeat' first|refine G1 ?_|(refine G2 ?_ ?_<;>intro hc hd<;>try exact hd.elim)|fail
 all_goals (try (refine aC k20 ?_))
 repeat' first|refine G1 ?_|(refine G2 ?_ ?_<;>intro hc hd<;>try exact hd.elim)|fail
 all_goals (try (refine aC k30 ?_))
 repeat' first|refine G1 ?_|(refine G2 ?_ ?_<;>intro hc hd<;>try exact hd.elim)|fail
 all_goals (try (refine aC k20 ?_))
 repeat' first|refine G1 ?_|(refine G2 ?_ ?_<;>intro hc hd<;>try exact hd.elim)|fail
 all_goals (try (refine aC k12 ?_))
 repeat' first|refine G1 ?_|(refine G2 ?_ ?_<;>intro hc hd<;>try exact hd.elim)|fail
 all_goals (try (refine aC k13 ?_))
 repeat' first|refine G1 ?_|(refine G2 ?_ ?_<;>intro hc hd<;>try exact hd.elim)|fail
 all_goals (try (refine aC k14 ?_))
 repeat' first|refine G1 ?_|(refine G2 ?_ ?_<;>intro hc hd<;>try exact hd.elim)|fail
 all_goals (try (refine aC k15 ?_))
 repeat' first|refine G1 ?_|(refine G2 ?_ ?_<;>intro hc hd<;>try exact hd.elim)|fail
 all_goals exact⟨by simp,.bool true,1,by simp[Tryz.f3, *],rfl⟩
end
end Go.V
end
section
namespace Go.V
open Go Go.Proofs
def Ai {α β:Type}(d:α→Option β):List α→Option (List β)
 |[]=>some []
 |x::r=>match d x,Ai d r with
  |some y,some l=>some (y::l)
  |_,_=>none
def rq (k:Nat):Nat→List Val→List (List Val)
 |0,_=>[]
 |n+1,l=>l.take k::rq k n (l.drop k)
def dSl {α:Type}(k:Nat)(d:List Val→Option α):Val→Option (List α)
 |.nils=>some []
 |.sl cs n _=>match Nat.beq cs.length (n*k) with
  |true=>Ai d (rq k n cs)
  |false=>none
 |_=>none
def xD:List Val→Option Str
 |[.str s]=>some s
 |_=>none
def CB:List Val→Option Int
 |[.int .i64 n]=>some n
 |_=>none
def xq:List Val→Option (Int×Int)
 |[.int .i64 n,.int .i64 m]=>some (n,m)
 |_=>none
def tB:Nat→List Val→Option Doc
 |n+1,[.int .i64 k,.int .i64 m,.str s,ks,ds]=>match dSl 1 xD ks,dSl 5 (tB n) ds with
  |some ks,some ds=>some (.mk k m s ks ds)
  |_,_=>none
 |_,_=>none
def CA (d:List Val→Option Ty):List Val→Option Fld
 |.str s :: .bool b::c=>match d c with
  |some t=>some (.mk s b t)
  |none=>none
 |_=>none
def dTy:Nat→List Val→Option Ty
 |n+1,[.int .i64 k,.int .i64 l,.int .i64 h,ns,fs,ts]=>match dSl 1 xD ns,dSl 8 (CA (dTy n)) fs,dSl 6 (dTy n) ts with
  |some ns,some fs,some ts=>some (.mk k l h ns fs ts)
  |_,_,_=>none
 |_,_=>none
def tC:Nat→List Val→Option Lns
 |n+1,.int .i64 k :: .str a :: .str b::c=>match dTy 20 (c.take 6),tB 20 ((c.drop 6).take 5),c.drop 11 with
  |some t,some d,[sw,su]=>match dSl 2 xq sw,dSl 16 (tC n) su with
   |some sw,some su=>some (.mk k a b t d sw su)
   |_,_=>none
  |_,_,_=>none
 |_,_=>none
def xt:List Val→Option Res
 |.int .i64 e::st::ks::c=>match dSl 1 CB st,dSl 1 xD ks,tB 20 c with
  |some st,some ks,some d=>some ⟨e,st,ks,d⟩
  |_,_,_=>none
 |_=>none
def dSt (c:List Val):Option St:=match tB 20 (c.take 5),c.drop 5 with
 |some d,[r]=>match dSl 8 xt r with
  |some r=>some ⟨d,r⟩
  |none=>none
 |_,_=>none
theorem WkL.append:∀{a b c d:List Val},WkL a b→WkL c d→WkL (a++c) (b++d)
 |[],[],_,_,_,h=>h
 |x::a,y::b,_,_,h,h'=>⟨h.1,WkL.append h.2 h'⟩
 |[],_::_,_,_,h,_=>h.elim
 |_::_,[],_,_,h,_=>h.elim
theorem qc {α:Type}{k:Nat}{d:List Val→Option α}{c:α→List Val}(hd:∀cs a,d cs=some a→WkL cs (c a)):∀{n:Nat}{cs:List Val}{l:List α},cs.length=n*k→Ai d (rq k n cs)=some l→l.length=n∧WkL cs (row c l)
 |0,cs,l,hl,h=>by
  obtain rfl:cs=[]:=List.eq_nil_of_length_eq_zero (by simpa using hl)
  cases h
  exact⟨rfl,trivial⟩
 |n+1,cs,l,hl,h=>by
  rw[rq,Ai] at h
  split at h
  ·
   rename_i y l' h1 h2
   cases h
   obtain⟨q1,q2⟩:=qc hd (n:=n) (cs:=cs.drop k) (by rw[List.length_drop,hl,Nat.add_mul];omega) h2
   refine⟨by simp[q1],?_⟩
   rw[row]
   have:=(hd _ _ h1).append q2
   rwa[List.take_append_drop] at this
  ·
   cases h
theorem fS {α:Type}{k:Nat}{d:List Val→Option α}{c:α→List Val}(hd:∀cs a,d cs=some a→WkL cs (c a)){v:Val}{l:List α}(h:dSl k d v=some l):Wk v (sls c l):=by
 unfold dSl at h
 split at h
 ·
  cases h;exact Wk.nils
 ·
  rename_i cs n cap
  split at h
  ·
   rename_i hl
   obtain⟨h1,h2⟩:=qc hd (Nat.eq_of_beq_eq_true hl) h
   intro F ρ x hx
   have:=Wk.cap _ _ _ F ρ x (Wk.sl (n:=n) (cap:=cap) h2 F ρ x hx)
   show Rel F ρ (.sl (row c l) l.length none) x
   rw[h1]
   exact this
  ·
   cases h
 ·
  cases h
theorem oI (cs:List Val)(a:Str)(h:xD cs=some a):WkL cs (aW a):=by
 unfold xD at h
 split at h
 ·
  cases h;exact⟨Wk.refl _,trivial⟩
 ·
  cases h
theorem AO (cs:List Val)(a:Int)(h:CB cs=some a):WkL cs (bv a):=by
 unfold CB at h
 split at h
 ·
  cases h;exact⟨Wk.refl _,trivial⟩
 ·
  cases h
theorem xr (cs:List Val)(a:Int×Int)(h:xq cs=some a):WkL cs (bx a):=by
 unfold xq at h
 split at h
 ·
  cases h;exact⟨Wk.refl _,Wk.refl _,trivial⟩
 ·
  cases h
theorem ln:∀(n:Nat)(cs:List Val)(a:Doc),tB n cs=some a→WkL cs (aH a)
 |0,cs,a,h=>by unfold tB at h;cases h
 |n+1,cs,a,h=>by
  unfold tB at h
  split at h
  ·
   rename_i n' k m s ks ds e
   cases e
   split at h
   ·
    rename_i ks' ds' h1 h2
    cases h
    rw[db]
    exact⟨Wk.refl _,Wk.refl _,Wk.refl _,fS oI h1,fS (ln n) h2,trivial⟩
   ·
    cases h
  ·
   cases h
theorem AN {d:List Val→Option Ty}(hd:∀cs a,d cs=some a→WkL cs (cTy a))(cs:List Val)(a:Fld)(h:CA d cs=some a):WkL cs (aZ a):=by
 unfold CA at h
 split at h
 ·
  split at h
  ·
   rename_i t ht
   cases h
   rw[dR]
   exact⟨Wk.refl _,Wk.refl _,hd _ _ ht⟩
  ·
   cases h
 ·
  cases h
theorem iQ:∀(n:Nat)(cs:List Val)(a:Ty),dTy n cs=some a→WkL cs (cTy a)
 |0,cs,a,h=>by unfold dTy at h;cases h
 |n+1,cs,a,h=>by
  unfold dTy at h
  split at h
  ·
   rename_i n' k l hh ns fs ts e
   cases e
   split at h
   ·
    rename_i ns' fs' ts' h1 h2 h3
    cases h
    rw[fA]
    exact⟨Wk.refl _,Wk.refl _,Wk.refl _,fS oI h1,fS (AN (iQ n)) h2,fS (iQ n) h3,trivial⟩
   ·
    cases h
  ·
   cases h
theorem lu:∀(n:Nat)(cs:List Val)(a:Lns),tC n cs=some a→WkL cs (aK a)
 |0,cs,a,h=>by unfold tC at h;cases h
 |n+1,cs,a,h=>by
  unfold tC at h
  split at h
  ·
   rename_i n' k a' b c e
   cases e
   split at h
   ·
    rename_i t d sw su h1 h2 h3
    split at h
    ·
     rename_i sw' su' h4 h5
     cases h
     rw[eN]
     refine⟨Wk.refl _,Wk.refl _,Wk.refl _,?_⟩
     have e:c=c.take 6++((c.drop 6).take 5++[sw,su]):=by
      rw[←h3]
      have:(c.drop 6).drop 5=c.drop 11:=by rw[List.drop_drop]
      rw[←this,List.take_append_drop,List.take_append_drop]
     rw[e]
     exact(iQ _ _ _ h1).append ((ln _ _ _ h2).append ⟨fS xr h4,fS (lu n) h5,trivial⟩)
    ·
     cases h
   ·
    cases h
  ·
   cases h
theorem ru (cs:List Val)(a:Res)(h:xt cs=some a):WkL cs (ac a):=by
 unfold xt at h
 split at h
 ·
  split at h
  ·
   rename_i st' ks' d h1 h2 h3
   cases h
   exact⟨Wk.refl _,fS AO h1,fS oI h2,ln _ _ _ h3⟩
  ·
   cases h
 ·
  cases h
theorem ob (cs:List Val)(a:St)(h:dSt cs=some a):WkL cs (cSt a):=by
 unfold dSt at h
 split at h
 ·
  rename_i d r h1 h2
  split at h
  ·
   rename_i r' h3
   cases h
   have e:cs=cs.take 5++[r]:=by rw[←h2,List.take_append_drop]
   rw[e]
   exact(ln _ _ _ h1).append ⟨fS ru h3,trivial⟩
  ·
   cases h
 ·
  cases h
end Go.V
end
