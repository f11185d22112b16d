/-
  A part of a proof: A3 D3 E1 E2.
-/
import Derived.Test.YtkfjenbfbendhaaGreatDoorLk09
import Derived.Test.YtkfjenbfbendhaaGreatDoorLk10
set_option linter.unusedSimpArgs false
set_option linter.unusedVariables false
section
set_option maxHeartbeats 4000000
namespace Go.V
open Go Go.Proofs
attribute [local irreducible] W bO WD aO yl aS bW
section
variable (Γ:Glo Tryz.prog)
theorem f38 (l m:List Res)(p:Res→Res→Bool)(hb:l.length<big)(hm:m.length<big)(g:FuncId)(first cap:List Val)(hg:∀x∈l,∀y∈m,PureOk Tryz.prog Γ g (first ++ .ag (ac x) :: .ag (ac y)::cap) (.bool (p x y)))(hgp:bL Tryz.prog g=true)(hcf:aE first=true)(hcc:aE cap=true) :
  PureOk Tryz.prog Γ 38 [sls ac l,sls ac m,.fn g first cap] (.bool (di p l m)):=by
 simp only[big] at hb hm
 obtain⟨v,hv⟩:∃v,v=di p l m:=⟨_,rfl⟩
 rw[←hv]
 by_cases hlm:l.length=m.length
 ·
  have hlm':Eqn l.length m.length:=hlm
  have hpi:(l.length:Int)=m.length:=by omega
  clear hlm
  refine Y3 32 Tryz.func38 rfl rfl fun a hl g0 g1 g2=>?_
  repeat' first|refine G1 ?_|(refine G2 ?_ ?_<;>intro hc hd<;>try exact hd.elim)|fail
  clear hpi
  refine am [(6,9),(18,31)] [17] (fun k a h=>h=[]∧∃pre rest pre2 rest2,l=pre++rest∧m=pre2++rest2∧Eqn pre.length pre2.length∧k=rest.length∧lk a 17=some (.int .i64 pre.length)∧v=di p rest rest2) ⟨rfl,[],l,[],m,rfl,rfl,rfl,rfl,by simp[*],hv⟩ ?_
  intro a1 hk hk0 k a h hF hI
  replace g1:=hF.a hk 1
  replace g2:=hF.a hk 2
  replace g15:=hF.a hk 15
  replace g16:=hF.a hk 16
  replace hl:a.length=32:=hF.len.trans (hk0.trans (by simp[*]))
  clear hk hk0
  clear hv
  obtain⟨rfl,pre,rest,pre2,rest2,rfl,rfl,hpp,rfl,h17,hv⟩:=hI
  have hpp':pre.length=pre2.length:=hpp
  have hll:(pre++rest).length=(pre2++rest2).length:=hlm'
  simp at hll
  cases rest with
  |nil=>
   cases rest2 with
   |nil=>
    have hnl:¬(pre.length:Int)<pre2.length:=by omega
    clear hpp' hll
    simp[di] at hv
    repeat' first|refine G1 ?_|(refine G2 ?_ ?_<;>intro hc hd<;>try exact hd.elim)|fail
    all_goals first|(refine⟨by simp,.bool v,1,?_,rfl⟩;(simp[Tryz.f38, *]<;>grind [List.length_eq_zero_iff]);done)|skip
   |cons y r2=>simp at hll;omega
  |cons x r=>
   have hlt:(pre.length:Int)<pre.length+(r.length+1):=by omega
   have hw:=ad ((pre.length:Int)+1) (by simp at hb;omega) (by simp at hb;omega)
   cases rest2 with
   |nil=>simp at hll;omega
   |cons y r2=>
    have hlt3:(pre.length:Int)<pre2.length+(r2.length+1):=by omega
    have hi2:=rn pre2 r2 y
    rw[←hpp'] at hi2
    have hle2:pre.length≤pre2.length+(r2.length+1):=by omega
    have hle3:pre.length*8≤(pre2.length+(r2.length+1))*8:=Nat.mul_le_mul_right _ hle2
    have hx:=hg x (by simp) y (by simp)
    clear hpp' hll hg
    have hv2:v=(p x y&&di p r r2):=hv
    clear hv
    repeat' first|refine G1 ?_|(refine G2 ?_ ?_<;>intro hc hd<;>try exact hd.elim)|fail
    refine aC hx ?_ (hp:=hgp) (hcl:=by simp[aw,aE,Val.closed, *])
    clear hx
    repeat' first|refine G1 ?_|(refine G2 ?_ ?_<;>intro hc hd<;>try exact hd.elim)|fail
    ·
     (have e:v=false:=(by grind [List.length_eq_zero_iff,aL,aN,aM,aY]);(try clear hv);(try clear hv2);exact⟨by simp,.bool v,1,by simp[Tryz.f38, *],rfl⟩)
    ·
     have e:v=di p r r2:=(by grind)
     exact NX [] fun a2 hF2=>⟨rfl,pre++[x],r,pre2++[y],r2,by simp,by simp,(by have:pre.length=pre2.length:=hpp;simp[Eqn,this]),rfl,(hF2.q 17),e⟩
 ·
  have hpi:¬(l.length:Int)=m.length:=by omega
  have e:v=false:=by
   rw[hv]
   clear hv hb hm hg hpi
   induction l generalizing m with
   |nil=>cases m with
    |nil=>exact(hlm rfl).elim
    |cons y m=>rfl
   |cons x l ih=>cases m with
    |nil=>rfl
    |cons y m=>
     simp only[di,Bool.and_eq_false_iff]
     exact .inr (ih m (by simpa using hlm))
  clear hv
  refine Y3 32 Tryz.func38 rfl rfl fun a hl g0 g1 g2=>?_
  repeat' first|refine G1 ?_|(refine G2 ?_ ?_<;>intro hc hd<;>try exact hd.elim)|fail
  all_goals first|(refine⟨by simp,.bool v,1,?_,rfl⟩;(simp[Tryz.f38, *]<;>grind [List.length_eq_zero_iff]);done)|skip
theorem f58 (l m:List Fld)(p:Fld→Fld→Bool)(hb:l.length<big)(hm:m.length<big)(g:FuncId)(first cap:List Val)(hg:∀x∈l,∀y∈m,PureOk Tryz.prog Γ g (first ++ .ag (aZ x) :: .ag (aZ y)::cap) (.bool (p x y)))(hgp:bL Tryz.prog g=true)(hcf:aE first=true)(hcc:aE cap=true) :
  PureOk Tryz.prog Γ 58 [sls aZ l,sls aZ m,.fn g first cap] (.bool (di p l m)):=by
 simp only[big] at hb hm
 obtain⟨v,hv⟩:∃v,v=di p l m:=⟨_,rfl⟩
 rw[←hv]
 by_cases hlm:l.length=m.length
 ·
  have hlm':Eqn l.length m.length:=hlm
  have hpi:(l.length:Int)=m.length:=by omega
  clear hlm
  refine Y3 32 Tryz.func58 rfl rfl fun a hl g0 g1 g2=>?_
  repeat' first|refine G1 ?_|(refine G2 ?_ ?_<;>intro hc hd<;>try exact hd.elim)|fail
  clear hpi
  refine am [(6,9),(18,31)] [17] (fun k a h=>h=[]∧∃pre rest pre2 rest2,l=pre++rest∧m=pre2++rest2∧Eqn pre.length pre2.length∧k=rest.length∧lk a 17=some (.int .i64 pre.length)∧v=di p rest rest2) ⟨rfl,[],l,[],m,rfl,rfl,rfl,rfl,by simp[*],hv⟩ ?_
  intro a1 hk hk0 k a h hF hI
  replace g1:=hF.a hk 1
  replace g2:=hF.a hk 2
  replace g15:=hF.a hk 15
  replace g16:=hF.a hk 16
  replace hl:a.length=32:=hF.len.trans (hk0.trans (by simp[*]))
  clear hk hk0
  clear hv
  obtain⟨rfl,pre,rest,pre2,rest2,rfl,rfl,hpp,rfl,h17,hv⟩:=hI
  have hpp':pre.length=pre2.length:=hpp
  have hll:(pre++rest).length=(pre2++rest2).length:=hlm'
  simp at hll
  cases rest with
  |nil=>
   cases rest2 with
   |nil=>
    have hnl:¬(pre.length:Int)<pre2.length:=by omega
    clear hpp' hll
    simp[di] at hv
    repeat' first|refine G1 ?_|(refine G2 ?_ ?_<;>intro hc hd<;>try exact hd.elim)|fail
    all_goals first|(refine⟨by simp,.bool v,1,?_,rfl⟩;(simp[Tryz.f58, *]<;>grind [List.length_eq_zero_iff]);done)|skip
   |cons y r2=>simp at hll;omega
  |cons x r=>
   have hlt:(pre.length:Int)<pre.length+(r.length+1):=by omega
   have hw:=ad ((pre.length:Int)+1) (by simp at hb;omega) (by simp at hb;omega)
   cases rest2 with
   |nil=>simp at hll;omega
   |cons y r2=>
    have hlt3:(pre.length:Int)<pre2.length+(r2.length+1):=by omega
    have hi2:=lg pre2 r2 y
    rw[←hpp'] at hi2
    have hle2:pre.length≤pre2.length+(r2.length+1):=by omega
    have hle3:pre.length*8≤(pre2.length+(r2.length+1))*8:=Nat.mul_le_mul_right _ hle2
    have hx:=hg x (by simp) y (by simp)
    clear hpp' hll hg
    have hv2:v=(p x y&&di p r r2):=hv
    clear hv
    repeat' first|refine G1 ?_|(refine G2 ?_ ?_<;>intro hc hd<;>try exact hd.elim)|fail
    refine aC hx ?_ (hp:=hgp) (hcl:=by simp[aw,aE,Val.closed, *])
    clear hx
    repeat' first|refine G1 ?_|(refine G2 ?_ ?_<;>intro hc hd<;>try exact hd.elim)|fail
    ·
     (have e:v=false:=(by grind [List.length_eq_zero_iff,aL,aN,aM,aY]);(try clear hv);(try clear hv2);exact⟨by simp,.bool v,1,by simp[Tryz.f58, *],rfl⟩)
    ·
     have e:v=di p r r2:=(by grind)
     exact NX [] fun a2 hF2=>⟨rfl,pre++[x],r,pre2++[y],r2,by simp,by simp,(by have:pre.length=pre2.length:=hpp;simp[Eqn,this]),rfl,(hF2.q 17),e⟩
 ·
  have hpi:¬(l.length:Int)=m.length:=by omega
  have e:v=false:=by
   rw[hv]
   clear hv hb hm hg hpi
   induction l generalizing m with
   |nil=>cases m with
    |nil=>exact(hlm rfl).elim
    |cons y m=>rfl
   |cons x l ih=>cases m with
    |nil=>rfl
    |cons y m=>
     simp only[di,Bool.and_eq_false_iff]
     exact .inr (ih m (by simpa using hlm))
  clear hv
  refine Y3 32 Tryz.func58 rfl rfl fun a hl g0 g1 g2=>?_
  repeat' first|refine G1 ?_|(refine G2 ?_ ?_<;>intro hc hd<;>try exact hd.elim)|fail
  all_goals first|(refine⟨by simp,.bool v,1,?_,rfl⟩;(simp[Tryz.f58, *]<;>grind [List.length_eq_zero_iff]);done)|skip
theorem f60 (l m:List Ty)(p:Ty→Ty→Bool)(hb:l.length<big)(hm:m.length<big)(g:FuncId)(first cap:List Val)(hg:∀x∈l,∀y∈m,PureOk Tryz.prog Γ g (first ++ .ag (cTy x) :: .ag (cTy y)::cap) (.bool (p x y)))(hgp:bL Tryz.prog g=true)(hcf:aE first=true)(hcc:aE cap=true) :
  PureOk Tryz.prog Γ 60 [sls cTy l,sls cTy m,.fn g first cap] (.bool (di p l m)):=by
 simp only[big] at hb hm
 obtain⟨v,hv⟩:∃v,v=di p l m:=⟨_,rfl⟩
 rw[←hv]
 by_cases hlm:l.length=m.length
 ·
  have hlm':Eqn l.length m.length:=hlm
  have hpi:(l.length:Int)=m.length:=by omega
  clear hlm
  refine Y3 32 Tryz.func60 rfl rfl fun a hl g0 g1 g2=>?_
  repeat' first|refine G1 ?_|(refine G2 ?_ ?_<;>intro hc hd<;>try exact hd.elim)|fail
  clear hpi
  refine am [(6,9),(18,31)] [17] (fun k a h=>h=[]∧∃pre rest pre2 rest2,l=pre++rest∧m=pre2++rest2∧Eqn pre.length pre2.length∧k=rest.length∧lk a 17=some (.int .i64 pre.length)∧v=di p rest rest2) ⟨rfl,[],l,[],m,rfl,rfl,rfl,rfl,by simp[*],hv⟩ ?_
  intro a1 hk hk0 k a h hF hI
  replace g1:=hF.a hk 1
  replace g2:=hF.a hk 2
  replace g15:=hF.a hk 15
  replace g16:=hF.a hk 16
  replace hl:a.length=32:=hF.len.trans (hk0.trans (by simp[*]))
  clear hk hk0
  clear hv
  obtain⟨rfl,pre,rest,pre2,rest2,rfl,rfl,hpp,rfl,h17,hv⟩:=hI
  have hpp':pre.length=pre2.length:=hpp
  have hll:(pre++rest).length=(pre2++rest2).length:=hlm'
  simp at hll
  cases rest with
  |nil=>
   cases rest2 with
   |nil=>
    have hnl:¬(pre.length:Int)<pre2.length:=by omega
    clear hpp' hll
    simp[di] at hv
    repeat' first|refine G1 ?_|(refine G2 ?_ ?_<;>intro hc hd<;>try exact hd.elim)|fail
    all_goals first|(refine⟨by simp,.bool v,1,?_,rfl⟩;(simp[Tryz.f60, *]<;>grind [List.length_eq_zero_iff]);done)|skip
   |cons y r2=>simp at hll;omega
  |cons x r=>
   have hlt:(pre.length:Int)<pre.length+(r.length+1):=by omega
   have hw:=ad ((pre.length:Int)+1) (by simp at hb;omega) (by simp at hb;omega)
   cases rest2 with
   |nil=>simp at hll;omega
   |cons y r2=>
    have hlt3:(pre.length:Int)<pre2.length+(r2.length+1):=by omega
    have hi2:=xn pre2 r2 y
    rw[←hpp'] at hi2
    have hle2:pre.length≤pre2.length+(r2.length+1):=by omega
    have hle3:pre.length*6≤(pre2.length+(r2.length+1))*6:=Nat.mul_le_mul_right _ hle2
    have hx:=hg x (by simp) y (by simp)
    clear hpp' hll hg
    have hv2:v=(p x y&&di p r r2):=hv
    clear hv
    repeat' first|refine G1 ?_|(refine G2 ?_ ?_<;>intro hc hd<;>try exact hd.elim)|fail
    refine aC hx ?_ (hp:=hgp) (hcl:=by simp[aw,aE,Val.closed, *])
    clear hx
    repeat' first|refine G1 ?_|(refine G2 ?_ ?_<;>intro hc hd<;>try exact hd.elim)|fail
    ·
     (have e:v=false:=(by grind [List.length_eq_zero_iff,aL,aN,aM,aY]);(try clear hv);(try clear hv2);exact⟨by simp,.bool v,1,by simp[Tryz.f60, *],rfl⟩)
    ·
     have e:v=di p r r2:=(by grind)
     exact NX [] fun a2 hF2=>⟨rfl,pre++[x],r,pre2++[y],r2,by simp,by simp,(by have:pre.length=pre2.length:=hpp;simp[Eqn,this]),rfl,(hF2.q 17),e⟩
 ·
  have hpi:¬(l.length:Int)=m.length:=by omega
  have e:v=false:=by
   rw[hv]
   clear hv hb hm hg hpi
   induction l generalizing m with
   |nil=>cases m with
    |nil=>exact(hlm rfl).elim
    |cons y m=>rfl
   |cons x l ih=>cases m with
    |nil=>rfl
    |cons y m=>
     simp only[di,Bool.and_eq_false_iff]
     exact .inr (ih m (by simpa using hlm))
  clear hv
  refine Y3 32 Tryz.func60 rfl rfl fun a hl g0 g1 g2=>?_
  repeat' first|refine G1 ?_|(refine G2 ?_ ?_<;>intro hc hd<;>try exact hd.elim)|fail
  all_goals first|(refine⟨by simp,.bool v,1,?_,rfl⟩;(simp[Tryz.f60, *]<;>grind [List.length_eq_zero_iff]);done)|skip
theorem f85 (l m:List Doc)(p:Doc→Doc→Int)(hb:l.length<big)(hm:m.length<big)(g:FuncId)(first cap:List Val)(hg:∀x∈l,∀y∈m,PureOk Tryz.prog Γ g (first ++ .ag (aH x) :: .ag (aH y)::cap) (.int .i64 (p x y)))(hgp:bL Tryz.prog g=true)(hcf:aE first=true)(hcc:aE cap=true) :
  PureOk Tryz.prog Γ 85 [sls aH l,sls aH m,.fn g first cap] (.int .i64 (cf p l m)):=by
 simp only[big] at hb hm
 obtain⟨v,hv⟩:∃v,v=cf p l m:=⟨_,rfl⟩
 rw[←hv]
 refine Y3 39 Tryz.func85 rfl rfl fun a hl g0 g1 g2=>?_
 repeat' first|refine G1 ?_|(refine G2 ?_ ?_<;>intro hc hd<;>try exact hd.elim)|fail
 refine am [(6,10),(14,33)] [13] (fun k a h=>h=[]∧∃pre rest pre2 rest2,l=pre++rest∧m=pre2++rest2∧Eqn pre.length pre2.length∧k=rest.length∧lk a 13=some (.int .i64 pre.length)∧v=cf p rest rest2) ⟨rfl,[],l,[],m,rfl,rfl,rfl,rfl,by simp[*],hv⟩ ?_
 intro a1 hk hk0 k a h hF hI
 replace g0:=hF.a hk 0
 replace g1:=hF.a hk 1
 replace g2:=hF.a hk 2
 replace g11:=hF.a hk 11
 replace g12:=hF.a hk 12
 replace hl:a.length=39:=hF.len.trans (hk0.trans (by simp[*]))
 clear hk hk0
 clear hv
 obtain⟨rfl,pre,rest,pre2,rest2,rfl,rfl,hpp,rfl,h13,hv⟩:=hI
 have hpp':pre.length=pre2.length:=hpp
 cases rest with
 |nil=>
  cases rest2 with
  |nil=>
   have hpi:(pre2.length:Int)=pre.length:=by omega
   clear hpp'
   simp[cf] at hv
   repeat' first|refine G1 ?_|(refine G2 ?_ ?_<;>intro hc hd<;>try exact hd.elim)|fail
   all_goals first|(refine⟨by simp,.int .i64 v,1,?_,rfl⟩;(simp[Tryz.f85, *]<;>grind [List.length_eq_zero_iff]);done)|skip
  |cons y r2=>
   have hlt2:(pre.length:Int)<pre2.length+(r2.length+1):=by omega
   clear hpp'
   simp[cf] at hv
   repeat' first|refine G1 ?_|(refine G2 ?_ ?_<;>intro hc hd<;>try exact hd.elim)|fail
   all_goals first|(refine⟨by simp,.int .i64 v,1,?_,rfl⟩;(simp[Tryz.f85, *]<;>grind [List.length_eq_zero_iff]);done)|skip
 |cons x r=>
  have hlt:(pre.length:Int)<pre.length+(r.length+1):=by omega
  have hw:=ad ((pre.length:Int)+1) (by simp at hb;omega) (by simp at hb;omega)
  cases rest2 with
  |nil=>
   have hpi:(pre2.length:Int)=pre.length:=by omega
   clear hpp'
   simp[cf] at hv
   repeat' first|refine G1 ?_|(refine G2 ?_ ?_<;>intro hc hd<;>try exact hd.elim)|fail
   all_goals first|(refine⟨by simp,.int .i64 v,1,?_,rfl⟩;(simp[Tryz.f85, *]<;>grind [List.length_eq_zero_iff]);done)|skip
  |cons y r2=>
   have hlt2:¬((pre2.length:Int)+(r2.length+1)≤pre.length):=by omega
   have hlt3:(pre.length:Int)<pre2.length+(r2.length+1):=by omega
   have hi2:=oG pre2 r2 y
   rw[←hpp'] at hi2
   have hle2:pre.length≤pre2.length+(r2.length+1):=by omega
   have hle3:pre.length*5≤(pre2.length+(r2.length+1))*5:=Nat.mul_le_mul_right _ hle2
   have hx:=hg x (by simp) y (by simp)
   clear hpp' hg
   have hv2:v=if p x y=0 then cf p r r2 else p x y:=hv
   clear hv
   repeat' first|refine G1 ?_|(refine G2 ?_ ?_<;>intro hc hd<;>try exact hd.elim)|fail
   refine aC hx ?_ (hp:=hgp) (hcl:=by simp[aw,aE,Val.closed, *])
   clear hx
   repeat' first|refine G1 ?_|(refine G2 ?_ ?_<;>intro hc hd<;>try exact hd.elim)|fail
   ·
    have e:v=p x y:=(by grind)
    clear hv2
    exact⟨by simp,.int .i64 v,1,by simp[Tryz.f85, *],rfl⟩
   ·
    have e:v=cf p r r2:=(by grind)
    exact NX [] fun a2 hF2=>⟨rfl,pre++[x],r,pre2++[y],r2,by simp,by simp,(by have:pre.length=pre2.length:=hpp;simp[Eqn,this]),rfl,(hF2.q 13),e⟩
theorem f57 (l m:List Str)(hb:l.length<big)(hm:m.length<big):PureOk Tryz.prog Γ 57 [sls aW l,sls aW m] (.bool (di (fun x y=>decide (x=y)) l m)):=by
 simp only[big] at hb hm
 obtain⟨v,hv⟩:∃v,v=di (fun x y=>decide (x=y)) l m:=⟨_,rfl⟩
 rw[←hv]
 by_cases hlm:l.length=m.length
 ·
  have hlm':Eqn l.length m.length:=hlm
  have hpi:(l.length:Int)=m.length:=by omega
  clear hlm
  refine Y2 26 Tryz.func57 rfl rfl fun a hl g0 g1=>?_
  repeat' first|refine G1 ?_|(refine G2 ?_ ?_<;>intro hc hd<;>try exact hd.elim)|fail
  clear hpi
  refine am [(4,5),(14,25)] [13] (fun k a h=>h=[]∧∃pre rest pre2 rest2,l=pre++rest∧m=pre2++rest2∧Eqn pre.length pre2.length∧k=rest.length∧lk a 13=some (.int .i64 pre.length)∧v=di (fun x y=>decide (x=y)) rest rest2) ⟨rfl,[],l,[],m,rfl,rfl,rfl,rfl,by simp[*],hv⟩ ?_
  intro a1 hk hk0 k a h hF hI
  replace g0:=hF.a hk 0
  replace g1:=hF.a hk 1
  replace g12:=hF.a hk 12
  replace hl:a.length=26:=hF.len.trans (hk0.trans (by simp[*]))
  clear hk hk0
  clear hv
  obtain⟨rfl,pre,rest,pre2,rest2,rfl,rfl,hpp,rfl,h13,hv⟩:=hI
  have hpp':pre.length=pre2.length:=hpp
  have hll:(pre++rest).length=(pre2++rest2).length:=hlm'
  simp at hll
  cases rest with
  |nil=>
   cases rest2 with
   |nil=>
    have hnl:¬(pre.length:Int)<pre2.length:=by omega
    clear hpp' hll
    simp[di] at hv
    repeat' first|refine G1 ?_|(refine G2 ?_ ?_<;>intro hc hd<;>try exact hd.elim)|fail
    all_goals first|(refine⟨by simp,.bool v,1,?_,rfl⟩;(simp[Tryz.f57, *]<;>grind [List.length_eq_zero_iff]);done)|skip
   |cons y r2=>simp at hll;omega
  |cons x r=>
   have hlt:(pre.length:Int)<pre.length+(r.length+1):=by omega
   have hw:=ad ((pre.length:Int)+1) (by simp at hb;omega) (by simp at hb;omega)
   cases rest2 with
   |nil=>simp at hll;omega
   |cons y r2=>
    have hlt3:(pre.length:Int)<pre2.length+(r2.length+1):=by omega
    have hi2:=fH pre2 r2 y
    rw[←hpp'] at hi2
    have hle2:pre.length≤pre2.length+(r2.length+1):=by omega
    clear hpp' hll
    have hv2:v=(decide (x=y)&&di (fun x y=>decide (x=y)) r r2):=hv
    clear hv
    repeat' first|refine G1 ?_|(refine G2 ?_ ?_<;>intro hc hd<;>try exact hd.elim)|fail
    ·
     (have e:v=false:=(by grind [List.length_eq_zero_iff,aL,aN,aM,aY]);(try clear hv);(try clear hv2);exact⟨by simp,.bool v,1,by simp[Tryz.f57, *],rfl⟩)
    ·
     have e:v=di (fun x y=>decide (x=y)) r r2:=(by grind)
     exact NX [] fun a2 hF2=>⟨rfl,pre++[x],r,pre2++[y],r2,by simp,by simp,(by have:pre.length=pre2.length:=hpp;simp[Eqn,this]),rfl,(hF2.q 13),e⟩
 ·
  have hpi:¬(l.length:Int)=m.length:=by omega
  have e:v=false:=by
   rw[hv]
   clear hv hb hm hpi
   induction l generalizing m with
   |nil=>cases m with
    |nil=>exact(hlm rfl).elim
    |cons y m=>rfl
   |cons x l ih=>cases m with
    |nil=>rfl
    |cons y m=>
     simp only[di,Bool.and_eq_false_iff]
     exact .inr (ih m (by simpa using hlm))
  clear hv
  refine Y2 26 Tryz.func57 rfl rfl fun a hl g0 g1=>?_
  repeat' first|refine G1 ?_|(refine G2 ?_ ?_<;>intro hc hd<;>try exact hd.elim)|fail
  all_goals first|(refine⟨by simp,.bool v,1,?_,rfl⟩;(simp[Tryz.f57, *]<;>grind [List.length_eq_zero_iff]);done)|skip
theorem f240 (l:List Str)(y:Str)(hb:l.length<big):PureOk Tryz.prog Γ 240 [sls aW l,.str y] (.bool (l.contains y)):=by
 have hr:=f209 Γ l y hb
 have key:∀(l:List Str) (j:Nat),(0≤bg (fun x=>decide (y=x)) l j)↔l.contains y=true:=by
  intro l
  induction l with
  |nil=>intro j;simp[bg]
  |cons x l ih=>
   intro j
   simp only[bg,List.contains_cons,Bool.or_eq_true,beq_iff_eq]
   by_cases e:y=x
   ·
    simp[e]
   ·
    simpa[e] using ih (j+1)
 have k0:=key l 0
 obtain⟨v,hv⟩:∃v,v=l.contains y:=⟨_,rfl⟩
 rw[←hv] at k0 ⊢
 generalize bg (fun x=>decide (y=x)) l 0=i at *
 clear key
 refine Y2 9 Tryz.func240 rfl rfl fun a hl g0 g1=>?_
 repeat' first|refine G1 ?_|(refine G2 ?_ ?_<;>intro hc hd<;>try exact hd.elim)|fail
 refine aC hr ?_
 clear hr
 repeat' first|refine G1 ?_|(refine G2 ?_ ?_<;>intro hc hd<;>try exact hd.elim)|fail
 have e:decide (0≤i)=v:=by rw[Bool.eq_iff_iff];simpa using k0
 all_goals first|(refine⟨by simp,.bool v,1,?_,rfl⟩;(simp[Tryz.f240, *]<;>grind [List.length_eq_zero_iff]);done)|skip
theorem f205 (l:List Doc)(p:Doc→Bool)(hb:l.length<big)(g:FuncId)(first cap:List Val)(hg:∀x∈l,PureOk Tryz.prog Γ g (first ++ .ag (aH x)::cap) (.bool (p x)))(hgp:bL Tryz.prog g=true)(hcf:aE first=true)(hcc:aE cap=true) :
  PureOk Tryz.prog Γ 205 [sls aH l,.fn g first cap] (.bool (l.any p)):=by
 have hr:=f273 Γ l p hb g first cap hg hgp hcf hcc
 have key:∀(l:List Doc) (j:Nat),(0≤bg p l j)↔l.any p=true:=by
  intro l
  induction l with
  |nil=>intro j;simp[bg]
  |cons x l ih=>
   intro j
   simp only[bg,List.any_cons,Bool.or_eq_true]
   by_cases e:p x=true
   ·
    simp[e]
   ·
    simpa[e] using ih (j+1)
 have k0:=key l 0
 obtain⟨v,hv⟩:∃v,v=l.any p:=⟨_,rfl⟩
 rw[←hv] at k0 ⊢
 generalize bg p l 0=i at *
 clear key hg
 refine Y2 9 Tryz.func205 rfl rfl fun a hl g0 g1=>?_
 repeat' first|refine G1 ?_|(refine G2 ?_ ?_<;>intro hc hd<;>try exact hd.elim)|fail
 refine aC hr ?_ (hcl:=by simp[aE,Val.closed, *])
 clear hr
 repeat' first|refine G1 ?_|(refine G2 ?_ ?_<;>intro hc hd<;>try exact hd.elim)|fail
 have e:decide (0≤i)=v:=by rw[Bool.eq_iff_iff];simpa using k0
 all_goals first|(refine⟨by simp,.bool v,1,?_,rfl⟩;(simp[Tryz.f205, *]<;>grind [List.length_eq_zero_iff]);done)|skip
end
end Go.V
end
section
namespace Go.V
theorem im (d:Doc):wD d=d.str.length+dD d.keys+wDs d.kids+1:=by cases d;simp[wD,Doc.str,Doc.keys,Doc.kids]
theorem z8 (d:Doc):0<wD d:=by rw[im];omega
theorem nP:∀l:List Str,l.length≤dD l
 |[]=>Nat.zero_le _
 |x::l=>by have:=nP l;simp only[dD,List.length_cons];omega
theorem rX {l:List Str}{s:Str}(h:s∈l):s.length<dD l:=by
 induction l with
 |nil=>cases h
 |cons x l ih=>
  simp only[dD]
  rcases List.mem_cons.1 h with rfl|h
  ·
   omega
  ·
   have:=ih h;omega
theorem s4:∀l:List Doc,l.length≤wDs l
 |[]=>Nat.zero_le _
 |x::l=>by have:=s4 l;have:=z8 x;simp only[wDs,List.length_cons];omega
theorem kv {l:List Doc}{d:Doc}(h:d∈l):wD d≤wDs l:=by
 induction l with
 |nil=>cases h
 |cons x l ih=>
  simp only[wDs]
  rcases List.mem_cons.1 h with rfl|h
  ·
   omega
  ·
   have:=ih h;omega
theorem nN {d x:Doc}(h:x∈d.kids):wD x<wD d:=by have:=kv h;have:=im d;omega
theorem fP (d:Doc):d.kids.length<wD d:=by have:=s4 d.kids;have:=im d;omega
theorem io (d:Doc):d.keys.length<wD d:=by have:=nP d.keys;have:=im d;omega
theorem Cb {d:Doc}{s:Str}(h:s∈d.keys):s.length<wD d:=by have:=rX h;have:=im d;omega
theorem vO (l:List Doc)(h:∀d∈l,cr d≤wD d):cS l≤wDs l:=by
 induction l with
 |nil=>exact Nat.le_refl _
 |cons x l ih=>
  simp only[cS,wDs]
  have:=h x (by simp)
  have:=ih fun d hd=>h d (by simp[hd])
  omega
theorem xV (d:Doc):cr d≤wD d:=by
 induction d using Doc.ind with
 |h d ih=>
  have:=vO d.kids ih
  have h1:=im d
  have h2:cr d=cS d.kids+1:=by cases d;rfl
  omega
theorem go (t:Ty):wT t=dD t.names+wFs t.fields+wTs t.of+1:=by cases t;simp[wT,Ty.names,Ty.fields,Ty.of]
theorem Cc (t:Ty):0<wT t:=by rw[go];omega
theorem cO (f:Fld)(l:List Fld):wFs (f::l)=f.name.length+1+wT f.ty+wFs l:=by cases f;rfl
theorem s5:∀l:List Fld,l.length≤wFs l
 |[]=>Nat.zero_le _
 |x::l=>by have:=s5 l;rw[cO];simp only[List.length_cons];omega
theorem BH {l:List Fld}{f:Fld}(h:f∈l):f.name.length+1+wT f.ty≤wFs l:=by
 induction l with
 |nil=>cases h
 |cons x l ih=>
  rw[cO]
  rcases List.mem_cons.1 h with rfl|h
  ·
   omega
  ·
   have:=ih h;omega
theorem wn:∀l:List Ty,l.length≤wTs l
 |[]=>Nat.zero_le _
 |x::l=>by have:=wn l;have:=Cc x;simp only[wTs,List.length_cons];omega
theorem BK {l:List Ty}{d:Ty}(h:d∈l):wT d≤wTs l:=by
 induction l with
 |nil=>cases h
 |cons x l ih=>
  simp only[wTs]
  rcases List.mem_cons.1 h with rfl|h
  ·
   omega
  ·
   have:=ih h;omega
theorem dP (t:Ty):t.fields.length<wT t:=by have:=s5 t.fields;have:=go t;omega
theorem qD (t:Ty):t.of.length<wT t:=by have:=wn t.of;have:=go t;omega
theorem jL (t:Ty):t.names.length<wT t:=by have:=nP t.names;have:=go t;omega
theorem BJ {t:Ty}{s:Str}(h:s∈t.names):s.length<wT t:=by have:=rX h;have:=go t;omega
theorem fG {t:Ty}{f:Fld}(h:f∈t.fields):f.name.length+1+wT f.ty<wT t:=by have:=BH h;have:=go t;omega
theorem lc {t x:Ty}(h:x∈t.of):wT x<wT t:=by have:=BK h;have:=go t;omega
theorem eM (s:Lns):wN s=s.a.length+s.b.length+wT s.ty+wD s.doc+2*s.swaps.length+wNs s.subs+1:=by cases s;simp[wN,Lns.a,Lns.b,Lns.ty,Lns.doc,Lns.swaps,Lns.subs]
theorem ze (s:Lns):0<wN s:=by rw[eM];omega
theorem qB:∀l m:List Lns,wNs (l++m)=wNs l+wNs m
 |[],m=>by simp[wNs]
 |x::l,m=>by simp only[List.cons_append,wNs,qB l m];omega
theorem iE:∀l:List Lns,l.length≤wNs l
 |[]=>Nat.zero_le _
 |x::l=>by have:=iE l;have:=ze x;simp only[wNs,List.length_cons];omega
theorem dI {l:List Lns}{d:Lns}(h:d∈l):wN d≤wNs l:=by
 induction l with
 |nil=>cases h
 |cons x l ih=>
  simp only[wNs]
  rcases List.mem_cons.1 h with rfl|h
  ·
   omega
  ·
   have:=ih h;omega
end Go.V
end
section
set_option maxHeartbeats 4000000
namespace Go.V
open Go Go.Proofs
attribute [local irreducible] W bO WD aO yl aS bW
section
variable (Γ:Glo Tryz.prog)
attribute [local simp] bP ei veq
theorem qG:Wk (.sl [] 0 (some 0)) (.sl [] 0 none):=Wk.cap _ _ _
theorem f71c (x:Str)(r:List Str)(hb:r.length+1<big):CallOk Tryz.prog Γ 71 [sls aW (x::r)] [] 0 true (.so 5 0 (r.length+1) none) [(5,.cells (row aW (x::r)) 9 true)] 6:=by
 simp only[big] at hb
 have hb2:(r.length+1)*16≤140737488355328:=by omega
 have hl1:(aW x++row aW r).length=(r.length+1)*1:=by simp<;>omega
 have hl2:1+r.length*1=(r.length+1)*1:=by omega
 have hc1:ai (aW x++row aW r)=true:=by simp[bT,aW]
 refine Z1 8 Tryz.func71 rfl rfl fun a hl g0=>?_
 repeat' first|refine G1 ?_|(refine G2 ?_ ?_<;>intro hc hd<;>try exact hd.elim)|fail
 exact⟨by simp,by simp[Tryz.f71, *],by (repeat (first|exact aU|refine aP (by simp[V.get, *]) ?_))⟩
theorem f71 (l:List Str)(hb:l.length<big):PureOk Tryz.prog Γ 71 [sls aW l] (sls aW l):=by
 cases l with
 |nil=>
  have h1:PureOk Tryz.prog Γ 71 [.nils] .nils:=by
   refine Y1 8 Tryz.func71 rfl rfl fun a hl g0=>?_
   repeat' first|refine G1 ?_|(refine G2 ?_ ?_<;>intro hc hd<;>try exact hd.elim)|fail
   exact⟨by simp,.nils,1,by simp[Tryz.f71, *],rfl⟩
  have h2:PureOk Tryz.prog Γ 71 [.sle] (.sl [] 0 (some 0)):=by
   refine Y1 8 Tryz.func71 rfl rfl fun a hl g0=>?_
   repeat' first|refine G1 ?_|(refine G2 ?_ ?_<;>intro hc hd<;>try exact hd.elim)|fail
   exact⟨by simp,.so 3 0 0 (some 0),100,by simp[Tryz.f71, *],by simp[vw,vwL,V.get]⟩
  exact PureOk.split_nil (us:=[]) (vs:=[]) (h1.wk Wk.nils) (h2.wk qG)
 |cons x r=>
  simp only[big,List.length_cons] at hb
  have hb2:(r.length+1)*16≤140737488355328:=by omega
  have hl1:(aW x++row aW r).length=(r.length+1)*1:=by simp<;>omega
  have hl2:1+r.length*1=(r.length+1)*1:=by omega
  have hc1:ai (aW x++row aW r)=true:=by simp[bT,aW]
  have hcl:aE (aW x++row aW r)=true:=by simp[aw,aW]
  refine Y1 8 Tryz.func71 rfl rfl fun a hl g0=>?_
  repeat' first|refine G1 ?_|(refine G2 ?_ ?_<;>intro hc hd<;>try exact hd.elim)|fail
  refine⟨by simp,.so 5 0 (r.length+1) none,(aW x++row aW r).length+3,by simp[Tryz.f71, *],?_⟩
  rw[vw]
  simp[V.get,hl1,hl2,List.take_of_length_le,List.drop_zero]
  exact eF (by simp) (by simp<;>omega)
theorem f72c (x:Fld)(r:List Fld)(hb:r.length+1<big):CallOk Tryz.prog Γ 72 [sls aZ (x::r)] [] 0 true (.so 5 0 (r.length+1) none) [(5,.cells (row aZ (x::r)) 112 true)] 6:=by
 simp only[big] at hb
 have hb2:(r.length+1)*120≤140737488355328:=by omega
 have hl1:(aZ x++row aZ r).length=(r.length+1)*8:=by simp<;>omega
 have hl2:8+r.length*8=(r.length+1)*8:=by omega
 have hc1:ai (aZ x++row aZ r)=true:=by simp[bT,aZ]
 refine Z1 8 Tryz.func72 rfl rfl fun a hl g0=>?_
 repeat' first|refine G1 ?_|(refine G2 ?_ ?_<;>intro hc hd<;>try exact hd.elim)|fail
 exact⟨by simp,by simp[Tryz.f72, *],by (repeat (first|exact aU|refine aP (by simp[V.get, *]) ?_))⟩
theorem f72 (l:List Fld)(hb:l.length<big):PureOk Tryz.prog Γ 72 [sls aZ l] (sls aZ l):=by
 cases l with
 |nil=>
  have h1:PureOk Tryz.prog Γ 72 [.nils] .nils:=by
   refine Y1 8 Tryz.func72 rfl rfl fun a hl g0=>?_
   repeat' first|refine G1 ?_|(refine G2 ?_ ?_<;>intro hc hd<;>try exact hd.elim)|fail
   exact⟨by simp,.nils,1,by simp[Tryz.f72, *],rfl⟩
  have h2:PureOk Tryz.prog Γ 72 [.sle] (.sl [] 0 (some 0)):=by
   refine Y1 8 Tryz.func72 rfl rfl fun a hl g0=>?_
   repeat' first|refine G1 ?_|(refine G2 ?_ ?_<;>intro hc hd<;>try exact hd.elim)|fail
   exact⟨by simp,.so 3 0 0 (some 0),100,by simp[Tryz.f72, *],by simp[vw,vwL,V.get]⟩
  exact PureOk.split_nil (us:=[]) (vs:=[]) (h1.wk Wk.nils) (h2.wk qG)
 |cons x r=>
  simp only[big,List.length_cons] at hb
  have hb2:(r.length+1)*120≤140737488355328:=by omega
  have hl1:(aZ x++row aZ r).length=(r.length+1)*8:=by simp<;>omega
  have hl2:8+r.length*8=(r.length+1)*8:=by omega
  have hc1:ai (aZ x++row aZ r)=true:=by simp[bT,aZ]
  have hcl:aE (aZ x++row aZ r)=true:=by simp[aw,aZ]
  refine Y1 8 Tryz.func72 rfl rfl fun a hl g0=>?_
  repeat' first|refine G1 ?_|(refine G2 ?_ ?_<;>intro hc hd<;>try exact hd.elim)|fail
  refine⟨by simp,.so 5 0 (r.length+1) none,(aZ x++row aZ r).length+3,by simp[Tryz.f72, *],?_⟩
  rw[vw]
  simp[V.get,hl1,hl2,List.take_of_length_le,List.drop_zero]
  exact eF (by simp) (by simp<;>omega)
theorem f73c (x:Ty)(r:List Ty)(hb:r.length+1<big):CallOk Tryz.prog Γ 73 [sls cTy (x::r)] [] 0 true (.so 5 0 (r.length+1) none) [(5,.cells (row cTy (x::r)) 26 true)] 6:=by
 simp only[big] at hb
 have hb2:(r.length+1)*96≤140737488355328:=by omega
 have hl1:(cTy x++row cTy r).length=(r.length+1)*6:=by simp<;>omega
 have hl2:6+r.length*6=(r.length+1)*6:=by omega
 have hc1:ai (cTy x++row cTy r)=true:=by simp[bT,cTy]
 refine Z1 8 Tryz.func73 rfl rfl fun a hl g0=>?_
 repeat' first|refine G1 ?_|(refine G2 ?_ ?_<;>intro hc hd<;>try exact hd.elim)|fail
 exact⟨by simp,by simp[Tryz.f73, *],by (repeat (first|exact aU|refine aP (by simp[V.get, *]) ?_))⟩
theorem f73 (l:List Ty)(hb:l.length<big):PureOk Tryz.prog Γ 73 [sls cTy l] (sls cTy l):=by
 cases l with
 |nil=>
  have h1:PureOk Tryz.prog Γ 73 [.nils] .nils:=by
   refine Y1 8 Tryz.func73 rfl rfl fun a hl g0=>?_
   repeat' first|refine G1 ?_|(refine G2 ?_ ?_<;>intro hc hd<;>try exact hd.elim)|fail
   exact⟨by simp,.nils,1,by simp[Tryz.f73, *],rfl⟩
  have h2:PureOk Tryz.prog Γ 73 [.sle] (.sl [] 0 (some 0)):=by
   refine Y1 8 Tryz.func73 rfl rfl fun a hl g0=>?_
   repeat' first|refine G1 ?_|(refine G2 ?_ ?_<;>intro hc hd<;>try exact hd.elim)|fail
   exact⟨by simp,.so 3 0 0 (some 0),100,by simp[Tryz.f73, *],by simp[vw,vwL,V.get]⟩
  exact PureOk.split_nil (us:=[]) (vs:=[]) (h1.wk Wk.nils) (h2.wk qG)
 |cons x r=>
  simp only[big,List.length_cons] at hb
  have hb2:(r.length+1)*96≤140737488355328:=by omega
  have hl1:(cTy x++row cTy r).length=(r.length+1)*6:=by simp<;>omega
  have hl2:6+r.length*6=(r.length+1)*6:=by omega
  have hc1:ai (cTy x++row cTy r)=true:=by simp[bT,cTy]
  have hcl:aE (cTy x++row cTy r)=true:=by simp[aw,cTy]
  refine Y1 8 Tryz.func73 rfl rfl fun a hl g0=>?_
  repeat' first|refine G1 ?_|(refine G2 ?_ ?_<;>intro hc hd<;>try exact hd.elim)|fail
  refine⟨by simp,.so 5 0 (r.length+1) none,(cTy x++row cTy r).length+3,by simp[Tryz.f73, *],?_⟩
  rw[vw]
  simp[V.get,hl1,hl2,List.take_of_length_le,List.drop_zero]
  exact eF (by simp) (by simp<;>omega)
theorem f138c (x:Doc)(r:List Doc)(hb:r.length+1<big):CallOk Tryz.prog Γ 138 [sls aH (x::r)] [] 0 true (.so 5 0 (r.length+1) none) [(5,.cells (row aH (x::r)) 30 true)] 6:=by
 simp only[big] at hb
 have hb2:(r.length+1)*80≤140737488355328:=by omega
 have hl1:(aH x++row aH r).length=(r.length+1)*5:=by simp<;>omega
 have hl2:5+r.length*5=(r.length+1)*5:=by omega
 have hc1:ai (aH x++row aH r)=true:=by simp[bT,aH]
 refine Z1 8 Tryz.func138 rfl rfl fun a hl g0=>?_
 repeat' first|refine G1 ?_|(refine G2 ?_ ?_<;>intro hc hd<;>try exact hd.elim)|fail
 exact⟨by simp,by simp[Tryz.f138, *],by (repeat (first|exact aU|refine aP (by simp[V.get, *]) ?_))⟩
theorem f138 (l:List Doc)(hb:l.length<big):PureOk Tryz.prog Γ 138 [sls aH l] (sls aH l):=by
 cases l with
 |nil=>
  have h1:PureOk Tryz.prog Γ 138 [.nils] .nils:=by
   refine Y1 8 Tryz.func138 rfl rfl fun a hl g0=>?_
   repeat' first|refine G1 ?_|(refine G2 ?_ ?_<;>intro hc hd<;>try exact hd.elim)|fail
   exact⟨by simp,.nils,1,by simp[Tryz.f138, *],rfl⟩
  have h2:PureOk Tryz.prog Γ 138 [.sle] (.sl [] 0 (some 0)):=by
   refine Y1 8 Tryz.func138 rfl rfl fun a hl g0=>?_
   repeat' first|refine G1 ?_|(refine G2 ?_ ?_<;>intro hc hd<;>try exact hd.elim)|fail
   exact⟨by simp,.so 3 0 0 (some 0),100,by simp[Tryz.f138, *],by simp[vw,vwL,V.get]⟩
  exact PureOk.split_nil (us:=[]) (vs:=[]) (h1.wk Wk.nils) (h2.wk qG)
 |cons x r=>
  simp only[big,List.length_cons] at hb
  have hb2:(r.length+1)*80≤140737488355328:=by omega
  have hl1:(aH x++row aH r).length=(r.length+1)*5:=by simp<;>omega
  have hl2:5+r.length*5=(r.length+1)*5:=by omega
  have hc1:ai (aH x++row aH r)=true:=by simp[bT,aH]
  have hcl:aE (aH x++row aH r)=true:=by simp[aw,aH]
  refine Y1 8 Tryz.func138 rfl rfl fun a hl g0=>?_
  repeat' first|refine G1 ?_|(refine G2 ?_ ?_<;>intro hc hd<;>try exact hd.elim)|fail
  refine⟨by simp,.so 5 0 (r.length+1) none,(aH x++row aH r).length+3,by simp[Tryz.f138, *],?_⟩
  rw[vw]
  simp[V.get,hl1,hl2,List.take_of_length_le,List.drop_zero]
  exact eF (by simp) (by simp<;>omega)
theorem f139c (x:Int)(r:List Int)(hb:r.length+1<big):CallOk Tryz.prog Γ 139 [sls bv (x::r)] [] 0 true (.so 5 0 (r.length+1) none) [(5,.cells (row bv (x::r)) 3 true)] 6:=by
 simp only[big] at hb
 have hb2:(r.length+1)*8≤140737488355328:=by omega
 have hl1:(bv x++row bv r).length=(r.length+1)*1:=by simp<;>omega
 have hl2:1+r.length*1=(r.length+1)*1:=by omega
 have hc1:ai (bv x++row bv r)=true:=by simp[bT,bv]
 refine Z1 8 Tryz.func139 rfl rfl fun a hl g0=>?_
 repeat' first|refine G1 ?_|(refine G2 ?_ ?_<;>intro hc hd<;>try exact hd.elim)|fail
 exact⟨by simp,by simp[Tryz.f139, *],by (repeat (first|exact aU|refine aP (by simp[V.get, *]) ?_))⟩
theorem f139 (l:List Int)(hb:l.length<big):PureOk Tryz.prog Γ 139 [sls bv l] (sls bv l):=by
 cases l with
 |nil=>
  have h1:PureOk Tryz.prog Γ 139 [.nils] .nils:=by
   refine Y1 8 Tryz.func139 rfl rfl fun a hl g0=>?_
   repeat' first|refine G1 ?_|(refine G2 ?_ ?_<;>intro hc hd<;>try exact hd.elim)|fail
   exact⟨by simp,.nils,1,by simp[Tryz.f139, *],rfl⟩
  have h2:PureOk Tryz.prog Γ 139 [.sle] (.sl [] 0 (some 0)):=by
   refine Y1 8 Tryz.func139 rfl rfl fun a hl g0=>?_
   repeat' first|refine G1 ?_|(refine G2 ?_ ?_<;>intro hc hd<;>try exact hd.elim)|fail
   exact⟨by simp,.so 3 0 0 (some 0),100,by simp[Tryz.f139, *],by simp[vw,vwL,V.get]⟩
  exact PureOk.split_nil (us:=[]) (vs:=[]) (h1.wk Wk.nils) (h2.wk qG)
 |cons x r=>
  simp only[big,List.length_cons] at hb
  have hb2:(r.length+1)*8≤140737488355328:=by omega
  have hl1:(bv x++row bv r).length=(r.length+1)*1:=by simp<;>omega
  have hl2:1+r.length*1=(r.length+1)*1:=by omega
  have hc1:ai (bv x++row bv r)=true:=by simp[bT,bv]
  have hcl:aE (bv x++row bv r)=true:=by simp[aw,bv]
  refine Y1 8 Tryz.func139 rfl rfl fun a hl g0=>?_
  repeat' first|refine G1 ?_|(refine G2 ?_ ?_<;>intro hc hd<;>try exact hd.elim)|fail
  refine⟨by simp,.so 5 0 (r.length+1) none,(bv x++row bv r).length+3,by simp[Tryz.f139, *],?_⟩
  rw[vw]
  simp[V.get,hl1,hl2,List.take_of_length_le,List.drop_zero]
  exact eF (by simp) (by simp<;>omega)
theorem f172c (x:Lns)(r:List Lns)(hb:r.length+1<big):CallOk Tryz.prog Γ 172 [sls aK (x::r)] [] 0 true (.so 5 0 (r.length+1) none) [(5,.cells (row aK (x::r)) 122 true)] 6:=by
 simp only[big] at hb
 have hb2:(r.length+1)*264≤140737488355328:=by omega
 have hl1:(aK x++row aK r).length=(r.length+1)*16:=by simp<;>omega
 have hl2:16+r.length*16=(r.length+1)*16:=by omega
 have hc1:ai (aK x++row aK r)=true:=by simp[bT,aK]
 refine Z1 8 Tryz.func172 rfl rfl fun a hl g0=>?_
 repeat' first|refine G1 ?_|(refine G2 ?_ ?_<;>intro hc hd<;>try exact hd.elim)|fail
 exact⟨by simp,by simp[Tryz.f172, *],by (repeat (first|exact aU|refine aP (by simp[V.get, *]) ?_))⟩
theorem f172 (l:List Lns)(hb:l.length<big):PureOk Tryz.prog Γ 172 [sls aK l] (sls aK l):=by
 cases l with
 |nil=>
  have h1:PureOk Tryz.prog Γ 172 [.nils] .nils:=by
   refine Y1 8 Tryz.func172 rfl rfl fun a hl g0=>?_
   repeat' first|refine G1 ?_|(refine G2 ?_ ?_<;>intro hc hd<;>try exact hd.elim)|fail
   exact⟨by simp,.nils,1,by simp[Tryz.f172, *],rfl⟩
  have h2:PureOk Tryz.prog Γ 172 [.sle] (.sl [] 0 (some 0)):=by
   refine Y1 8 Tryz.func172 rfl rfl fun a hl g0=>?_
   repeat' first|refine G1 ?_|(refine G2 ?_ ?_<;>intro hc hd<;>try exact hd.elim)|fail
   exact⟨by simp,.so 3 0 0 (some 0),100,by simp[Tryz.f172, *],by simp[vw,vwL,V.get]⟩
  exact PureOk.split_nil (us:=[]) (vs:=[]) (h1.wk Wk.nils) (h2.wk qG)
 |cons x r=>
  simp only[big,List.length_cons] at hb
  have hb2:(r.length+1)*264≤140737488355328:=by omega
  have hl1:(aK x++row aK r).length=(r.length+1)*16:=by simp<;>omega
  have hl2:16+r.length*16=(r.length+1)*16:=by omega
  have hc1:ai (aK x++row aK r)=true:=by simp[bT,aK]
  have hcl:aE (aK x++row aK r)=true:=by simp[aw,aK]
  refine Y1 8 Tryz.func172 rfl rfl fun a hl g0=>?_
  repeat' first|refine G1 ?_|(refine G2 ?_ ?_<;>intro hc hd<;>try exact hd.elim)|fail
  refine⟨by simp,.so 5 0 (r.length+1) none,(aK x++row aK r).length+3,by simp[Tryz.f172, *],?_⟩
  rw[vw]
  simp[V.get,hl1,hl2,List.take_of_length_le,List.drop_zero]
  exact eF (by simp) (by simp<;>omega)
theorem f173 (l:List (Int×Int))(hb:l.length<big):PureOk Tryz.prog Γ 173 [sls bx l] (sls bx l):=by
 cases l with
 |nil=>
  have h1:PureOk Tryz.prog Γ 173 [.nils] .nils:=by
   refine Y1 8 Tryz.func173 rfl rfl fun a hl g0=>?_
   repeat' first|refine G1 ?_|(refine G2 ?_ ?_<;>intro hc hd<;>try exact hd.elim)|fail
   exact⟨by simp,.nils,1,by simp[Tryz.f173, *],rfl⟩
  have h2:PureOk Tryz.prog Γ 173 [.sle] (.sl [] 0 (some 0)):=by
   refine Y1 8 Tryz.func173 rfl rfl fun a hl g0=>?_
   repeat' first|refine G1 ?_|(refine G2 ?_ ?_<;>intro hc hd<;>try exact hd.elim)|fail
   exact⟨by simp,.so 3 0 0 (some 0),100,by simp[Tryz.f173, *],by simp[vw,vwL,V.get]⟩
  exact PureOk.split_nil (us:=[]) (vs:=[]) (h1.wk Wk.nils) (h2.wk qG)
 |cons x r=>
  simp only[big,List.length_cons] at hb
  have hb2:(r.length+1)*16≤140737488355328:=by omega
  have hl1:(bx x++row bx r).length=(r.length+1)*2:=by simp<;>omega
  have hl2:2+r.length*2=(r.length+1)*2:=by omega
  have hc1:ai (bx x++row bx r)=true:=by simp[bT,bx]
  have hcl:aE (bx x++row bx r)=true:=by simp[aw,bx]
  refine Y1 8 Tryz.func173 rfl rfl fun a hl g0=>?_
  repeat' first|refine G1 ?_|(refine G2 ?_ ?_<;>intro hc hd<;>try exact hd.elim)|fail
  refine⟨by simp,.so 5 0 (r.length+1) none,(bx x++row bx r).length+3,by simp[Tryz.f173, *],?_⟩
  rw[vw]
  simp[V.get,hl1,hl2,List.take_of_length_le,List.drop_zero]
  exact eF (by simp) (by simp<;>omega)
end
end Go.V
end
section
set_option maxHeartbeats 4000000
namespace Go.V
open Go Go.Proofs
attribute [local irreducible] W bO WD aO yl aS bW
section
variable (Γ:Glo Tryz.prog)
attribute [local simp] veq
theorem kR {α:Type}{c:α→List Val}{e:Nat}(h:∀x,(c x).length=e)(pre r:List α)(x:α):aX (row c (pre++x::r)) (pre.length*e) (c x)=row c (pre++x::r):=by
 rw[w4 h _ _ (by simp)]
 congr 1
 simp
@[simp] theorem GR (pre r:List Doc)(x:Doc):(row aH (pre++x::r)).take (pre.length*5)++(aH x++(row aH (pre++x::r)).drop (pre.length*5+5))=row aH (pre++x::r):=by
 have:=kR bS pre r x
 unfold aX at this
 rwa[List.append_assoc,bS] at this
@[simp] theorem Es (p r e:Nat):p*e+e≤(p+(r+1))*e:=by
 rw[Nat.add_mul,Nat.add_mul];omega
theorem dC {P:Program}{h:Heap}{id k n:Nat}{cs:List Val}{t:TypeId}{o:Bool}{cap:Option Nat}(hg:get h id=some (.cells cs t o))(hl:k*P.cellsOf t=cs.length)(hc:aE cs=true)(hn:cs.length<n):vw P h (n+1) (.so id 0 k cap)=some (.sl cs k cap):=by
 rw[vw]
 simp only[Val.closed,Bool.false_eq_true,if_false,hg,Nat.zero_add,hl,Nat.le_refl,if_true,List.drop_zero,List.take_length]
 rw[eF hc hn]
 rfl
theorem aI {P:Program}{h:Heap}{n:Nat}{v u:Val}{vs us:List Val}(h1:vw P h n v=some u)(h2:vwL P h n vs=some us):vwL P h (n+1) (v::vs)=some (u::us):=by simp only[vwL,h1,h2]
theorem bR {P:Program}{h:Heap}{n:Nat}:vwL P h (n+1) []=some []:=rfl
theorem er {P:Program}{h:Heap}{n:Nat}{cs us:List Val}(hc:aE cs=false)(h1:vwL P h n cs=some us):vw P h (n+1) (.ag cs)=some (.ag us):=by
 rw[vw]
 simp only[Val.closed,hc,Bool.false_eq_true,if_false,h1,Option.map_some]
theorem f78 (d:Doc)(hb:wD d<big):PureOk Tryz.prog Γ 78 [.ag (aH d)] (.ag (aH d)):=by
 induction d using Doc.ind with
 |h d ih=>
 have hk:=fP d
 have hk2:=io d
 have h1:=f71 Γ d.keys (by simp only[big] at *;omega)
 have ih':∀x∈d.kids,PureOk Tryz.prog Γ 78 [.ag (aH x)] (.ag (aH x)):=fun x hx=>ih x hx (by have:=nN hx;simp only[big] at *;omega)
 clear ih
 cases hkids:d.kids with
 |nil=>
  have h2:PureOk Tryz.prog Γ 138 [.sl [] 0 none] (.sl [] 0 none):=f138 Γ [] (by simp[big])
  rw[db,hkids]
  clear ih'
  refine Y1 29 Tryz.func78 rfl rfl fun a hl g0=>?_
  repeat' first|refine G1 ?_|(refine G2 ?_ ?_<;>intro hc hd<;>try exact hd.elim)|fail
  refine aQ h1 ?_
  repeat' first|refine G1 ?_|(refine G2 ?_ ?_<;>intro hc hd<;>try exact hd.elim)|fail
  refine aQ h2 ?_
  clear h1 h2
  repeat' first|refine G1 ?_|(refine G2 ?_ ?_<;>intro hc hd<;>try exact hd.elim)|fail
  refine am [(3,4),(17,27)] [16] (fun k a h=>k=0∧lk a 16=some (.int .i64 0)∧h=[(0,.cells [.int .i64 d.kind,.int .i64 d.num,.str d.str,sls aW d.keys,.sl [] 0 none] 30 false),(1,.cells [.int .i64 0,.int .i64 0,.str [],.nils,.nils] 30 false)]) ⟨rfl,by simp[*],by simp[V.put,aX, *]⟩ ?_
  intro a1 hk hk0 k a h hF hI
  replace g1:=hF.a hk 1
  replace g2:=hF.a hk 2
  replace g14:=hF.a hk 14
  replace g15:=hF.a hk 15
  replace hl:a.length=29:=hF.len.trans (hk0.trans (by simp[*]))
  clear hk hk0
  obtain⟨_,h16,rfl⟩:=hI
  repeat' first|refine G1 ?_|(refine G2 ?_ ?_<;>intro hc hd<;>try exact hd.elim)|fail
  exact⟨by simp,.ag [.int .i64 d.kind,.int .i64 d.num,.str d.str,sls aW d.keys,.sl [] 0 none],100,by simp[Tryz.f78,V.get,V.put,aX, *],by simp[vw,vwL]⟩
 |cons x0 r0=>
  rw[hkids] at hk ih'
  have h2:=(f138c Γ x0 r0 (by simp at hk;simp only[big] at *;omega)).ren [] 2 rfl (by simp[cm]) (by simp) rfl
  simp at h2
  rw[db,hkids]
  obtain⟨ds,hds⟩:∃ds,x0::r0=ds:=⟨_,rfl⟩
  have hlen:(r0.length:Int)+1=ds.length:=by rw[←hds];simp
  have hlen2:r0.length+1=ds.length:=by rw[←hds];simp
  have hrow:aH x0++row aH r0=row aH ds:=by rw[←hds];rfl
  rw[hrow,hlen2] at h2
  rw[hds] at hk ih' ⊢
  clear hrow hlen hlen2
  refine Y1 29 Tryz.func78 rfl rfl fun a hl g0=>?_
  repeat' first|refine G1 ?_|(refine G2 ?_ ?_<;>intro hc hd<;>try exact hd.elim)|fail
  refine aQ h1 ?_
  repeat' first|refine G1 ?_|(refine G2 ?_ ?_<;>intro hc hd<;>try exact hd.elim)|fail
  refine cI h2 ?_
  clear h1 h2
  repeat' first|refine G1 ?_|(refine G2 ?_ ?_<;>intro hc hd<;>try exact hd.elim)|fail
  refine am [(3,4),(17,27)] [16] (fun k a h=>h=[(7,.cells (row aH ds) 30 true),(0,.cells [.int .i64 d.kind,.int .i64 d.num,.str d.str,sls aW d.keys,.so 7 0 ds.length none] 30 false),(1,.cells [.int .i64 0,.int .i64 0,.str [],.nils,.nils] 30 false)]∧∃pre rest,ds=pre++rest∧k=rest.length∧lk a 16=some (.int .i64 pre.length)) ⟨by simp[V.put,aX, *],[],ds,rfl,rfl,by simp[*]⟩ ?_
  intro a1 hk hk0 k a h hF hI
  replace g1:=hF.a hk 1
  replace g2:=hF.a hk 2
  replace g14:=hF.a hk 14
  replace g15:=hF.a hk 15
  replace hl:a.length=29:=hF.len.trans (hk0.trans (by simp[*]))
  clear hk hk0
  obtain⟨rfl,pre,rest,rfl,rfl,h16⟩:=hI
  cases rest with
  |nil=>
   simp only[List.append_nil] at *
   repeat' first|refine G1 ?_|(refine G2 ?_ ?_<;>intro hc hd<;>try exact hd.elim)|fail
   refine⟨by simp,.ag [.int .i64 d.kind,.int .i64 d.num,.str d.str,sls aW d.keys,.so 7 0 pre.length none],(row aH pre).length+10,by simp[Tryz.f78,V.get,V.put,aX, *],?_⟩
   refine er (by simp) (aI (aG (by simp)) (aI (aG (by simp)) (aI (aG (by simp)) (aI (aG (by simp)) (aI (dC rfl (by simp) (by simp) (by omega)) bR)))))
  |cons x r=>
   have hlt:(pre.length:Int)<pre.length+(r.length+1):=by omega
   have hw:=ad ((pre.length:Int)+1) (by simp at hk;simp only[big] at *;omega) (by simp at hk;simp only[big] at *;omega)
   have hx:=ih' x (by simp)
   clear ih'
   repeat' first|refine G1 ?_|(refine G2 ?_ ?_<;>intro hc hd<;>try exact hd.elim)|fail
   refine aQ hx ?_
   clear hx
   repeat' first|refine G1 ?_|(refine G2 ?_ ?_<;>intro hc hd<;>try exact hd.elim)|fail
   exact NX [(7,.cells (row aH (pre++x::r)) 30 true),(0,.cells [.int .i64 d.kind,.int .i64 d.num,.str d.str,sls aW d.keys,.so 7 0 (pre++x::r).length none] 30 false),(1,.cells [.int .i64 0,.int .i64 0,.str [],.nils,.nils] 30 false)] fun a2 hF2=>⟨rfl,pre++[x],r,by simp,rfl,(hF2.q 16)⟩
end
end Go.V
end
