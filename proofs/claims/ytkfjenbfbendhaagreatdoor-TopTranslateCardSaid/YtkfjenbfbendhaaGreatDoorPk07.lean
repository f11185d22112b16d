/-
  A part of a proof: V20 V21 S1 S3 D0.
-/
import Derived.Test.YtkfjenbfbendhaaGreatDoorPk06
import Derived.Test.YtkfjenbfbendhaaGreatDoorProg
set_option linter.unusedSimpArgs false
set_option linter.unusedVariables false
section
namespace Go.V
open Go
section
variable {P:Program} {Γ:Glo P}
mutual
def aS (N:Nat):Val→Bool
 |.pr i _|.so i _ _ _|.mp i=>decide (i<N)
 |.pp cs|.sl cs _ _|.ag cs|.tp cs=>aV N cs
 |.fn _ az cs=>aV N az&&aV N cs
 |.ifc _ v=>aS N v
 |_=>true
def aV (N:Nat):List Val→Bool
 |[]=>true
 |v::vs=>aS N v&&aV N vs
end
def cN (N:Nat):Blk→Bool
 |.cells cs _ _=>aV N cs
 |.map es=>es.all fun e=>aS N e.1&&aS N e.2
def bW (N:Nat)(h:Heap):Bool:=h.all fun p=>decide (p.1<N)&&cN N p.2
def cut (ρ:Pl)(N:Nat):Pl:=fun i=>if i<N then ρ i else none
mutual
theorem Rel.cut {F:Fro}{ρ:Pl}{N:Nat}:∀(v:Val)(x:Value),aS N v=true→Rel F ρ v x→Rel F (cut ρ N) v x
 |.bool _,_,_,h|.int _ _,_,_,h|.str _,_,_,h|.nilp,_,_,h|.nils,_,_,h|.nilm,_,_,h|.nilf,_,_,h|.nili,_,_,h|.sle,_,_,h|.jk _,_,_,h=>by simpa[Rel] using h
 |.pp cs,x,hc,h=>by
  simp only[Rel,aS] at *
  obtain⟨b,o,c,h1,h2,h3⟩:=h;exact⟨b,o,c,h1,h2,RelL.cut _ _ hc h3⟩
 |.pr id off,x,hc,h=>by
  simp only[Rel,aS,decide_eq_true_eq] at *
  obtain⟨L,h1,h2⟩:=h;exact⟨L,by simp[V.cut,hc,h1],h2⟩
 |.so id off n cap,x,hc,h=>by
  simp only[Rel,aS,decide_eq_true_eq] at *
  obtain⟨L,k,h1,h2⟩:=h;exact⟨L,k,by simp[V.cut,hc,h1],h2⟩
 |.mp id,x,hc,h=>by
  simp only[Rel,aS,decide_eq_true_eq] at *
  obtain⟨L,h1,h2⟩:=h;exact⟨L,by simp[V.cut,hc,h1],h2⟩
 |.sl cs n cap,x,hc,h=>by
  simp only[Rel,aS] at *
  rcases h with h|⟨b,o,c,k,h1,h2,h3,h4,h5⟩
  ·exact .inl h
  ·exact .inr ⟨b,o,c,k,h1,h2,h3,h4,RelL.cut _ _ hc h5⟩
 |.fn f az cs,x,hc,h=>by
  simp only[Rel,aS,Bool.and_eq_true] at *
  obtain⟨us,vs,h1,h2,h3⟩:=h;exact⟨us,vs,h1,RelL.cut _ _ hc.1 h2,RelL.cut _ _ hc.2 h3⟩
 |.ifc t v,x,hc,h=>by
  simp only[Rel,aS] at *
  obtain⟨y,h1,h2⟩:=h;exact⟨y,h1,Rel.cut _ _ hc h2⟩
 |.ag cs,x,hc,h=>by
  simp only[Rel,aS] at *
  obtain⟨vs,h1,h2⟩:=h;exact⟨vs,h1,RelL.cut _ _ hc h2⟩
 |.tp cs,x,hc,h=>by
  simp only[Rel,aS] at *
  obtain⟨vs,h1,h2⟩:=h;exact⟨vs,h1,RelL.cut _ _ hc h2⟩
theorem RelL.cut {F:Fro}{ρ:Pl}{N:Nat}:∀(vs:List Val)(xs:List Value),aV N vs=true→RelL F ρ vs xs→RelL F (cut ρ N) vs xs
 |[],_,_,h=>by simpa[RelL] using h
 |v::vs,xs,hc,h=>by
  simp only[RelL,aV,Bool.and_eq_true] at *
  obtain⟨y,ys,h1,h2,h3⟩:=h;exact⟨y,ys,h1,Rel.cut _ _ hc.1 h2,RelL.cut _ _ hc.2 h3⟩
end
theorem MapRel.cut {F:Fro}{ρ:Pl}{N:Nat}:∀{es:List (Val×Val)}{xs:List MapEntry},(es.all fun e=>aS N e.1&&aS N e.2)=true→MapRel F ρ es xs→MapRel F (cut ρ N) es xs
 |[],_,_,h=>h
 |(k,v)::es,xs,hc,h=>by simp only[List.all_cons,Bool.and_eq_true] at hc;obtain⟨y,ys,h1,h2,h3,h4,h5⟩:=h;exact⟨y,ys,h1,Rel.cut _ _ hc.1.1 h2,h3,Rel.cut _ _ hc.1.2 h4,MapRel.cut (by simpa using hc.2) h5⟩
theorem xJ {N:Nat}:∀{h:Heap},bW N h=true→∀{i:Nat}{b:Blk},get h i=some b→i<N∧cN N b=true
 |[],_,i,b,hg=>by simp[get] at hg
 |(k,c)::r,hl,i,b,hg=>by
  simp only[bW,List.all_cons,Bool.and_eq_true,decide_eq_true_eq] at hl;simp only[get] at hg;split at hg
  ·rename_i e;cases hg;exact⟨e ▸ hl.1.1,hl.1.2⟩
  ·exact xJ (h:=r) (by unfold bW;simpa using hl.2) hg
theorem Mem.cut {F:Fro}{ρ:Pl}{h:Heap}{w0 w:World}{O:Nat→Prop}{N:Nat}(m:Mem P F ρ h w0 O w)(hl:bW N h=true):Mem P F (V.cut ρ N) h w0 O w:=by
 have hi:∀i L,V.cut ρ N i=some L→ρ i=some L:=by
  intro i L hc;unfold V.cut at hc;split at hc
  ·exact hc
  ·cases hc
 refine⟨m.fro,fun i blk hg=>?_,fun i j Li Lj h1 h2 h3 h4 h5=>m.inj i j Li Lj h1 h2 (hi _ _ h3) (hi _ _ h4) h5,fun i L h1 h2=>m.ours i L h1 (hi _ _ h2),m.fr⟩;obtain⟨L,x,h1,h2,h3,h4⟩:=m.own i blk hg;obtain⟨q1,q2⟩:=xJ hl hg;refine⟨L,x,by simp[V.cut,q1,h1],h2,h3,?_⟩;cases blk with
 |cells cs t o=>obtain⟨c,g1,g2,g3,g4,g5⟩:=h4;exact⟨c,g1,g2,g3,RelL.cut _ _ q2 g4,g5⟩
 |map es=>obtain⟨ents,clock,g1,g2,hborn⟩:=h4;exact⟨ents,clock,g1,MapRel.cut q2 g2,hborn⟩
theorem Mem.monoP {F:Fro}{ρ ρ':Pl}{h:Heap}{w0 w:World}{O:Nat→Prop}(m:Mem P F ρ h w0 O w)(hp:PLe ρ ρ'):Mem P F ρ' h w0 O w:=by
 have hi:∀i L,(get h i).isSome=true→ρ' i=some L→ρ i=some L:=by
  intro i L h1 h2;cases hg:get h i with
  |none=>simp[hg] at h1
  |some b=>obtain⟨L',x,k1,_⟩:=m.own i b hg;rw[hp _ _ k1] at h2;rw[k1,h2]
 refine⟨m.fro,fun i blk hg=>?_,fun i j Li Lj h1 h2 h3 h4 h5=>m.inj i j Li Lj h1 h2 (hi _ _ h1 h3) (hi _ _ h2 h4) h5,fun i L h1 h2=>m.ours i L h1 (hi _ _ h1 h2),m.fr⟩;obtain⟨L,x,h1,h2,h3,h4⟩:=m.own i blk hg;exact⟨L,x,hp _ _ h1,h2,h3,BRel.mono P (FLe.refl F) hp h4⟩
theorem CallOk.low {f:FuncId}{vs:List Val}{hs h2:Heap}{N N':Nat}{r:Val}(hk:CallOk P Γ f vs hs N true r h2 N')(hl:(aV N vs&&bW N hs)=true):CallOk P Γ f vs hs N false r h2 N':=by
 rw[Bool.and_eq_true] at hl;refine⟨hk.1,fun F ρ w0 O w xs hG m hf hv=>?_⟩;refine Calls.mono (hk.2 F (cut ρ N) w0 O w xs hG (m.cut hl.2) (fun i hi _=>by simp[V.cut,Nat.not_lt.2 hi]) (RelL.cut _ _ hl.1 hv)) ?_;rintro e w' ⟨F',ρ0,x,h1,hx,h3,h4⟩
 let ρ':Pl:=fun i=>if N≤i∧i<N' then ρ0 i else ρ i
 have hle:PLe ρ0 ρ':=by
  intro i L hi;show(if N≤i∧i<N' then ρ0 i else ρ i)=some L;by_cases hc:N≤i∧i<N'
  ·rw[if_pos hc,hi]
  ·rw[if_neg hc];rw[hx.out i hc] at hi;unfold V.cut at hi;split at hi
   ·exact hi
   ·cases hi
 refine⟨F',ρ',x,h1,⟨hx.f,?_,hx.new,fun i hi=>if_neg hi⟩,Rel.mono (FLe.refl _) hle _ _ h3,h4.monoP hle⟩;intro i L hi;show(if N≤i∧i<N' then ρ0 i else ρ i)=some L;by_cases hc:N≤i∧i<N'
 ·rw[hf i hc.1 (.inr hc.2)] at hi;cases hi
 ·rw[if_neg hc,hi]
theorem r8 {o:Oper}{a:List Val}{hs h':Heap}{N i:Nat}{v:Val}(hro:lF o.op=true)(he:bU P Γ o a hs i=some (v,h')):lS P Γ o a ⟨v,N,N,false,true,hs,hs⟩:=by
 refine⟨Nat.le_refl _,fun _=>⟨rfl,rfl⟩,fun id h=>.inl h,?_⟩;intro a' hc F ρ w0 O w act K Q hG m hf ha hK;rw[←qy hc] at he;obtain⟨_,x,h1,h2⟩:=Dj m hG ha hro he;have:=hK F ρ x w (Ext.refl F ρ w0 O N N) h2 m;unfold Oper.wp;rcases h1 with h1|⟨h1,rfl⟩
 ·rw[h1];exact this
 ·rw[h1];exact this
theorem lA {o:Oper}{a:List Val}{hs h':Heap}{N:Nat}{v:Val}(he:bU P Γ o a hs N=some (v,h'))(hk:∀id,(get h' id).isSome=true→(get hs id).isSome=true∨id=N):lS P Γ o a ⟨v,N,N+1,false,false,hs,h'⟩:=by
 refine⟨Nat.le_succ _,(fun h=>by cases h),fun id h=>(hk id h).elim .inl (fun e=>.inr ⟨by simp[e],by simp[e]⟩),?_⟩;intro a' hc F ρ w0 O w act K Q hG m hf ha hK;rw[←qy hc] at he;obtain⟨ρ',x,w',g1,g2,g3,g4,g5⟩:=qz m hG ha (hf N (Nat.le_refl _) (.inr (Nat.lt_succ_self _))) he;have:=hK F ρ' x w' ⟨FLe.refl F,g2,fun _ _ h=>.inl h,fun i hi=>g3 i (by simp at hi;omega)⟩ g4 g5;unfold Oper.wp;rcases g1 with h1|⟨h1,rfl⟩
 ·rw[h1];exact this
 ·rw[h1];exact this
theorem r7 {o:Oper}{a:List Val}{N:Nat}{f:FuncId}{vs:List Val}{r:Val}(hc:callee Γ a o=some (f,vs))(hp:bS P f=true)(hcl:aE vs=true)(hr:PureOk P Γ f vs r):lS P Γ o a ⟨r,N,N,false,true,[],[]⟩:=by refine⟨Nat.le_refl _,fun _=>⟨rfl,rfl⟩,fun id h=>.inl h,?_⟩;intro a' hcg F ρ w0 O w act K Q hG m hf ha hK;rw[←jL hcg] at hc;refine AA m hG ha hc hp hcl hr ?_;intro F' x w' f1 f2 f3 f4;exact hK F' ρ x w' ⟨f1,PLe.refl ρ,fun b c hb=>(f2 b c hb).elim .inl (fun h=>.inr (.inr (Nat.le_trans m.fr.size h))),fun _ _=>rfl⟩ f3 f4
theorem oM {o:Oper}{a:List Val}{N n:Nat}{hs:Heap}{f:FuncId}{vs us:List Val}{r:Val}(hc:callee Γ a o=some (f,vs))(hp:bS P f=true)(hv:vwL P hs n vs=some us)(hr:PureOk P Γ f us r)(hfl:r.flat=true):lS P Γ o a ⟨r,N,N,false,true,hs,hs⟩:=by refine⟨Nat.le_refl _,fun _=>⟨rfl,rfl⟩,fun id h=>.inl h,?_⟩;intro a' hcg F ρ w0 O w act K Q hG m hf ha hK;rw[←jL hcg] at hc;refine tH m hG ha hc hp hv hr hfl ?_;intro x w' f3 f4;exact hK F ρ x w' (Ext.refl F ρ w0 O N N) f3 f4
theorem nS {o:Oper}{a:List Val}{N N':Nat}{all:Bool}{hs h2:Heap}{f:FuncId}{vs:List Val}{r:Val}(hc:callee Γ a o=some (f,vs))(hp:bS P f=true)(hr:CallOk P Γ f vs hs N all r h2 N')
  (hk:∀id,(get h2 id).isSome=true→(get hs id).isSome=true∨(N≤id∧id<N')):lS P Γ o a ⟨r,N,N',all,false,hs,h2⟩:=by
 refine⟨hr.1,(fun h=>by cases h),hk,?_⟩;intro a' hcg F ρ w0 O w act K Q hG m hf ha hK;rw[←jL hcg] at hc;exact vC m hG ha hc hp hr hf fun F' ρ' x w' hx f3 f4=>hK F' ρ' x w' hx f3 f4
def um (P:Program)(Γ:Glo P)(ops:Array Oper)(K:List Val→Heap→Nat→Prop):List Oper→List Rec→List Val→Heap→Nat→Prop
 |[],[],a,h,N=>K a h N
 |o::os,r::rs,a,h,N=>r.n=N∧((aO ops o a=true∧lS P Γ o a r∧∀id b,get r.fp id=some b→get h id=some b)∨(aO ops o a=false∧zT r))∧um P Γ ops K os rs (eJ a o.dst r.v) (eZ h r) r.n'
 |_,_,_,_,_=>False
mutual
def Aa:Val→Val→Bool
 |.bool a,.bool b=>a==b
 |.int k a,.int k' b=>decide (k=k')&&a==b
 |.str a,.str b=>a==b
 |.nilp,.nilp|.nils,.nils|.nilm,.nilm|.nilf,.nilf|.nili,.nili|.sle,.sle=>true
 |.pp a,.pp b=>qE a b
 |.pr i o,.pr j p=>i==j&&o==p
 |.sl a n c,.sl b m d=>n==m&&c==d&&qE a b
 |.so i o n c,.so j p m d=>i==j&&o==p&&n==m&&c==d
 |.mp i,.mp j=>i==j
 |.fn f a b,.fn g c d=>f==g&&qE a c&&qE b d
 |.ifc t v,.ifc u w=>t==u&&Aa v w
 |.ag a,.ag b=>qE a b
 |.tp a,.tp b=>qE a b
 |_,_=>false
def qE:List Val→List Val→Bool
 |[],[]=>true
 |a::az,b::bs=>Aa a b&&qE az bs
 |_,_=>false
end
mutual
theorem qI:∀(a b:Val),Aa a b=true→a=b
 |a,b,h=>by
  cases a<;>cases b<;>simp only[Aa,Bool.and_eq_true,beq_iff_eq,decide_eq_true_eq,Bool.false_eq_true] at h<;>first|rfl|(cases h;done)|skip
  all_goals first
   |(subst h;rfl)
   |(obtain⟨rfl,rfl⟩:=h;rfl)
   |(obtain⟨⟨⟨rfl,rfl⟩,rfl⟩,rfl⟩:=h;rfl)
   |(rw[mU _ _ h])
   |(obtain⟨⟨rfl,rfl⟩,h⟩:=h;rw[mU _ _ h])
   |(obtain⟨⟨rfl,h1⟩,h2⟩:=h;rw[mU _ _ h1,mU _ _ h2])
   |(obtain⟨rfl,h1⟩:=h;rw[qI _ _ h1])
theorem mU:∀(a b:List Val),qE a b=true→a=b
 |[],[],_=>rfl
 |[],_::_,h=>by simp[qE] at h
 |_::_,[],h=>by simp[qE] at h
 |a::az,b::bs,h=>by simp only[qE,Bool.and_eq_true] at h;rw[qI a b h.1,mU az bs h.2]
end
def A9:List (Val×Val)→List (Val×Val)→Bool
 |[],[]=>true
 |a::az,b::bs=>Aa a.1 b.1&&Aa a.2 b.2&&A9 az bs
 |_,_=>false
theorem zX:∀{a b:List (Val×Val)},A9 a b=true→a=b
 |[],[],_=>rfl
 |[],_::_,h=>by simp[A9] at h
 |_::_,[],h=>by simp[A9] at h
 |(a,a')::az,(b,b')::bs,h=>by simp only[A9,Bool.and_eq_true] at h;rw[qI a b h.1.1,qI a' b' h.1.2,zX h.2]
def DV:Option Blk→Option Blk→Bool
 |none,none=>true
 |some (.cells a t o),some (.cells b u p)=>t==u&&o==p&&qE a b
 |some (.map a),some (.map b)=>A9 a b
 |_,_=>false
theorem DW {a b:Option Blk}(h:DV a b=true):a=b:=by
 unfold DV at h;split at h
 ·rfl
 ·simp only[Bool.and_eq_true,beq_iff_eq] at h;obtain⟨⟨rfl,rfl⟩,h⟩:=h;rw[mU _ _ h]
 ·rw[zX h]
 ·cases h
def E1 (r:Rec)(id:Nat):Bool:=(get r.fp id).isSome||(decide (r.n≤id)&&decide (id<r.n'))
def vo (r:Rec):List Nat:=if r.ro=true then [] else (r.fp.map (·.1)).filter fun id=>!DV (get r.fp' id) (get r.fp id)
def qU (r s:Rec):Bool:=
 (vo r).all (fun id=>!E1 s id)&&(vo s).all (fun id=>!E1 r id)&&r.fp.all (fun p=>!(decide (s.n≤p.1)&&decide (p.1<s.n')))&&s.fp.all (fun p=>!(decide (r.n≤p.1)&&decide (p.1<r.n'))) &&
 (!r.all||s.n'==s.n)&&(!s.all||r.n'==r.n)
def yj (ops:Array Oper):Bool:=ops.toList.zipIdx.all fun(o,j)=>o.after.toList.all fun e=>!Region.binds .any e||decide (e.on<j)
def oJ (ops:Array Oper):List (Nat×Nat):=
 (List.range ops.size).flatMap fun j=>((List.range j).filter fun i=>!yV ops j i).map fun i=>(i,j)
def nL (ops:Array Oper):Bool:=(oJ ops).all fun(i,j)=>match ops[i]?,ops[j]? with
 |some oi,some oj=>oi.apart ops oj
 |_,_=>true
theorem xm {r:Rec}{id:Nat}:E1 r id=true↔tou r id:=by unfold E1 tou;simp
theorem gC {h:Heap}{i:Nat}{b:Blk}(hg:get h i=some b):∃p∈h,p.1=i:=by
 induction h with
 |nil=>simp[get] at hg
 |cons x r ih=>
  obtain⟨k,c⟩:=x;simp only[get] at hg;by_cases e:k=i
  ·exact⟨(k,c),by simp,e⟩
  ·rw[if_neg e] at hg;obtain⟨p,h1,h2⟩:=ih hg;exact⟨p,by simp[h1],h2⟩
theorem lc {ops:Array Oper}{K:List Val→Heap→Nat→Prop}:∀{l:List Oper}{rs:List Rec}{a:List Val}{h:Heap}{N:Nat},um P Γ ops K l rs a h N→rs.length=l.length
 |[],[],_,_,_,_=>rfl
 |[],_::_,_,_,_,h=>h.elim
 |_::_,[],_,_,_,h=>h.elim
 |o::os,r::rs,a,h,N,hd=>by simp[lc hd.2.2]
theorem wH (a:List Val)(d:Option Tmp)(v:Val):(eJ a d v).length=a.length:=by cases d<;>simp[eJ]
theorem ow {ops:Array Oper}{rf:Nat→Rec}{a0:List Val}{h0:Heap}{K:List Val→Heap→Nat→Prop}:∀{l done:List Oper}{rs:List Rec}{a:List Val}{h:Heap}{N:Nat},ops.toList=done++l→(∀k,k<l.length→rs[k]?=some (rf (done.length+k)))→
  um P Γ ops K l rs a h N→a.length=a0.length→(∀t,a[t]?=fh (wrA ops rf a0.length) (fun t=>a0[t]?) (fun _=>true) done.length t)→(∀i,get h i=fh (wrH rf) (get h0) (fun _=>true) done.length i)→
  (∃an hn N',an.length=a0.length∧(∀t,an[t]?=fh (wrA ops rf a0.length) (fun t=>a0[t]?) (fun _=>true) ops.size t)∧(∀i,get hn i=fh (wrH rf) (get h0) (fun _=>true) ops.size i)∧K an hn N'∧N≤N'∧(∀k,done.length≤k→k<ops.size→N≤(rf k).n∧(rf k).n≤(rf k).n'∧(rf k).n'≤N'))∧
  (∀k o,done.length≤k→ops[k]?=some o→∃a,(∀t,t∈o.looksAt ops→a[t]?=fh (wrA ops rf a0.length) (fun t=>a0[t]?) (fun _=>true) k t)∧
   ((aO ops o a=true∧lS P Γ o a (rf k)∧∀id b,get (rf k).fp id=some b→fh (wrH rf) (get h0) (fun _=>true) k id=some b)∨(aO ops o a=false∧zT (rf k))))∧
  (∀i k,done.length≤i→i<k→k<ops.size→(rf i).n'≤(rf k).n)
 |[],done,rs,a,h,N,hl,hr,hd,ha1,ha2,hh=>by
  have hs:ops.size=done.length:=(by rw[←Array.length_toList,hl];simp);cases rs with
  |cons r rs=>exact hd.elim
  |nil=>refine⟨⟨a,h,N,ha1,by rw[hs];exact ha2,by rw[hs];exact hh,hd,Nat.le_refl _,fun k h1 h2=>by omega⟩,fun k o h1 h2=>?_,fun i k h1 h2 h3=>by omega⟩;have:=mf h2;omega
 |o::l,done,rs,a,h,N,hl,hr,hd,ha1,ha2,hh=>by
  have hs:ops.size=done.length+(l.length+1):=(by rw[←Array.length_toList,hl];simp);have ho:ops[done.length]?=some o:=(by rw[←Array.getElem?_toList,hl];simp);cases rs with
  |nil=>exact hd.elim
  |cons r rs=>
   obtain⟨hn,hdo,hrest⟩:=hd;have hr0:r=rf done.length:=(by have:=hr 0 (by simp);simpa using this);have hrn:r.n≤r.n':=by
    rcases hdo with ⟨_,h1,_⟩|⟨_,h1⟩
    ·exact h1.1
    ·rw[h1.2.1];exact Nat.le_refl _
   have hl':ops.toList=(done++[o])++l:=(by simp[hl]);have hlen:(done++[o]).length=done.length+1:=(by simp);have A:∀t,(eJ a o.dst r.v)[t]?=fh (wrA ops rf a0.length) (fun t=>a0[t]?) (fun _=>true) (done++[o]).length t:=by
    intro t;rw[hlen];simp only[fh,if_true];rw[←ha2 t];unfold wrA;simp only[ho,←hr0];cases hdst:o.dst with
    |none=>simp[eJ]
    |some d=>
     simp only[eJ,Option.some.injEq,List.getElem?_set,ha1];by_cases e:d=t
     ·subst e;simp only[if_true];split<;>rfl
     ·simp[e]
   have H:∀i,get (eZ h r) i=fh (wrH rf) (get h0) (fun _=>true) (done++[o]).length i:=by
    intro i;rw[hlen];simp only[fh,if_true];rw[←hh i];unfold wrH;rw[←hr0];have hk3:∀id,(get r.fp' id).isSome=true→tou r id:=by
     rcases hdo with ⟨_,h1,_⟩|⟨_,h1⟩
     ·exact h1.2.2.1
     ·intro id hid;rw[h1.2.2.2.2.2] at hid;simp[get] at hid
    have hsb:∀id b,get r.fp id=some b→get h id=some b:=by
     rcases hdo with ⟨_,_,h1⟩|⟨_,h1⟩
     ·exact h1
     ·intro id b hid;rw[h1.2.2.2.2.1] at hid;simp[get] at hid
    haveI:Decidable (wri r i):=Classical.propDecidable _
    rw[uA hk3 hsb];by_cases hw:wri r i
    ·rw[if_pos hw,if_pos hw]
    ·rw[if_neg hw,if_neg hw]
   obtain⟨⟨an,hn',N',g1,g2,g3,g4,g5,g6⟩,g7,g8⟩:=ow (done:=done++[o]) hl' (fun k hk=>by
    have:=hr (k+1) (by simp;omega);rw[hlen]
    simpa[Nat.add_assoc,Nat.add_comm 1 k] using this) hrest (by rw[wH];exact ha1) A H
   refine⟨⟨an,hn',N',g1,g2,g3,g4,by omega,fun k h1 h2=>?_⟩,fun k o' h1 h2=>?_,fun i k h1 h2 h3=>?_⟩
   ·by_cases e:k=done.length
    ·subst e;rw[←hr0];exact⟨by omega,hrn,by omega⟩
    ·have:=g6 k (by omega) h2;omega
   ·by_cases e:k=done.length
    ·subst e;rw[ho] at h2;cases h2;refine⟨a,fun t _=>ha2 t,?_⟩;rw[←hr0];rcases hdo with ⟨q1,q2,q3⟩|⟨q1,q2⟩
     ·exact .inl ⟨q1,q2,fun id b hb=>by rw[←hh id];exact q3 id b hb⟩
     ·exact .inr ⟨q1,q2⟩
    ·exact g7 k o' (by omega) h2
   ·by_cases e:i=done.length
    ·subst e;rw[←hr0];have:=g6 k (by omega) h3;omega
    ·exact g8 i k (by omega) h2 h3
theorem DS {id:Nat}{ops:Array Oper}(rs:List Rec){a:List Val}{h:Heap}{N:Nat}{Q:Post}(hm:P.follows .mixedOrders=true)(hlow:yj ops=true)(hap:nL ops=true)
  (hrun:um P Γ ops (fun a h N=>Q .normal a h N) ops.toList rs a h N) (hfree:∀p∈oJ ops,qU (rs.getD p.1 ⟨uv,0,0,false,true,[],[]⟩) (rs.getD p.2 ⟨uv,0,0,false,true,[],[]⟩)=true):W P Γ (.region id ops true) a h N Q:=by
 have hlen:=lc hrun
 let rf:Nat→Rec:=fun k=>rs.getD k ⟨uv,0,0,false,true,[],[]⟩
 have hrf:∀k,k<ops.toList.length→rs[k]?=some (rf (([]:List Oper).length+k)):=by intro k hk;simp only[List.length_nil,Nat.zero_add,rf];rw[List.getD_eq_getElem?_getD,List.getElem?_eq_getElem (by omega)];rfl
 obtain⟨⟨an,hn,N',g1,g2,g3,g4,g5,g6⟩,g7,g8⟩:=ow (rf:=rf) (a0:=a) (h0:=h) (done:=[]) (by simp) hrf hrun rfl (fun _=>rfl) (fun _=>rfl);refine BM (rs:=rf) hm ⟨?_,g5,fun k hk=>?_,fun k o hk=>g7 k o (Nat.zero_le _) hk,?_⟩ g1 g2 g3 g4
 ·intro j o e ho he hb;unfold yj at hlow;rw[List.all_eq_true] at hlow;have:=hlow (o,j) (by rw[List.mem_zipIdx_iff_getElem?];simpa using ho);simp only[List.all_eq_true] at this;have:=this e (by simpa using he)
  simpa[hb] using this
 ·obtain⟨q1,q2,q3⟩:=g6 k (Nat.zero_le _) hk;exact⟨q1,q2,q3,fun i hi=>g8 i k (Nat.zero_le _) hi hk⟩
 ·intro i j oi oj hij hoi hoj hdb;have hjn:=mf hoj;have hmem:(i,j)∈oJ ops:=(by unfold oJ;rw[List.mem_flatMap];refine⟨j,by simpa using hjn,?_⟩;rw[List.mem_map];exact⟨i,by rw[List.mem_filter];exact⟨by simpa using hij,by simp[hdb]⟩,rfl⟩);have h1:oi.apart ops oj=true:=by
   unfold nL at hap;rw[List.all_eq_true] at hap;have:=hap (i,j) hmem
   simpa[hoi,hoj] using this
  have h2:=hfree (i,j) hmem;simp only[qU,Bool.and_eq_true,Bool.or_eq_true,Bool.not_eq_true',beq_iff_eq,List.all_eq_true] at h2;obtain⟨⟨⟨⟨⟨k1,k2⟩,k3⟩,k4⟩,h4⟩,h5⟩:=h2;have hnn:=g8 i j (Nat.zero_le _) hij hjn;have wt:∀r:Rec,∀x,wri r x→x∈vo r∨(r.n≤x∧x<r.n'):=by
   rintro r x ⟨w1,w2,w3⟩;rcases w3 with w3|w3
   ·exact .inr w3
   ·rcases w2 with w2|w2
    ·left;unfold vo;rw[if_neg (by rw[w1];simp),List.mem_filter];cases hg:get r.fp x with
     |none=>simp[hg] at w2
     |some b=>
      obtain⟨p,hp,rfl⟩:=gC hg;refine⟨List.mem_map.2 ⟨p,hp,rfl⟩,?_⟩;rw[Bool.not_eq_true'];cases hb:DV (get r.fp' p.1) (some b) with
      |false=>rfl
      |true=>have:=DW hb;exact(w3 (by rw[this,hg])).elim
    ·exact .inr w2
  refine⟨h1,⟨fun x wx ty=>?_,fun x wx tx=>?_⟩,fun ha=>?_,fun ha=>?_⟩
  ·rcases wt _ x wx with w1|w1
   ·have:=k1 x w1;rw[xm.2 ty] at this;cases this
   ·rcases ty with ty|ty
    ·cases hg:get (rf j).fp x with
     |none=>simp[hg] at ty
     |some b=>
      obtain⟨p,hp,rfl⟩:=gC hg;have:=k4 p hp;rw[Bool.and_eq_false_iff,decide_eq_false_iff_not,decide_eq_false_iff_not] at this;rcases this with this|this
      ·exact this w1.1
      ·exact this w1.2
    ·omega
  ·rcases wt _ x wx with w1|w1
   ·have:=k2 x w1;rw[xm.2 tx] at this;cases this
   ·rcases tx with tx|tx
    ·cases hg:get (rf i).fp x with
     |none=>simp[hg] at tx
     |some b=>
      obtain⟨p,hp,rfl⟩:=gC hg;have:=k3 p hp;rw[Bool.and_eq_false_iff,decide_eq_false_iff_not,decide_eq_false_iff_not] at this;rcases this with this|this
      ·exact this w1.1
      ·exact this w1.2
    ·omega
  ·rcases h4 with h4|h4
   ·rw[show(rs.getD (i,j).1 ⟨uv,0,0,false,true,[],[]⟩)=rf i from rfl,ha] at h4;cases h4
   ·exact h4
  ·rcases h5 with h5|h5
   ·rw[show(rs.getD (i,j).2 ⟨uv,0,0,false,true,[],[]⟩)=rf j from rfl,ha] at h5;cases h5
   ·exact h5
end
structure Ctx where
 P:Program
 Γ:Glo P
 S:FuncId→List Val→Option Val
 I:FuncId→List Val→Heap→Nat→Option (Val×Heap×Nat)
 T:FuncId→Option Val
 pureF:FuncId→Bool
inductive Task where
 |pure (f:FuncId) (vs:List Val)
 |imp (f:FuncId) (vs:List Val) (h:Heap) (N:Nat)
 |code (c:Code) (a:List Val) (h:Heap) (N:Nat)
 |ops (ops:Array Oper) (os:List Oper) (a:List Val) (h:Heap) (N:Nat)
 |draw (ops:Array Oper) (os:List Oper) (a:List Val) (h:Heap) (N:Nat)
structure Out where
 e:Exit
 v:Val
 a:List Val
 h:Heap
 N:Nat
 rs:List Rec
def Exit.goes:Exit→Bool
 |.normal|.ret=>true
 |_=>false
mutual
def yg:Val→List Nat
 |.pr id _|.so id _ _ _|.mp id=>[id]
 |.pp cs|.sl cs _ _|.ag cs|.tp cs=>nO cs
 |.fn _ az cs=>nO az++nO cs
 |.ifc _ v=>yg v
 |_=>[]
def nO:List Val→List Nat
 |[]=>[]
 |v::vs=>yg v++nO vs
end
def Jz:Blk→List Nat
 |.cells cs _ _=>nO cs
 |.map es=>es.flatMap fun p=>yg p.1++yg p.2
def jI (h:Heap):Nat→List Nat→List Nat→List Nat
 |0,_,done=>done
 |_+1,[],done=>done
 |n+1,i::todo,done=>if done.contains i then jI h n todo done else
  match get h i with
  |some b=>jI h n (Jz b++todo) (i::done)
  |none=>jI h n todo done
def er (h:Heap)(ids:List Nat):Heap:=h.filter fun p=>ids.contains p.1
def rH {P:Program}(Γ:Glo P)(o:Oper)(a:List Val):List Nat:=
 match o.op with
 |.load ..|.store ..|.lookup ..|.mapUpdate ..|.slice ..=>o.op.operands.toList.flatMap fun x=>match ev Γ a x with
  |some (.pr id _)|some (.so id _ _ _)|some (.mp id)=>[id]
  |_=>[]
 |.call ⟨.builtin _,args,_⟩=>args.toList.flatMap fun x=>match ev Γ a x with
  |some (.pr id _)|some (.so id _ _ _)|some (.mp id)=>[id]
  |_=>[]
 |_=>[]
def nP (h2 hs:Heap)(N N':Nat):Bool:=h2.all fun p=>(get hs p.1).isSome||(decide (N≤p.1)&&decide (p.1<N'))
def Fo (v:Val):Out:=⟨.normal,v,[],[],0,[]⟩
def mY (C:Ctx)(a:List Val)(o:Oper):Option (FuncId×List Val):=
 match callee C.Γ a o with
 |some (f,vs)=>if bS C.P f=true then some (f,vs) else none
 |none=>none
theorem nc {C:Ctx}{a:List Val}{o:Oper}{f:FuncId}{vs:List Val}(h:mY C a o=some (f,vs)):callee C.Γ a o=some (f,vs)∧bS C.P f=true:=by
 unfold mY at h;split at h
 ·rename_i g us hc;split at h
  ·rename_i hp;cases h;exact⟨hc,hp⟩
  ·cases h
 ·cases h
def nl (C:Ctx)(sub:Task→Option Out)(ops:Array Oper)(o:Oper)(a:List Val)(h:Heap)(N:Nat):Option Rec:=
 if aO ops o a=true then
  match mY C a o with
  |some (f,vs)=>
    if C.pureF f=true then
     if aE vs=true then (sub (.pure f vs)).map fun r=>⟨r.v,N,N,false,true,[],[]⟩
     else match vwL C.P (er h (jI h 1000 (nO vs) [])) 1000 vs with
      |some us=>match sub (.pure f us) with
       |some r=>if r.v.flat=true then some ⟨r.v,N,N,false,true,er h (jI h 1000 (nO vs) []),er h (jI h 1000 (nO vs) [])⟩ else none
       |none=>none
      |none=>none
    else match sub (.imp f vs (er h (jI h 1000 (nO vs) [])) N) with
     |some r=>if nP r.h (er h (jI h 1000 (nO vs) [])) N r.N=true then some ⟨r.v,N,r.N,!(aV N vs&&bW N (er h (jI h 1000 (nO vs) []))),false,er h (jI h 1000 (nO vs) []),r.h⟩ else none
     |none=>none
  |none=>
   match bU C.P C.Γ o a (er h (rH C.Γ o a)) N with
   |some (v,h')=>if lF o.op=true then some ⟨v,N,N,false,true,er h (rH C.Γ o a),er h (rH C.Γ o a)⟩
    else if nP h' (er h (rH C.Γ o a)) N (N+1)=true then some ⟨v,N,N+1,false,false,er h (rH C.Γ o a),h'⟩ else none
   |none=>none
 else some ⟨uv,N,N,false,true,[],[]⟩
section
variable {C:Ctx}
def F6 (o:Out):Post:=fun e a' h' N'=>e=o.e∧a'=o.a∧h'=o.h∧N'=o.N
def Good (C:Ctx):Task→Out→Prop
 |.pure f vs,o=>PureOk C.P C.Γ f vs o.v
 |.imp f vs h N,o=>CallOk C.P C.Γ f vs h N true o.v o.h o.N
 |.code (.loop x) a h N,o=>N≤o.N∧∃k,WR C.P C.Γ x (F6 o) k a h N
 |.code c a h N,o=>N≤o.N∧W C.P C.Γ c a h N (F6 o)
 |.ops ops os a h N,o=>o.e=.normal∧N≤o.N∧∀K:List Val→Heap→Nat→Prop,K o.a o.h o.N→bM C.P C.Γ ops K os a h N
 |.draw ops os a h N,o=>o.e=.normal∧N≤o.N∧∀K:List Val→Heap→Nat→Prop,K o.a o.h o.N→um C.P C.Γ ops K os o.rs a h N
theorem Good.w {c:Code}{a:List Val}{h:Heap}{N:Nat}{o:Out}(hg:Good C (.code c a h N) o):N≤o.N∧W C.P C.Γ c a h N (F6 o):=by
 cases c with
 |loop x=>obtain⟨h1,k,h2⟩:=hg;exact⟨h1,BN k h2⟩
 |_=>exact hg
theorem j7 {h:Heap}{ids:List Nat}{i:Nat}{b:Blk}(hg:get (er h ids) i=some b):get h i=some b:=by
 unfold er at hg;rw[iM h (fun k=>ids.contains k)] at hg;split at hg
 ·exact hg
 ·cases hg
theorem kv {h2 hs:Heap}{N N':Nat}(hk:nP h2 hs N N'=true)(id:Nat)(hg:(get h2 id).isSome=true):(get hs id).isSome=true∨(N≤id∧id<N'):=by
 cases h:get h2 id with
 |none=>simp[h] at hg
 |some b=>
  obtain⟨p,hp,rfl⟩:=gC h;unfold nP at hk;rw[List.all_eq_true] at hk;have:=hk p hp
  simpa using this
theorem xA {e:Exit}(h:Exit.goes e=true):e=.normal∨e=.ret:=by cases e<;>simp[Exit.goes] at h<;>simp
theorem sn {sub:Task→Option Out}(hsub:∀t o,sub t=some o→Good C t o){ops:Array Oper}{o:Oper}{a:List Val}{h:Heap}{N:Nat}{r:Rec}(hd:nl C sub ops o a h N=some r) :
  r.n=N∧N≤r.n'∧((aO ops o a=true∧lS C.P C.Γ o a r∧∀id b,get r.fp id=some b→get h id=some b)∨(aO ops o a=false∧zT r)):=by
 unfold nl at hd;split at hd
 ·rename_i hw;split at hd
  ·rename_i f vs hcp;obtain⟨hc,hp⟩:=nc hcp;split at hd
   ·split at hd
    ·rename_i hcl;obtain⟨q,h1,rfl⟩:=map_some hd;exact⟨rfl,Nat.le_refl _,.inl ⟨hw,r7 hc hp hcl (hsub _ _ h1),fun id b hb=>by simp[get] at hb⟩⟩
    ·split at hd
     ·rename_i us hv;split at hd
      ·rename_i q h1;split at hd
       ·rename_i hf;cases hd;exact⟨rfl,Nat.le_refl _,.inl ⟨hw,oM hc hp hv (hsub _ _ h1) hf,fun id b hb=>j7 hb⟩⟩
       ·cases hd
      ·cases hd
     ·cases hd
   ·split at hd
    ·rename_i q h1;split at hd
     ·rename_i hk;cases hd;have:=hsub _ _ h1;cases hl:(aV N vs&&bW N (er h (jI h 1000 (nO vs) []))) with
      |true=>exact⟨rfl,this.1,.inl ⟨hw,nS hc hp (this.low hl) (kv hk),fun id b hb=>j7 hb⟩⟩
      |false=>exact⟨rfl,this.1,.inl ⟨hw,nS hc hp this (kv hk),fun id b hb=>j7 hb⟩⟩
     ·cases hd
    ·cases hd
  ·split at hd
   ·rename_i v h' he;split at hd
    ·rename_i hro;cases hd;exact⟨rfl,Nat.le_refl _,.inl ⟨hw,r8 hro he,fun id b hb=>j7 hb⟩⟩
    ·split at hd
     ·rename_i hk;cases hd;exact⟨rfl,Nat.le_succ _,.inl ⟨hw,lA he (fun id hid=>(kv hk id hid).imp (fun h=>h) (fun h=>by omega)),fun id b hb=>j7 hb⟩⟩
     ·cases hd
   ·cases hd
 ·rename_i hw;cases hd;exact⟨rfl,Nat.le_refl _,.inr ⟨by simpa using hw,rfl,rfl,rfl,rfl,rfl,rfl⟩⟩
end
end Go.V
namespace Go.V
open Go Go.Proofs
theorem ac (x:Int)(h1:-9223372036854775808≤x)(h2:x<9223372036854775808):IntKind.i64.wrap x=x:=by
 have:IntKind.i64.wrap x=if x % 18446744073709551616≥9223372036854775808 then x % 18446744073709551616-18446744073709551616 else x % 18446744073709551616:=by simp[IntKind.wrap,IntKind.bits,IntKind.signed]
 rw[this];split<;>omega
def lk (a:List Val)(t:Nat):Option Val:=a[t]?
@[simp] theorem Gk (ops:Array Oper)(d:Option Tmp)(op:Op)(t:TypeId)(p:String)(af:Array Edge)(a:List Val):aO ops ⟨d,op,t,p,af,none⟩ a=true:=rfl
theorem da {ops:Array Oper}{o:Oper}{a:List Val}(h:o.guard=none):aO ops o a=true:=by unfold aO;rw[h]
section
variable {P:Program} {Γ:Glo P}
theorem eR {ops:Array Oper}{K:List Val→Heap→Nat→Prop}{o:Oper}{os:List Oper}{a:List Val}{h h':Heap}{N:Nat}{v:Val}{r:Option (Val×Heap)}(hk:bM P Γ ops K os (eJ a o.dst v) h' (N+1))
  (hg:aO ops o a=true:=by first|exact da (by with_reducible rfl)|(simp[*]<;>fail)) (he:bU P Γ o a h N=r:=by (simp[*];with_reducible rfl)) (hr:r=some (v,h'):=by with_reducible rfl):bM P Γ ops K (o::os) a h N:=by
 simp only[bM];rw[if_pos hg];exact .op (he.trans hr) hk
theorem aC {ops:Array Oper}{K:List Val→Heap→Nat→Prop}{o:Oper}{os:List Oper}{a:List Val}{h:Heap}{N:Nat}{f:FuncId}{vs:List Val}{r:Val}{q:Option (FuncId×List Val)}(hr:PureOk P Γ f vs r)
  (hk:bM P Γ ops K os (eJ a o.dst r) h N) (hg:aO ops o a=true:=by first|exact da (by with_reducible rfl)|(simp[*]<;>fail)) (hc:callee Γ a o=q:=by (simp[*];with_reducible rfl)) (hq:q=some (f,vs):=by with_reducible rfl) (hp:bS P f=true:=by kernel_rfl) (hcl:aE vs=true:=by simp[aE,Val.closed, *]):bM P Γ ops K (o::os) a h N:=by
 simp only[bM];rw[if_pos hg];exact .pure (hc.trans hq) hp hcl hr hk
theorem gK {ops:Array Oper}{K:List Val→Heap→Nat→Prop}{o:Oper}{os:List Oper}{a:List Val}{h:Heap}{N:Nat}(hk:bM P Γ ops K os (eJ a o.dst uv) h N)(hg:aO ops o a=false:=by (simp[*]<;>fail)):bM P Γ ops K (o::os) a h N:=by simp only[bM];rw[if_neg (by simp[hg])];exact hk
theorem db {ops:Array Oper}{K:List Val→Heap→Nat→Prop}{a:List Val}{h:Heap}{N:Nat}(hk:K a h N):bM P Γ ops K [] a h N:=hk
theorem I9 {c:Operand}{x y:Code}{p:Prop} [Decidable p]{a:List Val}{h:Heap}{N:Nat}{Q:Post}(hc:ev Γ a c=some (.bool (decide p)))(h1:p→W P Γ x a h N Q)(h2:¬p→W P Γ y a h N Q):W P Γ (.cond c x y) a h N Q:=by
 refine qc hc ?_;by_cases hp:p
 ·simpa[hp] using h1 hp
 ·simpa[hp] using h2 hp
theorem GQ {c:Operand}{x y:Code}{a:List Val}{h:Heap}{N:Nat}{Q:Post}(h1:W P Γ x a h N Q)(hc:ev Γ a c=some (.bool true):=by (simp[*]<;>fail)):W P Γ (.cond c x y) a h N Q:=qc hc h1
theorem GP {c:Operand}{x y:Code}{a:List Val}{h:Heap}{N:Nat}{Q:Post}(h1:W P Γ y a h N Q)(hc:ev Γ a c=some (.bool false):=by (simp[*]<;>fail)):W P Γ (.cond c x y) a h N Q:=qc hc h1
theorem lK {c:Code}{a:List Val}{h h':Heap}{N:Nat}{Q:Post}(hs:∀i b,get h' i=some b→get h i=some b)(hw:W P Γ c a h' N Q):W P Γ c a h N Q:=
 fun F ρ w0 O w act hG m hf ha hd=>hw F ρ w0 O w act hG (m.sub hs) hf ha hd
theorem DA {c:Code}{Q:Post}(I:Nat→List Val→Heap→Nat→Prop)(hI:∀k a h N,I k a h N→W P Γ c a h N (eH (fun a h N=>∃j,k=j+1∧I j a h N) Q)){k:Nat}{a:List Val}{h:Heap}{N:Nat}(h0:I k a h N):W P Γ (.loop c) a h N Q:=by
 have key:∀k a h N,I k a h N→WR P Γ c Q (k+1) a h N:=by
  intro k;induction k with
  |zero=>
   intro a h N h0;refine(hI 0 a h N h0).mono ?_;intro e a' h' N' hq;cases e with
   |normal=>obtain⟨j,hj,_⟩:=hq;exact absurd hj (by omega)
   |exit id=>exact hq
   |goto l=>exact hq
   |ret=>exact hq
   |panic ch=>exact hq
   |outgrown=>exact hq
  |succ k ih=>
   intro a h N h0;refine(hI (k+1) a h N h0).mono ?_;intro e a' h' N' hq;cases e with
   |normal=>obtain⟨j,hj,hi⟩:=hq;have:j=k:=(by omega);subst this;exact ih a' h' N' hi
   |exit id=>exact hq
   |goto l=>exact hq
   |ret=>exact hq
   |panic ch=>exact hq
   |outgrown=>exact hq
 exact BN _ (key k a h N h0)
theorem iA {f:FuncId}{fn:Func}{c:Code}{vs:List Val}{r:Val}(hf:P.funcs[f]?=some fn)(hb:fn.body=some c)(hn:vs.length≤fn.ntmps)
  (hw:∀a:List Val,a.length=fn.ntmps→(∀(i:Nat) (v:Val),vs[i]?=some v→lk a i=some v)→W P Γ c a [] 0 (fun e a h' _=>(e=.normal∨e=.ret)∧∃r0 n,jC P fn a h'=some r0∧vw P h' n r0=some r)):PureOk P Γ f vs r:=by
 refine pn hf hb (hw _ (by simp;omega) ?_);intro i v hi;unfold lk;rw[List.getElem?_append_left (by
  rcases Nat.lt_or_ge i vs.length with h|h
  ·exact h
  ·rw[List.getElem?_eq_none h] at hi;cases hi),hi]
end
@[simp] theorem cX (a:List Val)(d:Nat)(v:Val):eJ a (some d) v=a.set d v:=rfl
@[simp] theorem cV (a:List Val)(v:Val):eJ a none v=a:=rfl
@[simp] theorem Jy {P:Program}(Γ:Glo P)(a:List Val)(t:Nat):ev Γ a (.tmp t)=lk a t:=rfl
@[simp] theorem Hp {P:Program}(Γ:Glo P)(a:List Val)(v:Value):ev Γ a (.const v)=ofV v:=rfl
@[simp] theorem JQ {P:Program}(Γ:Glo P)(a:List Val)(f:FuncId):ev Γ a (.func f)=some (.fn f [] []):=rfl
@[simp] theorem xI (a:List Val)(t:Nat)(v:Val)(h:t<a.length):lk (a.set t v) t=some v:=by simp[lk,h]
@[simp] theorem CC (a:List Val)(i t:Nat)(v:Val)(h:i≠t):lk (a.set i v) t=lk a t:=by simp[lk,List.getElem?_set_ne h]
@[simp] theorem IP (P:Program)(a:List Val)(h:Heap):qF P a h []=some []:=rfl
@[simp] theorem IQ (P:Program)(a:List Val)(h:Heap)(t:Nat)(rs:List ResultVar):qF P a h (.tmp t::rs)=match lk a t,qF P a h rs with
  |some v,some vs=>some (v::vs)
  |_,_=>none:=rfl
@[simp] theorem Gh (P:Program)(a:List Val)(h:Heap)(t:Nat)(ty:TypeId)(rs:List ResultVar):qF P a h (.cell t ty::rs)=match lk a t,qF P a h rs with
  |some p,some vs=>(px P ty h p).map (· :: vs)
  |_,_=>none:=rfl
def yl (ops:Array Oper)(a:List Val)(j:Nat):Option Bool:=aU ops a j
@[simp] theorem Lu (ops:Array Oper)(a:List Val)(j:Nat):yl ops a j=match (ops[j]?).bind (·.dst) with
  |some d=>match lk a d with
   |some (.bool b)=>some b
   |some (.jk (.bool b))=>some b
   |_=>none
  |none=>none:=by
 unfold yl aU;cases ops[j]? with
 |none=>rfl
 |some o=>simp only[Option.bind_some];cases o.dst<;>rfl
@[simp] theorem FK (ops:Array Oper)(d:Option Tmp)(op:Op)(t:TypeId)(p:String)(af:Array Edge)(j:Nat)(b:Bool)(a:List Val):aO ops ⟨d,op,t,p,af,some (j,b)⟩ a=(yl ops a j==some b):=rfl
attribute [simp] pO ee xR xw sP ER xt vR
attribute [simp] xp uv bU evL evP evO BG iZ px sZ sH jm V.get V.put sO sT Cr Cn Do vun ofV C4 oV xu qR aY eH ct callee jC xQ
theorem KR3 {p:Prop}(s:p:=by kernel_rfl):p:=s
@[simp] theorem ag3:cC Tryz.prog 3=some false:=KR3
@[simp] theorem sz3:bz Tryz.prog 3=some 1:=KR3
@[simp] theorem LC:Tryz.prog.info? 3=some Tryz.t3:=KR3
@[simp] theorem NB:Tryz.t3.size=1:=KR3
@[simp] theorem Mz:Tryz.t3.bytes=8:=KR3
@[simp] theorem Jt:Tryz.prog.cellsOf 3=1:=KR3
@[simp] theorem zl3:gM Tryz.t3=some ([.int .i64 0]):=KR3
@[simp] theorem ag4:cC Tryz.prog 4=some false:=KR3
@[simp] theorem sz4:bz Tryz.prog 4=some 1:=KR3
@[simp] theorem ag9:cC Tryz.prog 9=some false:=KR3
@[simp] theorem sz9:bz Tryz.prog 9=some 1:=KR3
@[simp] theorem LD:Tryz.prog.info? 9=some Tryz.t9:=KR3
@[simp] theorem NC:Tryz.t9.size=1:=KR3
@[simp] theorem NA:Tryz.t9.bytes=16:=KR3
@[simp] theorem Ju:Tryz.prog.cellsOf 9=1:=KR3
@[simp] theorem zl9:gM Tryz.t9=some ([.str []]):=KR3
@[simp] theorem MN:cC Tryz.prog 22=some false:=KR3
@[simp] theorem Me:bz Tryz.prog 22=some 1:=KR3
@[simp] theorem MO:cC Tryz.prog 23=some false:=KR3
@[simp] theorem Mf:bz Tryz.prog 23=some 1:=KR3
@[simp] theorem MP:cC Tryz.prog 24=some false:=KR3
@[simp] theorem Mg:bz Tryz.prog 24=some 1:=KR3
@[simp] theorem MQ:cC Tryz.prog 26=some true:=KR3
@[simp] theorem Mh:bz Tryz.prog 26=some 6:=KR3
@[simp] theorem KA:Tryz.prog.info? 26=some Tryz.t26:=KR3
@[simp] theorem Lb:Tryz.t26.size=6:=KR3
@[simp] theorem L5:Tryz.t26.bytes=96:=KR3
@[simp] theorem JK:Tryz.prog.cellsOf 26=6:=KR3
@[simp] theorem NN:ei Tryz.prog 26=some (.ag [.int .i64 0,.int .i64 0,.int .i64 0,.nils,.nils,.nils]):=KR3
@[simp] theorem NH:gM Tryz.t26=some ([.int .i64 0,.int .i64 0,.int .i64 0,.nils,.nils,.nils]):=KR3
@[simp] theorem MR:cC Tryz.prog 27=some false:=KR3
@[simp] theorem Mi:bz Tryz.prog 27=some 1:=KR3
@[simp] theorem MS:cC Tryz.prog 28=some false:=KR3
@[simp] theorem Mj:bz Tryz.prog 28=some 1:=KR3
@[simp] theorem MT:cC Tryz.prog 30=some true:=KR3
@[simp] theorem Mk:bz Tryz.prog 30=some 5:=KR3
@[simp] theorem KB:Tryz.prog.info? 30=some Tryz.t30:=KR3
@[simp] theorem Lc:Tryz.t30.size=5:=KR3
@[simp] theorem L6:Tryz.t30.bytes=80:=KR3
@[simp] theorem JL:Tryz.prog.cellsOf 30=5:=KR3
@[simp] theorem NO:ei Tryz.prog 30=some (.ag [.int .i64 0,.int .i64 0,.str [],.nils,.nils]):=KR3
@[simp] theorem NI:gM Tryz.t30=some ([.int .i64 0,.int .i64 0,.str [],.nils,.nils]):=KR3
@[simp] theorem MU:cC Tryz.prog 35=some false:=KR3
@[simp] theorem Ml:bz Tryz.prog 35=some 1:=KR3
@[simp] theorem MV:cC Tryz.prog 38=some false:=KR3
@[simp] theorem Mm:bz Tryz.prog 38=some 1:=KR3
@[simp] theorem MW:cC Tryz.prog 40=some true:=KR3
@[simp] theorem Mn:bz Tryz.prog 40=some 6:=KR3
@[simp] theorem NP:ei Tryz.prog 40=some (.ag [.int .i64 0,.int .i64 0,.str [],.nils,.nils,.nils]):=KR3
@[simp] theorem MX:cC Tryz.prog 47=some false:=KR3
@[simp] theorem Mp:bz Tryz.prog 47=some 1:=KR3
@[simp] theorem MY:cC Tryz.prog 48=some false:=KR3
@[simp] theorem Mq:bz Tryz.prog 48=some 1:=KR3
@[simp] theorem MZ:cC Tryz.prog 50=some true:=KR3
@[simp] theorem Mr:bz Tryz.prog 50=some 2:=KR3
@[simp] theorem NQ:ei Tryz.prog 50=some (.ag [.nils,.nils]):=KR3
@[simp] theorem M0:cC Tryz.prog 55=some true:=KR3
@[simp] theorem Ms:bz Tryz.prog 55=some 7:=KR3
@[simp] theorem KC:Tryz.prog.info? 55=some Tryz.t55:=KR3
@[simp] theorem Ld:Tryz.t55.size=7:=KR3
@[simp] theorem L7:Tryz.t55.bytes=112:=KR3
@[simp] theorem JM:Tryz.prog.cellsOf 55=7:=KR3
@[simp] theorem NR:ei Tryz.prog 55=some (.ag [.str [],.int .i64 0,.int .i64 0,.int .i64 0,.nils,.nils,.nils]):=KR3
@[simp] theorem NJ:gM Tryz.t55=some ([.str [],.int .i64 0,.int .i64 0,.int .i64 0,.nils,.nils,.nils]):=KR3
@[simp] theorem M2:cC Tryz.prog 77=some true:=KR3
@[simp] theorem Mu:bz Tryz.prog 77=some 2:=KR3
@[simp] theorem KE:Tryz.prog.info? 77=some Tryz.t77:=KR3
@[simp] theorem Le:Tryz.t77.size=2:=KR3
@[simp] theorem L8:Tryz.t77.bytes=32:=KR3
@[simp] theorem JN:Tryz.prog.cellsOf 77=2:=KR3
@[simp] theorem NS:ei Tryz.prog 77=some (.ag [.nils,.int .i64 0]):=KR3
@[simp] theorem NK:gM Tryz.t77=some ([.nils,.int .i64 0]):=KR3
@[simp] theorem M3:cC Tryz.prog 80=some false:=KR3
@[simp] theorem Mv:bz Tryz.prog 80=some 1:=KR3
@[simp] theorem M4:cC Tryz.prog 82=some true:=KR3
@[simp] theorem Mw:bz Tryz.prog 82=some 8:=KR3
@[simp] theorem KF:Tryz.prog.info? 82=some Tryz.t82:=KR3
@[simp] theorem Lf:Tryz.t82.size=8:=KR3
@[simp] theorem L9:Tryz.t82.bytes=136:=KR3
@[simp] theorem JO:Tryz.prog.cellsOf 82=8:=KR3
@[simp] theorem NT:ei Tryz.prog 82=some (.ag [.int .i64 0,.nils,.nils,.int .i64 0,.int .i64 0,.str [],.nils,.nils]):=KR3
@[simp] theorem NL:gM Tryz.t82=some ([.int .i64 0,.nils,.nils,.int .i64 0,.int .i64 0,.str [],.nils,.nils]):=KR3
@[simp] theorem M5:cC Tryz.prog 92=some true:=KR3
@[simp] theorem Mx:bz Tryz.prog 92=some 2:=KR3
@[simp] theorem KG:Tryz.prog.info? 92=some Tryz.t92:=KR3
@[simp] theorem Lg:Tryz.t92.size=2:=KR3
@[simp] theorem La:Tryz.t92.bytes=16:=KR3
@[simp] theorem JP:Tryz.prog.cellsOf 92=2:=KR3
@[simp] theorem NU:ei Tryz.prog 92=some (.ag [.int .i64 0,.bool false]):=KR3
@[simp] theorem NM:gM Tryz.t92=some ([.int .i64 0,.bool false]):=KR3
@[simp] theorem M6:cC Tryz.prog 97=some false:=KR3
@[simp] theorem My:bz Tryz.prog 97=some 1:=KR3
@[simp] theorem NV:ei Tryz.prog 97=some (.nilm):=KR3
@[simp] theorem Kg:cC Tryz.prog 108=some true:=KR3
@[simp] theorem LI:bz Tryz.prog 108=some 3:=KR3
@[simp] theorem JR:Tryz.prog.info? 108=some Tryz.t108:=KR3
@[simp] theorem KT:Tryz.t108.size=3:=KR3
@[simp] theorem KN:Tryz.t108.bytes=40:=KR3
@[simp] theorem Hg:Tryz.prog.cellsOf 108=3:=KR3
@[simp] theorem MA:ei Tryz.prog 108=some (.ag [.int .i64 0,.int .i64 0,.nils]):=KR3
@[simp] theorem Lv:gM Tryz.t108=some ([.int .i64 0,.int .i64 0,.nils]):=KR3
@[simp] theorem Kh:cC Tryz.prog 112=some true:=KR3
@[simp] theorem LJ:bz Tryz.prog 112=some 8:=KR3
@[simp] theorem JS:Tryz.prog.info? 112=some Tryz.t112:=KR3
@[simp] theorem KU:Tryz.t112.size=8:=KR3
@[simp] theorem KO:Tryz.t112.bytes=120:=KR3
@[simp] theorem Hh:Tryz.prog.cellsOf 112=8:=KR3
@[simp] theorem MB:ei Tryz.prog 112=some (.ag [.str [],.bool false,.int .i64 0,.int .i64 0,.int .i64 0,.nils,.nils,.nils]):=KR3
@[simp] theorem Lw:gM Tryz.t112=some ([.str [],.bool false,.int .i64 0,.int .i64 0,.int .i64 0,.nils,.nils,.nils]):=KR3
@[simp] theorem Ki:cC Tryz.prog 120=some false:=KR3
@[simp] theorem LK:bz Tryz.prog 120=some 1:=KR3
@[simp] theorem Kj:cC Tryz.prog 122=some true:=KR3
@[simp] theorem LM:bz Tryz.prog 122=some 16:=KR3
@[simp] theorem JT:Tryz.prog.info? 122=some Tryz.t122:=KR3
@[simp] theorem KV:Tryz.t122.size=16:=KR3
@[simp] theorem KP:Tryz.t122.bytes=264:=KR3
@[simp] theorem Hi:Tryz.prog.cellsOf 122=16:=KR3
@[simp] theorem MC:ei Tryz.prog 122=some (.ag [.int .i64 0,.str [],.str [],.int .i64 0,.int .i64 0,.int .i64 0,.nils,.nils,.nils,.int .i64 0,.int .i64 0,.str [],.nils,.nils,.nils,.nils]):=KR3
@[simp] theorem Lx:gM Tryz.t122=some ([.int .i64 0,.str [],.str [],.int .i64 0,.int .i64 0,.int .i64 0,.nils,.nils,.nils,.int .i64 0,.int .i64 0,.str [],.nils,.nils,.nils,.nils]):=KR3
@[simp] theorem Kk:cC Tryz.prog 123=some false:=KR3
@[simp] theorem LN:bz Tryz.prog 123=some 1:=KR3
@[simp] theorem MD:ei Tryz.prog 123=some (.nilf):=KR3
@[simp] theorem Kl:cC Tryz.prog 125=some true:=KR3
@[simp] theorem LO:bz Tryz.prog 125=some 6:=KR3
@[simp] theorem ME:ei Tryz.prog 125=some (.ag [.int .i64 0,.int .i64 0,.int .i64 0,.nils,.nils,.nils]):=KR3
@[simp] theorem Km:cC Tryz.prog 138=some true:=KR3
@[simp] theorem LP:bz Tryz.prog 138=some 2:=KR3
@[simp] theorem MF:ei Tryz.prog 138=some (.ag [.nils,.nils]):=KR3
@[simp] theorem Kn:cC Tryz.prog 141=some false:=KR3
@[simp] theorem LQ:bz Tryz.prog 141=some 1:=KR3
@[simp] theorem MG:ei Tryz.prog 141=some (.nils):=KR3
@[simp] theorem Ko:cC Tryz.prog 144=some false:=KR3
@[simp] theorem LR:bz Tryz.prog 144=some 1:=KR3
@[simp] theorem Kp:cC Tryz.prog 149=some false:=KR3
@[simp] theorem LS:bz Tryz.prog 149=some 1:=KR3
@[simp] theorem MH:ei Tryz.prog 149=some (.nilf):=KR3
@[simp] theorem Kq:cC Tryz.prog 151=some false:=KR3
@[simp] theorem LU:bz Tryz.prog 151=some 1:=KR3
@[simp] theorem MI:ei Tryz.prog 151=some (.nilf):=KR3
@[simp] theorem Kr:cC Tryz.prog 153=some false:=KR3
@[simp] theorem LV:bz Tryz.prog 153=some 1:=KR3
@[simp] theorem MJ:ei Tryz.prog 153=some (.nilf):=KR3
@[simp] theorem Ks:cC Tryz.prog 213=some false:=KR3
@[simp] theorem LW:bz Tryz.prog 213=some 1:=KR3
@[simp] theorem Kt:cC Tryz.prog 243=some true:=KR3
@[simp] theorem LX:bz Tryz.prog 243=some 2:=KR3
@[simp] theorem JU:Tryz.prog.info? 243=some Tryz.t243:=KR3
@[simp] theorem KW:Tryz.t243.size=2:=KR3
@[simp] theorem KQ:Tryz.t243.bytes=16:=KR3
@[simp] theorem Hj:Tryz.prog.cellsOf 243=2:=KR3
@[simp] theorem MK:ei Tryz.prog 243=some (.ag [.int .i64 0,.int .i64 0]):=KR3
@[simp] theorem Ly:gM Tryz.t243=some ([.int .i64 0,.int .i64 0]):=KR3
@[simp] theorem Ku:cC Tryz.prog 255=some false:=KR3
@[simp] theorem LY:bz Tryz.prog 255=some 1:=KR3
@[simp] theorem ML:ei Tryz.prog 255=some (.nilf):=KR3
@[simp] theorem Kv:cC Tryz.prog 256=some false:=KR3
@[simp] theorem LZ:bz Tryz.prog 256=some 1:=KR3
@[simp] theorem MM:ei Tryz.prog 256=some (.nilf):=KR3
attribute [simp] Tryz.underlying1 Tryz.underlying3 Tryz.underlying4 Tryz.underlying5 Tryz.underlying9 Tryz.underlying18 Tryz.underlying19 Tryz.underlying20 Tryz.underlying22 Tryz.underlying23 Tryz.underlying24 Tryz.underlying25 Tryz.underlying26 Tryz.underlying27 Tryz.underlying28 Tryz.underlying29 Tryz.underlying30 Tryz.underlying34 Tryz.underlying35 Tryz.underlying38 Tryz.underlying39 Tryz.underlying40 Tryz.underlying47 Tryz.underlying48 Tryz.underlying49 Tryz.underlying50 Tryz.underlying54 Tryz.underlying55 Tryz.underlying57 Tryz.underlying66 Tryz.underlying76 Tryz.underlying77 Tryz.underlying79 Tryz.underlying80 Tryz.underlying81 Tryz.underlying82 Tryz.underlying84 Tryz.underlying91 Tryz.underlying92 Tryz.underlying97 Tryz.underlying107 Tryz.underlying108 Tryz.underlying111 Tryz.underlying112 Tryz.underlying113 Tryz.underlying116 Tryz.underlying120 Tryz.underlying121 Tryz.underlying122 Tryz.underlying123 Tryz.underlying124 Tryz.underlying125 Tryz.underlying133 Tryz.underlying134 Tryz.underlying135 Tryz.underlying137 Tryz.underlying138 Tryz.underlying141 Tryz.underlying144 Tryz.underlying149 Tryz.underlying151 Tryz.underlying153 Tryz.underlying156 Tryz.underlying160 Tryz.underlying161 Tryz.underlying162 Tryz.underlying163 Tryz.underlying164 Tryz.underlying169 Tryz.underlying170 Tryz.underlying171 Tryz.underlying172 Tryz.underlying173 Tryz.underlying176 Tryz.underlying180 Tryz.underlying183 Tryz.underlying184 Tryz.underlying185 Tryz.underlying186 Tryz.underlying188 Tryz.underlying189 Tryz.underlying196 Tryz.underlying202 Tryz.underlying203 Tryz.underlying205 Tryz.underlying213 Tryz.underlying218 Tryz.underlying219 Tryz.underlying220 Tryz.underlying222 Tryz.underlying226 Tryz.underlying227 Tryz.underlying228 Tryz.underlying229 Tryz.underlying230 Tryz.underlying231 Tryz.underlying232 Tryz.underlying243 Tryz.underlying250 Tryz.underlying251 Tryz.underlying255 Tryz.underlying256 Tryz.underlying259 Tryz.underlying280 Tryz.underlying286 Tryz.underlying291 Tryz.underlying305 Tryz.underlying310 Tryz.underlying320 Tryz.underlying327 Tryz.underlying331 Tryz.underlying354 Tryz.underlying358 Tryz.underlying371
end Go.V
namespace Go.V
abbrev Str:=List UInt8
inductive Doc where
 |mk (kind num:Int) (str:Str) (keys:List Str) (kids:List Doc)
namespace Doc
def kind:Doc→Int|.mk k _ _ _ _=>k
def num:Doc→Int|.mk _ n _ _ _=>n
def str:Doc→Str|.mk _ _ s _ _=>s
def keys:Doc→List Str|.mk _ _ _ ks _=>ks
def kids:Doc→List Doc|.mk _ _ _ _ ds=>ds
theorem ind {p:Doc→Prop}(h:∀d:Doc,(∀x∈d.kids,p x)→p d):∀d,p d:=by
 intro d;exact Doc.rec (motive_1:=p) (motive_2:=fun ds=>∀d∈ds,p d) (fun k n s ks ds ih=>h (.mk k n s ks ds) ih) (by simp) (fun d r h1 h2 x hx=>by
  rcases List.mem_cons.1 hx with rfl|hx
  ·exact h1
  ·exact h2 x hx) d
end Doc
mutual
inductive Ty where
 |mk (kind lo hi:Int) (names:List Str) (fields:List Fld) (of:List Ty)
inductive Fld where
 |mk (name:Str) (opt:Bool) (ty:Ty)
end
namespace Fld
def name:Fld→Str|.mk n _ _=>n
def opt:Fld→Bool|.mk _ o _=>o
def ty:Fld→Ty|.mk _ _ t=>t
end Fld
namespace Ty
def kind:Ty→Int|.mk k _ _ _ _ _=>k
def lo:Ty→Int|.mk _ l _ _ _ _=>l
def hi:Ty→Int|.mk _ _ h _ _ _=>h
def names:Ty→List Str|.mk _ _ _ ns _ _=>ns
def fields:Ty→List Fld|.mk _ _ _ _ fs _=>fs
def of:Ty→List Ty|.mk _ _ _ _ _ ts=>ts
theorem ind {p:Ty→Prop}(h:∀t:Ty,(∀f∈t.fields,p f.ty)→(∀x∈t.of,p x)→p t):∀t,p t:=by
 intro t;exact Ty.rec (motive_1:=p) (motive_2:=fun f=>p f.ty) (motive_3:=fun fs=>∀f∈fs,p f.ty) (motive_4:=fun ts=>∀t∈ts,p t)
  (fun k l hh ns fs ts ih1 ih2=>h (.mk k l hh ns fs ts) ih1 ih2) (fun n o t ih=>ih) (by simp) (fun f r h1 h2 x hx=>by
  rcases List.mem_cons.1 hx with rfl|hx
  ·exact h1
  ·exact h2 x hx) (by simp) (fun f r h1 h2 x hx=>by
  rcases List.mem_cons.1 hx with rfl|hx
  ·exact h1
  ·exact h2 x hx) t
end Ty
inductive Lns where
 |mk (kind:Int) (a b:Str) (ty:Ty) (doc:Doc) (swaps:List (Int×Int)) (subs:List Lns)
namespace Lns
def kind:Lns→Int|.mk k _ _ _ _ _ _=>k
def a:Lns→Str|.mk _ a _ _ _ _ _=>a
def b:Lns→Str|.mk _ _ b _ _ _ _=>b
def ty:Lns→Ty|.mk _ _ _ t _ _ _=>t
def doc:Lns→Doc|.mk _ _ _ _ d _ _=>d
def swaps:Lns→List (Int×Int)|.mk _ _ _ _ _ s _=>s
def subs:Lns→List Lns|.mk _ _ _ _ _ _ l=>l
theorem ind {p:Lns→Prop}(h:∀d:Lns,(∀x∈d.subs,p x)→p d):∀d,p d:=by
 intro d;exact Lns.rec (motive_1:=p) (motive_2:=fun ds=>∀d∈ds,p d) (fun k a b t dd s ds ih=>h (.mk k a b t dd s ds) ih) (by simp) (fun d r h1 h2 x hx=>by
  rcases List.mem_cons.1 hx with rfl|hx
  ·exact h1
  ·exact h2 x hx) d
end Lns
structure Res where
 edge:Int
 step:List Int
 at_:List Str
 doc:Doc
structure St where
 doc:Doc
 res:List Res
end Go.V
end
