/-
  A part of a proof: V20 V21 S1 S3 D0.
-/
import Derived.Test.YtkfjenbfbendhaaGreatDoorLk06
import Derived.Test.YtkfjenbfbendhaaGreatDoorProg
set_option linter.unusedSimpArgs false
set_option linter.unusedVariables false
section
namespace Go.V
open Go
section
variable {P:Program} {Γ:Glo P}
mutual
def aR (N:Nat):Val→Bool
 |.pr i _|.so i _ _ _|.mp i=>decide (i<N)
 |.pp cs|.sl cs _ _|.ag cs|.tp cs=>aa N cs
 |.fn _ az cs=>aa N az&&aa N cs
 |.ifc _ v=>aR N v
 |_=>true
def aa (N:Nat):List Val→Bool
 |[]=>true
 |v::vs=>aR N v&&aa N vs
end
def cz (N:Nat):Blk→Bool
 |.cells cs _ _=>aa N cs
 |.map es=>es.all fun e=>aR N e.1&&aR N e.2
def bc (N:Nat)(h:Heap):Bool:=h.all fun p=>decide (p.1<N)&&cz N p.2
def cut (ρ:Pl)(N:Nat):Pl:=fun i=>if i<N then ρ i else none
mutual
theorem Rel.cut {F:Fro}{ρ:Pl}{N:Nat}:∀(v:Val)(x:Value),aR N v=true→Rel F ρ v x→Rel F (cut ρ N) v x
 |.bool _,_,_,h|.int _ _,_,_,h|.str _,_,_,h|.nilp,_,_,h|.nils,_,_,h|.nilm,_,_,h|.nilf,_,_,h|.nili,_,_,h|.sle,_,_,h|.jk _,_,_,h=>by simpa[Rel] using h
 |.pp cs,x,hc,h=>by
  simp only[Rel,aR] at *
  obtain⟨b,o,c,h1,h2,h3⟩:=h
  exact⟨b,o,c,h1,h2,RelL.cut _ _ hc h3⟩
 |.pr id off,x,hc,h=>by
  simp only[Rel,aR,decide_eq_true_eq] at *
  obtain⟨L,h1,h2⟩:=h
  exact⟨L,by simp[V.cut,hc,h1],h2⟩
 |.so id off n cap,x,hc,h=>by
  simp only[Rel,aR,decide_eq_true_eq] at *
  obtain⟨L,k,h1,h2⟩:=h
  exact⟨L,k,by simp[V.cut,hc,h1],h2⟩
 |.mp id,x,hc,h=>by
  simp only[Rel,aR,decide_eq_true_eq] at *
  obtain⟨L,h1,h2⟩:=h
  exact⟨L,by simp[V.cut,hc,h1],h2⟩
 |.sl cs n cap,x,hc,h=>by
  simp only[Rel,aR] at *
  rcases h with h|⟨b,o,c,k,h1,h2,h3,h4,h5⟩
  ·
   exact .inl h
  ·
   exact .inr ⟨b,o,c,k,h1,h2,h3,h4,RelL.cut _ _ hc h5⟩
 |.fn f az cs,x,hc,h=>by
  simp only[Rel,aR,Bool.and_eq_true] at *
  obtain⟨us,vs,h1,h2,h3⟩:=h
  exact⟨us,vs,h1,RelL.cut _ _ hc.1 h2,RelL.cut _ _ hc.2 h3⟩
 |.ifc t v,x,hc,h=>by
  simp only[Rel,aR] at *
  obtain⟨y,h1,h2⟩:=h
  exact⟨y,h1,Rel.cut _ _ hc h2⟩
 |.ag cs,x,hc,h=>by
  simp only[Rel,aR] at *
  obtain⟨vs,h1,h2⟩:=h
  exact⟨vs,h1,RelL.cut _ _ hc h2⟩
 |.tp cs,x,hc,h=>by
  simp only[Rel,aR] at *
  obtain⟨vs,h1,h2⟩:=h
  exact⟨vs,h1,RelL.cut _ _ hc h2⟩
theorem RelL.cut {F:Fro}{ρ:Pl}{N:Nat}:∀(vs:List Val)(xs:List Value),aa N vs=true→RelL F ρ vs xs→RelL F (cut ρ N) vs xs
 |[],_,_,h=>by simpa[RelL] using h
 |v::vs,xs,hc,h=>by
  simp only[RelL,aa,Bool.and_eq_true] at *
  obtain⟨y,ys,h1,h2,h3⟩:=h
  exact⟨y,ys,h1,Rel.cut _ _ hc.1 h2,RelL.cut _ _ hc.2 h3⟩
end
theorem MapRel.cut {F:Fro}{ρ:Pl}{N:Nat}:∀{es:List (Val×Val)}{xs:List MapEntry},(es.all fun e=>aR N e.1&&aR N e.2)=true→MapRel F ρ es xs→MapRel F (cut ρ N) es xs
 |[],_,_,h=>h
 |(k,v)::es,xs,hc,h=>by
  simp only[List.all_cons,Bool.and_eq_true] at hc
  obtain⟨y,ys,h1,h2,h3,h4,h5⟩:=h
  exact⟨y,ys,h1,Rel.cut _ _ hc.1.1 h2,h3,Rel.cut _ _ hc.1.2 h4,MapRel.cut (by simpa using hc.2) h5⟩
theorem tl {N:Nat}:∀{h:Heap},bc N h=true→∀{i:Nat}{b:Blk},get h i=some b→i<N∧cz N b=true
 |[],_,i,b,hg=>by simp[get] at hg
 |(k,c)::r,hl,i,b,hg=>by
  simp only[bc,List.all_cons,Bool.and_eq_true,decide_eq_true_eq] at hl
  simp only[get] at hg
  split at hg
  ·
   rename_i e
   cases hg
   exact⟨e ▸ hl.1.1,hl.1.2⟩
  ·
   exact tl (h:=r) (by unfold bc;simpa using hl.2) hg
theorem Mem.cut {F:Fro}{ρ:Pl}{h:Heap}{w0 w:World}{O:Nat→Prop}{N:Nat}(m:Mem P F ρ h w0 O w)(hl:bc N h=true):Mem P F (V.cut ρ N) h w0 O w:=by
 have hi:∀i L,V.cut ρ N i=some L→ρ i=some L:=by
  intro i L hc
  unfold V.cut at hc
  split at hc
  ·
   exact hc
  ·
   cases hc
 refine⟨m.fro,fun i blk hg=>?_,fun i j Li Lj h1 h2 h3 h4 h5=>m.inj i j Li Lj h1 h2 (hi _ _ h3) (hi _ _ h4) h5,fun i L h1 h2=>m.ours i L h1 (hi _ _ h2),m.fr⟩
 obtain⟨L,x,h1,h2,h3,h4⟩:=m.own i blk hg
 obtain⟨q1,q2⟩:=tl hl hg
 refine⟨L,x,by simp[V.cut,q1,h1],h2,h3,?_⟩
 cases blk with
 |cells cs t o=>
  obtain⟨c,g1,g2,g3,g4,g5⟩:=h4
  exact⟨c,g1,g2,g3,RelL.cut _ _ q2 g4,g5⟩
 |map es=>
  obtain⟨ents,clock,g1,g2,hborn⟩:=h4
  exact⟨ents,clock,g1,MapRel.cut q2 g2,hborn⟩
theorem Mem.monoP {F:Fro}{ρ ρ':Pl}{h:Heap}{w0 w:World}{O:Nat→Prop}(m:Mem P F ρ h w0 O w)(hp:PLe ρ ρ'):Mem P F ρ' h w0 O w:=by
 have hi:∀i L,(get h i).isSome=true→ρ' i=some L→ρ i=some L:=by
  intro i L h1 h2
  cases hg:get h i with
  |none=>simp[hg] at h1
  |some b=>
   obtain⟨L',x,k1,_⟩:=m.own i b hg
   rw[hp _ _ k1] at h2
   rw[k1,h2]
 refine⟨m.fro,fun i blk hg=>?_,fun i j Li Lj h1 h2 h3 h4 h5=>m.inj i j Li Lj h1 h2 (hi _ _ h1 h3) (hi _ _ h2 h4) h5,fun i L h1 h2=>m.ours i L h1 (hi _ _ h1 h2),m.fr⟩
 obtain⟨L,x,h1,h2,h3,h4⟩:=m.own i blk hg
 exact⟨L,x,hp _ _ h1,h2,h3,BRel.mono P (FLe.refl F) hp h4⟩
theorem CallOk.low {f:FuncId}{vs:List Val}{hs h2:Heap}{N N':Nat}{r:Val}(hk:CallOk P Γ f vs hs N true r h2 N')(hl:(aa N vs&&bc N hs)=true):CallOk P Γ f vs hs N false r h2 N':=by
 rw[Bool.and_eq_true] at hl
 refine⟨hk.1,fun F ρ w0 O w xs hG m hf hv=>?_⟩
 refine Calls.mono (hk.2 F (cut ρ N) w0 O w xs hG (m.cut hl.2) (fun i hi _=>by simp[V.cut,Nat.not_lt.2 hi]) (RelL.cut _ _ hl.1 hv)) ?_
 rintro e w' ⟨F',ρ0,x,h1,hx,h3,h4⟩
 let ρ':Pl:=fun i=>if N≤i∧i<N' then ρ0 i else ρ i
 have hle:PLe ρ0 ρ':=by
  intro i L hi
  show(if N≤i∧i<N' then ρ0 i else ρ i)=some L
  by_cases hc:N≤i∧i<N'
  ·
   rw[if_pos hc,hi]
  ·
   rw[if_neg hc]
   rw[hx.out i hc] at hi
   unfold V.cut at hi
   split at hi
   ·
    exact hi
   ·
    cases hi
 refine⟨F',ρ',x,h1,⟨hx.f,?_,hx.new,fun i hi=>if_neg hi⟩,Rel.mono (FLe.refl _) hle _ _ h3,h4.monoP hle⟩
 intro i L hi
 show(if N≤i∧i<N' then ρ0 i else ρ i)=some L
 by_cases hc:N≤i∧i<N'
 ·
  rw[hf i hc.1 (.inr hc.2)] at hi;cases hi
 ·
  rw[if_neg hc,hi]
theorem pL {o:Oper}{a:List Val}{hs h':Heap}{N i:Nat}{v:Val}(hro:jc o.op=true)(he:bW P Γ o a hs i=some (v,h')):jo P Γ o a ⟨v,N,N,false,true,hs,hs⟩:=by
 refine⟨Nat.le_refl _,fun _=>⟨rfl,rfl⟩,fun id h=>.inl h,?_⟩
 intro a' hc F ρ w0 O w act K Q hG m hf ha hK
 rw[←om hc] at he
 obtain⟨_,x,h1,h2⟩:=AU m hG ha hro he
 have:=hK F ρ x w (Ext.refl F ρ w0 O N N) h2 m
 unfold Oper.wp
 rcases h1 with h1|⟨h1,rfl⟩
 ·
  rw[h1];exact this
 ·
  rw[h1];exact this
theorem j8 {o:Oper}{a:List Val}{hs h':Heap}{N:Nat}{v:Val}(he:bW P Γ o a hs N=some (v,h'))(hk:∀id,(get h' id).isSome=true→(get hs id).isSome=true∨id=N):jo P Γ o a ⟨v,N,N+1,false,false,hs,h'⟩:=by
 refine⟨Nat.le_succ _,(fun h=>by cases h),fun id h=>(hk id h).elim .inl (fun e=>.inr ⟨by simp[e],by simp[e]⟩),?_⟩
 intro a' hc F ρ w0 O w act K Q hG m hf ha hK
 rw[←om hc] at he
 obtain⟨ρ',x,w',g1,g2,g3,g4,g5⟩:=oo m hG ha (hf N (Nat.le_refl _) (.inr (Nat.lt_succ_self _))) he
 have:=hK F ρ' x w' ⟨FLe.refl F,g2,fun _ _ h=>.inl h,fun i hi=>g3 i (by simp at hi;omega)⟩ g4 g5
 unfold Oper.wp
 rcases g1 with h1|⟨h1,rfl⟩
 ·
  rw[h1];exact this
 ·
  rw[h1];exact this
theorem pK {o:Oper}{a:List Val}{N:Nat}{f:FuncId}{vs:List Val}{r:Val}(hc:callee Γ a o=some (f,vs))(hp:bL P f=true)(hcl:aE vs=true)(hr:PureOk P Γ f vs r):jo P Γ o a ⟨r,N,N,false,true,[],[]⟩:=by
 refine⟨Nat.le_refl _,fun _=>⟨rfl,rfl⟩,fun id h=>.inl h,?_⟩
 intro a' hcg F ρ w0 O w act K Q hG m hf ha hK
 rw[←hE hcg] at hc
 refine wU m hG ha hc hp hcl hr ?_
 intro F' x w' f1 f2 f3 f4
 exact hK F' ρ x w' ⟨f1,PLe.refl ρ,fun b c hb=>(f2 b c hb).elim .inl (fun h=>.inr (.inr (Nat.le_trans m.fr.size h))),fun _ _=>rfl⟩ f3 f4
theorem mS {o:Oper}{a:List Val}{N n:Nat}{hs:Heap}{f:FuncId}{vs us:List Val}{r:Val}(hc:callee Γ a o=some (f,vs))(hp:bL P f=true)(hv:vwL P hs n vs=some us)(hr:PureOk P Γ f us r)(hfl:r.flat=true):jo P Γ o a ⟨r,N,N,false,true,hs,hs⟩:=by
 refine⟨Nat.le_refl _,fun _=>⟨rfl,rfl⟩,fun id h=>.inl h,?_⟩
 intro a' hcg F ρ w0 O w act K Q hG m hf ha hK
 rw[←hE hcg] at hc
 refine qY m hG ha hc hp hv hr hfl ?_
 intro x w' f3 f4
 exact hK F ρ x w' (Ext.refl F ρ w0 O N N) f3 f4
theorem lU {o:Oper}{a:List Val}{N N':Nat}{all:Bool}{hs h2:Heap}{f:FuncId}{vs:List Val}{r:Val}(hc:callee Γ a o=some (f,vs))(hp:bL P f=true)(hr:CallOk P Γ f vs hs N all r h2 N')
  (hk:∀id,(get h2 id).isSome=true→(get hs id).isSome=true∨(N≤id∧id<N')):jo P Γ o a ⟨r,N,N',all,false,hs,h2⟩:=by
 refine⟨hr.1,(fun h=>by cases h),hk,?_⟩
 intro a' hcg F ρ w0 O w act K Q hG m hf ha hK
 rw[←hE hcg] at hc
 exact rp m hG ha hc hp hr hf fun F' ρ' x w' hx f3 f4=>hK F' ρ' x w' hx f3 f4
def rb (P:Program)(Γ:Glo P)(ops:Array Oper)(K:List Val→Heap→Nat→Prop):List Oper→List Rec→List Val→Heap→Nat→Prop
 |[],[],a,h,N=>K a h N
 |o::os,r::rs,a,h,N=>r.n=N∧((aO ops o a=true∧jo P Γ o a r∧∀id b,get r.fp id=some b→get h id=some b)∨(aO ops o a=false∧vb r))∧rb P Γ ops K os rs (dJ a o.dst r.v) (dw h r) r.n'
 |_,_,_,_,_=>False
mutual
def wy:Val→Val→Bool
 |.bool a,.bool b=>a==b
 |.int k a,.int k' b=>decide (k=k')&&a==b
 |.str a,.str b=>a==b
 |.nilp,.nilp|.nils,.nils|.nilm,.nilm|.nilf,.nilf|.nili,.nili|.sle,.sle=>true
 |.pp a,.pp b=>oA a b
 |.pr i o,.pr j p=>i==j&&o==p
 |.sl a n c,.sl b m d=>n==m&&c==d&&oA a b
 |.so i o n c,.so j p m d=>i==j&&o==p&&n==m&&c==d
 |.mp i,.mp j=>i==j
 |.fn f a b,.fn g c d=>f==g&&oA a c&&oA b d
 |.ifc t v,.ifc u w=>t==u&&wy v w
 |.ag a,.ag b=>oA a b
 |.tp a,.tp b=>oA a b
 |_,_=>false
def oA:List Val→List Val→Bool
 |[],[]=>true
 |a::az,b::bs=>wy a b&&oA az bs
 |_,_=>false
end
mutual
theorem oF:∀(a b:Val),wy a b=true→a=b
 |a,b,h=>by
  cases a<;>cases b<;>simp only[wy,Bool.and_eq_true,beq_iff_eq,decide_eq_true_eq,Bool.false_eq_true] at h<;>first|rfl|(cases h;done)|skip
  all_goals first
   |(subst h;rfl)
   |(obtain⟨rfl,rfl⟩:=h;rfl)
   |(obtain⟨⟨⟨rfl,rfl⟩,rfl⟩,rfl⟩:=h;rfl)
   |(rw[kZ _ _ h])
   |(obtain⟨⟨rfl,rfl⟩,h⟩:=h;rw[kZ _ _ h])
   |(obtain⟨⟨rfl,h1⟩,h2⟩:=h;rw[kZ _ _ h1,kZ _ _ h2])
   |(obtain⟨rfl,h1⟩:=h;rw[oF _ _ h1])
theorem kZ:∀(a b:List Val),oA a b=true→a=b
 |[],[],_=>rfl
 |[],_::_,h=>by simp[oA] at h
 |_::_,[],h=>by simp[oA] at h
 |a::az,b::bs,h=>by
  simp only[oA,Bool.and_eq_true] at h
  rw[oF a b h.1,kZ az bs h.2]
end
def ww:List (Val×Val)→List (Val×Val)→Bool
 |[],[]=>true
 |a::az,b::bs=>wy a.1 b.1&&wy a.2 b.2&&ww az bs
 |_,_=>false
theorem vi:∀{a b:List (Val×Val)},ww a b=true→a=b
 |[],[],_=>rfl
 |[],_::_,h=>by simp[ww] at h
 |_::_,[],h=>by simp[ww] at h
 |(a,a')::az,(b,b')::bs,h=>by
  simp only[ww,Bool.and_eq_true] at h
  rw[oF a b h.1.1,oF a' b' h.1.2,vi h.2]
def zz:Option Blk→Option Blk→Bool
 |none,none=>true
 |some (.cells a t o),some (.cells b u p)=>t==u&&o==p&&oA a b
 |some (.map a),some (.map b)=>ww a b
 |_,_=>false
theorem AA {a b:Option Blk}(h:zz a b=true):a=b:=by
 unfold zz at h
 split at h
 ·
  rfl
 ·
  simp only[Bool.and_eq_true,beq_iff_eq] at h
  obtain⟨⟨rfl,rfl⟩,h⟩:=h
  rw[kZ _ _ h]
 ·
  rw[vi h]
 ·
  cases h
def BD (r:Rec)(id:Nat):Bool:=(get r.fp id).isSome||(decide (r.n≤id)&&decide (id<r.n'))
def sV (r:Rec):List Nat:=if r.ro=true then [] else (r.fp.map (·.1)).filter fun id=>!zz (get r.fp' id) (get r.fp id)
def mV (r s:Rec):Bool:=
 (sV r).all (fun id=>!BD s id)&&(sV s).all (fun id=>!BD r id)&&r.fp.all (fun p=>!(decide (s.n≤p.1)&&decide (p.1<s.n')))&&s.fp.all (fun p=>!(decide (r.n≤p.1)&&decide (p.1<r.n'))) &&
 (!r.all||s.n'==s.n)&&(!s.all||r.n'==r.n)
def ti (ops:Array Oper):Bool:=ops.toList.zipIdx.all fun(o,j)=>o.after.toList.all fun e=>!Region.binds .any e||decide (e.on<j)
def lI (ops:Array Oper):List (Nat×Nat):=
 (List.range ops.size).flatMap fun j=>((List.range j).filter fun i=>!up ops j i).map fun i=>(i,j)
def jr (ops:Array Oper):Bool:=(lI ops).all fun(i,j)=>match ops[i]?,ops[j]? with
 |some oi,some oj=>oi.apart ops oj
 |_,_=>true
theorem uV {r:Rec}{id:Nat}:BD r id=true↔tou r id:=by
 unfold BD tou
 simp
theorem fL {h:Heap}{i:Nat}{b:Blk}(hg:get h i=some b):∃p∈h,p.1=i:=by
 induction h with
 |nil=>simp[get] at hg
 |cons x r ih=>
  obtain⟨k,c⟩:=x
  simp only[get] at hg
  by_cases e:k=i
  ·
   exact⟨(k,c),by simp,e⟩
  ·
   rw[if_neg e] at hg
   obtain⟨p,h1,h2⟩:=ih hg
   exact⟨p,by simp[h1],h2⟩
theorem jx {ops:Array Oper}{K:List Val→Heap→Nat→Prop}:∀{l:List Oper}{rs:List Rec}{a:List Val}{h:Heap}{N:Nat},rb P Γ ops K l rs a h N→rs.length=l.length
 |[],[],_,_,_,_=>rfl
 |[],_::_,_,_,_,h=>h.elim
 |_::_,[],_,_,_,h=>h.elim
 |o::os,r::rs,a,h,N,hd=>by simp[jx hd.2.2]
theorem se (a:List Val)(d:Option Tmp)(v:Val):(dJ a d v).length=a.length:=by cases d<;>simp[dJ]
theorem mz {ops:Array Oper}{rf:Nat→Rec}{a0:List Val}{h0:Heap}{K:List Val→Heap→Nat→Prop}:∀{l done:List Oper}{rs:List Rec}{a:List Val}{h:Heap}{N:Nat},ops.toList=done++l→(∀k,k<l.length→rs[k]?=some (rf (done.length+k)))→
  rb P Γ ops K l rs a h N→a.length=a0.length→(∀t,a[t]?=ep (wrA ops rf a0.length) (fun t=>a0[t]?) (fun _=>true) done.length t)→(∀i,get h i=ep (wrH rf) (get h0) (fun _=>true) done.length i)→
  (∃an hn N',an.length=a0.length∧(∀t,an[t]?=ep (wrA ops rf a0.length) (fun t=>a0[t]?) (fun _=>true) ops.size t)∧(∀i,get hn i=ep (wrH rf) (get h0) (fun _=>true) ops.size i)∧K an hn N'∧N≤N'∧(∀k,done.length≤k→k<ops.size→N≤(rf k).n∧(rf k).n≤(rf k).n'∧(rf k).n'≤N'))∧
  (∀k o,done.length≤k→ops[k]?=some o→∃a,(∀t,t∈o.looksAt ops→a[t]?=ep (wrA ops rf a0.length) (fun t=>a0[t]?) (fun _=>true) k t)∧
   ((aO ops o a=true∧jo P Γ o a (rf k)∧∀id b,get (rf k).fp id=some b→ep (wrH rf) (get h0) (fun _=>true) k id=some b)∨(aO ops o a=false∧vb (rf k))))∧
  (∀i k,done.length≤i→i<k→k<ops.size→(rf i).n'≤(rf k).n)
 |[],done,rs,a,h,N,hl,hr,hd,ha1,ha2,hh=>by
  have hs:ops.size=done.length:=by rw[←Array.length_toList,hl];simp
  cases rs with
  |cons r rs=>exact hd.elim
  |nil=>
   refine⟨⟨a,h,N,ha1,by rw[hs];exact ha2,by rw[hs];exact hh,hd,Nat.le_refl _,fun k h1 h2=>by omega⟩,fun k o h1 h2=>?_,fun i k h1 h2 h3=>by omega⟩
   have:=ki h2;omega
 |o::l,done,rs,a,h,N,hl,hr,hd,ha1,ha2,hh=>by
  have hs:ops.size=done.length+(l.length+1):=by rw[←Array.length_toList,hl];simp
  have ho:ops[done.length]?=some o:=by rw[←Array.getElem?_toList,hl];simp
  cases rs with
  |nil=>exact hd.elim
  |cons r rs=>
   obtain⟨hn,hdo,hrest⟩:=hd
   have hr0:r=rf done.length:=by have:=hr 0 (by simp);simpa using this
   have hrn:r.n≤r.n':=by
    rcases hdo with ⟨_,h1,_⟩|⟨_,h1⟩
    ·
     exact h1.1
    ·
     rw[h1.2.1];exact Nat.le_refl _
   have hl':ops.toList=(done++[o])++l:=by simp[hl]
   have hlen:(done++[o]).length=done.length+1:=by simp
   have A:∀t,(dJ a o.dst r.v)[t]?=ep (wrA ops rf a0.length) (fun t=>a0[t]?) (fun _=>true) (done++[o]).length t:=by
    intro t
    rw[hlen]
    simp only[ep,if_true]
    rw[←ha2 t]
    unfold wrA
    simp only[ho,←hr0]
    cases hdst:o.dst with
    |none=>simp[dJ]
    |some d=>
     simp only[dJ,Option.some.injEq,List.getElem?_set,ha1]
     by_cases e:d=t
     ·
      subst e
      simp only[if_true]
      split<;>rfl
     ·
      simp[e]
   have H:∀i,get (dw h r) i=ep (wrH rf) (get h0) (fun _=>true) (done++[o]).length i:=by
    intro i
    rw[hlen]
    simp only[ep,if_true]
    rw[←hh i]
    unfold wrH
    rw[←hr0]
    have hk3:∀id,(get r.fp' id).isSome=true→tou r id:=by
     rcases hdo with ⟨_,h1,_⟩|⟨_,h1⟩
     ·
      exact h1.2.2.1
     ·
      intro id hid;rw[h1.2.2.2.2.2] at hid;simp[get] at hid
    have hsb:∀id b,get r.fp id=some b→get h id=some b:=by
     rcases hdo with ⟨_,_,h1⟩|⟨_,h1⟩
     ·
      exact h1
     ·
      intro id b hid;rw[h1.2.2.2.2.1] at hid;simp[get] at hid
    haveI:Decidable (wri r i):=Classical.propDecidable _
    rw[qv hk3 hsb]
    by_cases hw:wri r i
    ·
     rw[if_pos hw,if_pos hw]
    ·
     rw[if_neg hw,if_neg hw]
   obtain⟨⟨an,hn',N',g1,g2,g3,g4,g5,g6⟩,g7,g8⟩:=mz (done:=done++[o]) hl' (fun k hk=>by
    have:=hr (k+1) (by simp;omega)
    rw[hlen]
    simpa[Nat.add_assoc,Nat.add_comm 1 k] using this) hrest (by rw[se];exact ha1) A H
   refine⟨⟨an,hn',N',g1,g2,g3,g4,by omega,fun k h1 h2=>?_⟩,fun k o' h1 h2=>?_,fun i k h1 h2 h3=>?_⟩
   ·
    by_cases e:k=done.length
    ·
     subst e
     rw[←hr0]
     exact⟨by omega,hrn,by omega⟩
    ·
     have:=g6 k (by omega) h2
     omega
   ·
    by_cases e:k=done.length
    ·
     subst e
     rw[ho] at h2;cases h2
     refine⟨a,fun t _=>ha2 t,?_⟩
     rw[←hr0]
     rcases hdo with ⟨q1,q2,q3⟩|⟨q1,q2⟩
     ·
      exact .inl ⟨q1,q2,fun id b hb=>by rw[←hh id];exact q3 id b hb⟩
     ·
      exact .inr ⟨q1,q2⟩
    ·
     exact g7 k o' (by omega) h2
   ·
    by_cases e:i=done.length
    ·
     subst e
     rw[←hr0]
     have:=g6 k (by omega) h3
     omega
    ·
     exact g8 i k (by omega) h2 h3
theorem zy {id:Nat}{ops:Array Oper}(rs:List Rec){a:List Val}{h:Heap}{N:Nat}{Q:Post}(hm:P.follows .mixedOrders=true)(hlow:ti ops=true)(hap:jr ops=true)
  (hrun:rb P Γ ops (fun a h N=>Q .normal a h N) ops.toList rs a h N) (hfree:∀p∈lI ops,mV (rs.getD p.1 ⟨uv,0,0,false,true,[],[]⟩) (rs.getD p.2 ⟨uv,0,0,false,true,[],[]⟩)=true):W P Γ (.region id ops true) a h N Q:=by
 have hlen:=jx hrun
 let rf:Nat→Rec:=fun k=>rs.getD k ⟨uv,0,0,false,true,[],[]⟩
 have hrf:∀k,k<ops.toList.length→rs[k]?=some (rf (([]:List Oper).length+k)):=by
  intro k hk
  simp only[List.length_nil,Nat.zero_add,rf]
  rw[List.getD_eq_getElem?_getD,List.getElem?_eq_getElem (by omega)]
  rfl
 obtain⟨⟨an,hn,N',g1,g2,g3,g4,g5,g6⟩,g7,g8⟩:=mz (rf:=rf) (a0:=a) (h0:=h) (done:=[]) (by simp) hrf hrun rfl (fun _=>rfl) (fun _=>rfl)
 refine x8 (rs:=rf) hm ⟨?_,g5,fun k hk=>?_,fun k o hk=>g7 k o (Nat.zero_le _) hk,?_⟩ g1 g2 g3 g4
 ·
  intro j o e ho he hb
  unfold ti at hlow
  rw[List.all_eq_true] at hlow
  have:=hlow (o,j) (by rw[List.mem_zipIdx_iff_getElem?];simpa using ho)
  simp only[List.all_eq_true] at this
  have:=this e (by simpa using he)
  simpa[hb] using this
 ·
  obtain⟨q1,q2,q3⟩:=g6 k (Nat.zero_le _) hk
  exact⟨q1,q2,q3,fun i hi=>g8 i k (Nat.zero_le _) hi hk⟩
 ·
  intro i j oi oj hij hoi hoj hdb
  have hjn:=ki hoj
  have hmem:(i,j)∈lI ops:=by
   unfold lI
   rw[List.mem_flatMap]
   refine⟨j,by simpa using hjn,?_⟩
   rw[List.mem_map]
   exact⟨i,by rw[List.mem_filter];exact⟨by simpa using hij,by simp[hdb]⟩,rfl⟩
  have h1:oi.apart ops oj=true:=by
   unfold jr at hap
   rw[List.all_eq_true] at hap
   have:=hap (i,j) hmem
   simpa[hoi,hoj] using this
  have h2:=hfree (i,j) hmem
  simp only[mV,Bool.and_eq_true,Bool.or_eq_true,Bool.not_eq_true',beq_iff_eq,List.all_eq_true] at h2
  obtain⟨⟨⟨⟨⟨k1,k2⟩,k3⟩,k4⟩,h4⟩,h5⟩:=h2
  have hnn:=g8 i j (Nat.zero_le _) hij hjn
  have wt:∀r:Rec,∀x,wri r x→x∈sV r∨(r.n≤x∧x<r.n'):=by
   rintro r x ⟨w1,w2,w3⟩
   rcases w3 with w3|w3
   ·
    exact .inr w3
   ·
    rcases w2 with w2|w2
    ·
     left
     unfold sV
     rw[if_neg (by rw[w1];simp),List.mem_filter]
     cases hg:get r.fp x with
     |none=>simp[hg] at w2
     |some b=>
      obtain⟨p,hp,rfl⟩:=fL hg
      refine⟨List.mem_map.2 ⟨p,hp,rfl⟩,?_⟩
      rw[Bool.not_eq_true']
      cases hb:zz (get r.fp' p.1) (some b) with
      |false=>rfl
      |true=>have:=AA hb;exact(w3 (by rw[this,hg])).elim
    ·
     exact .inr w2
  refine⟨h1,⟨fun x wx ty=>?_,fun x wx tx=>?_⟩,fun ha=>?_,fun ha=>?_⟩
  ·
   rcases wt _ x wx with w1|w1
   ·
    have:=k1 x w1;rw[uV.2 ty] at this;cases this
   ·
    rcases ty with ty|ty
    ·
     cases hg:get (rf j).fp x with
     |none=>simp[hg] at ty
     |some b=>
      obtain⟨p,hp,rfl⟩:=fL hg
      have:=k4 p hp
      rw[Bool.and_eq_false_iff,decide_eq_false_iff_not,decide_eq_false_iff_not] at this
      rcases this with this|this
      ·
       exact this w1.1
      ·
       exact this w1.2
    ·
     omega
  ·
   rcases wt _ x wx with w1|w1
   ·
    have:=k2 x w1;rw[uV.2 tx] at this;cases this
   ·
    rcases tx with tx|tx
    ·
     cases hg:get (rf i).fp x with
     |none=>simp[hg] at tx
     |some b=>
      obtain⟨p,hp,rfl⟩:=fL hg
      have:=k3 p hp
      rw[Bool.and_eq_false_iff,decide_eq_false_iff_not,decide_eq_false_iff_not] at this
      rcases this with this|this
      ·
       exact this w1.1
      ·
       exact this w1.2
    ·
     omega
  ·
   rcases h4 with h4|h4
   ·
    rw[show(rs.getD (i,j).1 ⟨uv,0,0,false,true,[],[]⟩)=rf i from rfl,ha] at h4;cases h4
   ·
    exact h4
  ·
   rcases h5 with h5|h5
   ·
    rw[show(rs.getD (i,j).2 ⟨uv,0,0,false,true,[],[]⟩)=rf j from rfl,ha] at h5;cases h5
   ·
    exact h5
end
end Go.V
end
section
namespace Go.V
open Go
structure Ctx where
 P:Program
 Γ:Glo P
 S:FuncId→List Val→Option Val
 I:FuncId→List Val→Heap→Nat→Option (Val×Heap×Nat)
 T:FuncId→Option Val
 pureF:FuncId→Bool
inductive Task where
 |pure (f:FuncId) (vs:List Val)
 |imp (f:FuncId) (vs:List Val) (h:Heap) (N:Nat)
 |code (c:Code) (a:List Val) (h:Heap) (N:Nat)
 |ops (ops:Array Oper) (os:List Oper) (a:List Val) (h:Heap) (N:Nat)
 |draw (ops:Array Oper) (os:List Oper) (a:List Val) (h:Heap) (N:Nat)
structure Out where
 e:Exit
 v:Val
 a:List Val
 h:Heap
 N:Nat
 rs:List Rec
def Exit.goes:Exit→Bool
 |.normal|.ret=>true
 |_=>false
mutual
def tc:Val→List Nat
 |.pr id _|.so id _ _ _|.mp id=>[id]
 |.pp cs|.sl cs _ _|.ag cs|.tp cs=>lQ cs
 |.fn _ az cs=>lQ az++lQ cs
 |.ifc _ v=>tc v
 |_=>[]
def lQ:List Val→List Nat
 |[]=>[]
 |v::vs=>tc v++lQ vs
end
def FX:Blk→List Nat
 |.cells cs _ _=>lQ cs
 |.map es=>es.flatMap fun p=>tc p.1++tc p.2
def gh (h:Heap):Nat→List Nat→List Nat→List Nat
 |0,_,done=>done
 |_+1,[],done=>done
 |n+1,i::todo,done=>if done.contains i then gh h n todo done else
  match get h i with
  |some b=>gh h n (FX b++todo) (i::done)
  |none=>gh h n todo done
def eK (h:Heap)(ids:List Nat):Heap:=h.filter fun p=>ids.contains p.1
def oy {P:Program}(Γ:Glo P)(o:Oper)(a:List Val):List Nat:=
 match o.op with
 |.load ..|.store ..|.lookup ..|.mapUpdate ..|.slice ..=>o.op.operands.toList.flatMap fun x=>match ev Γ a x with
  |some (.pr id _)|some (.so id _ _ _)|some (.mp id)=>[id]
  |_=>[]
 |.call ⟨.builtin _,args,_⟩=>args.toList.flatMap fun x=>match ev Γ a x with
  |some (.pr id _)|some (.so id _ _ _)|some (.mp id)=>[id]
  |_=>[]
 |_=>[]
def lR (h2 hs:Heap)(N N':Nat):Bool:=h2.all fun p=>(get hs p.1).isSome||(decide (N≤p.1)&&decide (p.1<N'))
def yd (v:Val):Out:=⟨.normal,v,[],[],0,[]⟩
def jP (C:Ctx)(a:List Val)(o:Oper):Option (FuncId×List Val):=
 match callee C.Γ a o with
 |some (f,vs)=>if bL C.P f=true then some (f,vs) else none
 |none=>none
theorem ll {C:Ctx}{a:List Val}{o:Oper}{f:FuncId}{vs:List Val}(h:jP C a o=some (f,vs)):callee C.Γ a o=some (f,vs)∧bL C.P f=true:=by
 unfold jP at h
 split at h
 ·
  rename_i g us hc
  split at h
  ·
   rename_i hp;cases h;exact⟨hc,hp⟩
  ·
   cases h
 ·
  cases h
def kc (C:Ctx)(sub:Task→Option Out)(ops:Array Oper)(o:Oper)(a:List Val)(h:Heap)(N:Nat):Option Rec:=
 if aO ops o a=true then
  match jP C a o with
  |some (f,vs)=>
    if C.pureF f=true then
     if aE vs=true then (sub (.pure f vs)).map fun r=>⟨r.v,N,N,false,true,[],[]⟩
     else match vwL C.P (eK h (gh h 1000 (lQ vs) [])) 1000 vs with
      |some us=>match sub (.pure f us) with
       |some r=>if r.v.flat=true then some ⟨r.v,N,N,false,true,eK h (gh h 1000 (lQ vs) []),eK h (gh h 1000 (lQ vs) [])⟩ else none
       |none=>none
      |none=>none
    else match sub (.imp f vs (eK h (gh h 1000 (lQ vs) [])) N) with
     |some r=>if lR r.h (eK h (gh h 1000 (lQ vs) [])) N r.N=true then some ⟨r.v,N,r.N,!(aa N vs&&bc N (eK h (gh h 1000 (lQ vs) []))),false,eK h (gh h 1000 (lQ vs) []),r.h⟩ else none
     |none=>none
  |none=>
   match bW C.P C.Γ o a (eK h (oy C.Γ o a)) N with
   |some (v,h')=>if jc o.op=true then some ⟨v,N,N,false,true,eK h (oy C.Γ o a),eK h (oy C.Γ o a)⟩
    else if lR h' (eK h (oy C.Γ o a)) N (N+1)=true then some ⟨v,N,N+1,false,false,eK h (oy C.Γ o a),h'⟩ else none
   |none=>none
 else some ⟨uv,N,N,false,true,[],[]⟩
def run (C:Ctx):Nat→Task→Option Out
 |0,_=>none
 |n+1,.pure f vs=>match C.S f vs with
  |some r=>some (yd r)
  |none=>match C.P.funcs[f]? with
   |some fn=>match fn.body with
    |some c=>match run C n (.code c (vs++List.replicate (fn.ntmps-vs.length) uv) [] 0) with
     |some o=>if Exit.goes o.e=true then match gr C.P fn o.a o.h with
      |some r0=>(vw C.P o.h 1000 r0).map yd
      |none=>none else none
     |none=>none
    |none=>none
   |none=>none
 |n+1,.imp f vs h N=>match C.I f vs h N with
  |some (r,h',N')=>some ⟨.normal,r,[],h',N',[]⟩
  |none=>match C.T f,vs with
  |some r,[.fn g first cap]=>(run C n (.imp g (first++cap) h N)).map fun o=>{o with v:=r}
  |_,_=>match C.P.funcs[f]? with
   |some fn=>match fn.body with
    |some c=>match run C n (.code c (vs++List.replicate (fn.ntmps-vs.length) uv) h N) with
     |some o=>if Exit.goes o.e=true∧N≤o.N then (gr C.P fn o.a o.h).map fun r=>⟨.normal,r,[],eK o.h (gh o.h 1000 (h.map (·.1)++tc r) []),o.N,[]⟩ else none
     |none=>none
    |none=>none
   |none=>none
 |n+1,.code c a h N=>match c with
  |.skip=>some ⟨.normal,uv,a,h,N,[]⟩
  |.exit id=>some ⟨.exit id,uv,a,h,N,[]⟩
  |.ret=>some ⟨.ret,uv,a,h,N,[]⟩
  |.seq x y=>match run C n (.code x a h N) with
   |some o=>match o.e with
    |.normal=>run C n (.code y o.a o.h o.N)
    |_=>some o
   |none=>none
  |.cond c x y=>match ev C.Γ a c with
   |some (.bool b)=>run C n (.code (if b then x else y) a h N)
   |_=>none
  |.block id x=>match run C n (.code x a h N) with
   |some o=>match o.e with
    |.exit id'=>if id'=id then some {o with e:=.normal} else some o
    |_=>some o
   |none=>none
  |.loop x=>match run C n (.code x a h N) with
   |some o=>match o.e with
    |.normal=>run C n (.code (.loop x) o.a o.h o.N)
    |_=>some o
   |none=>none
  |.region _ ops false=>run C n (.ops ops ops.toList a h N)
  |.region _ ops true=>match run C n (.draw ops ops.toList a h N) with
   |some o=>if ti ops=true∧jr ops=true∧(lI ops).all (fun p=>mV (o.rs.getD p.1 ⟨uv,0,0,false,true,[],[]⟩) (o.rs.getD p.2 ⟨uv,0,0,false,true,[],[]⟩))=true then some o else none
   |none=>none
  |_=>none
 |_+1,.ops _ [] a h N=>some ⟨.normal,uv,a,h,N,[]⟩
 |n+1,.ops ops (o::os) a h N=>
  if aO ops o a=true then
   match jP C a o with
   |some (f,vs)=>
     if C.pureF f=true then
      if aE vs=true then match run C n (.pure f vs) with
       |some r=>run C n (.ops ops os (dJ a o.dst r.v) h N)
       |none=>none
      else match vwL C.P h 1000 vs with
       |some us=>match run C n (.pure f us) with
        |some r=>if r.v.flat=true then run C n (.ops ops os (dJ a o.dst r.v) h N) else none
        |none=>none
       |none=>none
     else match run C n (.imp f vs h N) with
      |some r=>run C n (.ops ops os (dJ a o.dst r.v) r.h r.N)
      |none=>none
   |none=>match bW C.P C.Γ o a h N with
    |some (v,h')=>run C n (.ops ops os (dJ a o.dst v) h' (N+1))
    |none=>none
  else run C n (.ops ops os (dJ a o.dst uv) h N)
 |_+1,.draw _ [] a h N=>some ⟨.normal,uv,a,h,N,[]⟩
 |n+1,.draw ops (o::os) a h N=>match kc C (run C n) ops o a h N with
  |some r=>match run C n (.draw ops os (dJ a o.dst r.v) (dw h r) r.n') with
   |some q=>some {q with rs:=r::q.rs}
   |none=>none
  |none=>none
section
variable {C:Ctx}
def CD (o:Out):Post:=fun e a' h' N'=>e=o.e∧a'=o.a∧h'=o.h∧N'=o.N
def Good (C:Ctx):Task→Out→Prop
 |.pure f vs,o=>PureOk C.P C.Γ f vs o.v
 |.imp f vs h N,o=>CallOk C.P C.Γ f vs h N true o.v o.h o.N
 |.code (.loop x) a h N,o=>N≤o.N∧∃k,WR C.P C.Γ x (CD o) k a h N
 |.code c a h N,o=>N≤o.N∧W C.P C.Γ c a h N (CD o)
 |.ops ops os a h N,o=>o.e=.normal∧N≤o.N∧∀K:List Val→Heap→Nat→Prop,K o.a o.h o.N→bO C.P C.Γ ops K os a h N
 |.draw ops os a h N,o=>o.e=.normal∧N≤o.N∧∀K:List Val→Heap→Nat→Prop,K o.a o.h o.N→rb C.P C.Γ ops K os o.rs a h N
theorem Good.w {c:Code}{a:List Val}{h:Heap}{N:Nat}{o:Out}(hg:Good C (.code c a h N) o):N≤o.N∧W C.P C.Γ c a h N (CD o):=by
 cases c with
 |loop x=>obtain⟨h1,k,h2⟩:=hg;exact⟨h1,x9 k h2⟩
 |_=>exact hg
theorem iJ {h:Heap}{ids:List Nat}{i:Nat}{b:Blk}(hg:get (eK h ids) i=some b):get h i=some b:=by
 unfold eK at hg
 rw[gG h (fun k=>ids.contains k)] at hg
 split at hg
 ·
  exact hg
 ·
  cases hg
theorem jX {h2 hs:Heap}{N N':Nat}(hk:lR h2 hs N N'=true)(id:Nat)(hg:(get h2 id).isSome=true):(get hs id).isSome=true∨(N≤id∧id<N'):=by
 cases h:get h2 id with
 |none=>simp[h] at hg
 |some b=>
  obtain⟨p,hp,rfl⟩:=fL h
  unfold lR at hk
  rw[List.all_eq_true] at hk
  have:=hk p hp
  simpa using this
theorem ta {e:Exit}(h:Exit.goes e=true):e=.normal∨e=.ret:=by cases e<;>simp[Exit.goes] at h<;>simp
theorem qM {sub:Task→Option Out}(hsub:∀t o,sub t=some o→Good C t o){ops:Array Oper}{o:Oper}{a:List Val}{h:Heap}{N:Nat}{r:Rec}(hd:kc C sub ops o a h N=some r) :
  r.n=N∧N≤r.n'∧((aO ops o a=true∧jo C.P C.Γ o a r∧∀id b,get r.fp id=some b→get h id=some b)∨(aO ops o a=false∧vb r)):=by
 unfold kc at hd
 split at hd
 ·
  rename_i hw
  split at hd
  ·
   rename_i f vs hcp
   obtain⟨hc,hp⟩:=ll hcp
   split at hd
   ·
    split at hd
    ·
     rename_i hcl
     obtain⟨q,h1,rfl⟩:=map_some hd
     exact⟨rfl,Nat.le_refl _,.inl ⟨hw,pK hc hp hcl (hsub _ _ h1),fun id b hb=>by simp[get] at hb⟩⟩
    ·
     split at hd
     ·
      rename_i us hv
      split at hd
      ·
       rename_i q h1
       split at hd
       ·
        rename_i hf
        cases hd
        exact⟨rfl,Nat.le_refl _,.inl ⟨hw,mS hc hp hv (hsub _ _ h1) hf,fun id b hb=>iJ hb⟩⟩
       ·
        cases hd
      ·
       cases hd
     ·
      cases hd
   ·
    split at hd
    ·
     rename_i q h1
     split at hd
     ·
      rename_i hk
      cases hd
      have:=hsub _ _ h1
      cases hl:(aa N vs&&bc N (eK h (gh h 1000 (lQ vs) []))) with
      |true=>exact⟨rfl,this.1,.inl ⟨hw,lU hc hp (this.low hl) (jX hk),fun id b hb=>iJ hb⟩⟩
      |false=>exact⟨rfl,this.1,.inl ⟨hw,lU hc hp this (jX hk),fun id b hb=>iJ hb⟩⟩
     ·
      cases hd
    ·
     cases hd
  ·
   split at hd
   ·
    rename_i v h' he
    split at hd
    ·
     rename_i hro
     cases hd
     exact⟨rfl,Nat.le_refl _,.inl ⟨hw,pL hro he,fun id b hb=>iJ hb⟩⟩
    ·
     split at hd
     ·
      rename_i hk
      cases hd
      exact⟨rfl,Nat.le_succ _,.inl ⟨hw,j8 he (fun id hid=>(jX hk id hid).imp (fun h=>h) (fun h=>by omega)),fun id b hb=>iJ hb⟩⟩
     ·
      cases hd
   ·
    cases hd
 ·
  rename_i hw
  cases hd
  exact⟨rfl,Nat.le_refl _,.inr ⟨by simpa using hw,rfl,rfl,rfl,rfl,rfl,rfl⟩⟩
end
end Go.V
end
section
namespace Go.V
open Go Go.Proofs
theorem ad (x:Int)(h1:-9223372036854775808≤x)(h2:x<9223372036854775808):IntKind.i64.wrap x=x:=by
 have:IntKind.i64.wrap x=if x % 18446744073709551616≥9223372036854775808 then x % 18446744073709551616-18446744073709551616 else x % 18446744073709551616:=by
  simp[IntKind.wrap,IntKind.bits,IntKind.signed]
 rw[this]
 split<;>omega
def lk (a:List Val)(t:Nat):Option Val:=a[t]?
@[simp] theorem Cw (ops:Array Oper)(d:Option Tmp)(op:Op)(t:TypeId)(p:String)(af:Array Edge)(a:List Val):aO ops ⟨d,op,t,p,af,none⟩ a=true:=rfl
theorem dE {ops:Array Oper}{o:Oper}{a:List Val}(h:o.guard=none):aO ops o a=true:=by unfold aO;rw[h]
section
variable {P:Program} {Γ:Glo P}
theorem eQ {ops:Array Oper}{K:List Val→Heap→Nat→Prop}{o:Oper}{os:List Oper}{a:List Val}{h h':Heap}{N:Nat}{v:Val}{r:Option (Val×Heap)}(hk:bO P Γ ops K os (dJ a o.dst v) h' (N+1))
  (hg:aO ops o a=true:=by first|exact dE (by with_reducible rfl)|(simp[*]<;>fail)) (he:bW P Γ o a h N=r:=by (simp[*];with_reducible rfl)) (hr:r=some (v,h'):=by with_reducible rfl):bO P Γ ops K (o::os) a h N:=by
 simp only[bO]
 rw[if_pos hg]
 exact .op (he.trans hr) hk
theorem aC {ops:Array Oper}{K:List Val→Heap→Nat→Prop}{o:Oper}{os:List Oper}{a:List Val}{h:Heap}{N:Nat}{f:FuncId}{vs:List Val}{r:Val}{q:Option (FuncId×List Val)}(hr:PureOk P Γ f vs r)
  (hk:bO P Γ ops K os (dJ a o.dst r) h N) (hg:aO ops o a=true:=by first|exact dE (by with_reducible rfl)|(simp[*]<;>fail)) (hc:callee Γ a o=q:=by (simp[*];with_reducible rfl)) (hq:q=some (f,vs):=by with_reducible rfl) (hp:bL P f=true:=by kernel_rfl) (hcl:aE vs=true:=by simp[aE,Val.closed, *]):bO P Γ ops K (o::os) a h N:=by
 simp only[bO]
 rw[if_pos hg]
 exact .pure (hc.trans hq) hp hcl hr hk
theorem iN {ops:Array Oper}{K:List Val→Heap→Nat→Prop}{o:Oper}{os:List Oper}{a:List Val}{h:Heap}{N:Nat}(hk:bO P Γ ops K os (dJ a o.dst uv) h N)(hg:aO ops o a=false:=by (simp[*]<;>fail)):bO P Γ ops K (o::os) a h N:=by
 simp only[bO]
 rw[if_neg (by simp[hg])]
 exact hk
theorem du {ops:Array Oper}{K:List Val→Heap→Nat→Prop}{a:List Val}{h:Heap}{N:Nat}(hk:K a h N):bO P Γ ops K [] a h N:=hk
theorem ES {c:Operand}{x y:Code}{p:Prop} [Decidable p]{a:List Val}{h:Heap}{N:Nat}{Q:Post}(hc:ev Γ a c=some (.bool (decide p)))(h1:p→W P Γ x a h N Q)(h2:¬p→W P Γ y a h N Q):W P Γ (.cond c x y) a h N Q:=by
 refine oW hc ?_
 by_cases hp:p
 ·
  simpa[hp] using h1 hp
 ·
  simpa[hp] using h2 hp
theorem Ce {c:Operand}{x y:Code}{a:List Val}{h:Heap}{N:Nat}{Q:Post}(h1:W P Γ x a h N Q)(hc:ev Γ a c=some (.bool true):=by (simp[*]<;>fail)):W P Γ (.cond c x y) a h N Q:=oW hc h1
theorem Cd {c:Operand}{x y:Code}{a:List Val}{h:Heap}{N:Nat}{Q:Post}(h1:W P Γ y a h N Q)(hc:ev Γ a c=some (.bool false):=by (simp[*]<;>fail)):W P Γ (.cond c x y) a h N Q:=oW hc h1
theorem jh {c:Code}{a:List Val}{h h':Heap}{N:Nat}{Q:Post}(hs:∀i b,get h' i=some b→get h i=some b)(hw:W P Γ c a h' N Q):W P Γ c a h N Q:=
 fun F ρ w0 O w act hG m hf ha hd=>hw F ρ w0 O w act hG (m.sub hs) hf ha hd
theorem zg {c:Code}{Q:Post}(I:Nat→List Val→Heap→Nat→Prop)(hI:∀k a h N,I k a h N→W P Γ c a h N (eD (fun a h N=>∃j,k=j+1∧I j a h N) Q)){k:Nat}{a:List Val}{h:Heap}{N:Nat}(h0:I k a h N):W P Γ (.loop c) a h N Q:=by
 have key:∀k a h N,I k a h N→WR P Γ c Q (k+1) a h N:=by
  intro k
  induction k with
  |zero=>
   intro a h N h0
   refine(hI 0 a h N h0).mono ?_
   intro e a' h' N' hq
   cases e with
   |normal=>obtain⟨j,hj,_⟩:=hq;exact absurd hj (by omega)
   |exit id=>exact hq
   |goto l=>exact hq
   |ret=>exact hq
   |panic ch=>exact hq
   |outgrown=>exact hq
  |succ k ih=>
   intro a h N h0
   refine(hI (k+1) a h N h0).mono ?_
   intro e a' h' N' hq
   cases e with
   |normal=>
    obtain⟨j,hj,hi⟩:=hq
    have:j=k:=by omega
    subst this
    exact ih a' h' N' hi
   |exit id=>exact hq
   |goto l=>exact hq
   |ret=>exact hq
   |panic ch=>exact hq
   |outgrown=>exact hq
 exact x9 _ (key k a h N h0)
theorem iC {f:FuncId}{fn:Func}{c:Code}{vs:List Val}{r:Val}(hf:P.funcs[f]?=some fn)(hb:fn.body=some c)(hn:vs.length≤fn.ntmps)
  (hw:∀a:List Val,a.length=fn.ntmps→(∀(i:Nat) (v:Val),vs[i]?=some v→lk a i=some v)→W P Γ c a [] 0 (fun e a h' _=>(e=.normal∨e=.ret)∧∃r0 n,gr P fn a h'=some r0∧vw P h' n r0=some r)):PureOk P Γ f vs r:=by
 refine ni hf hb (hw _ (by simp;omega) ?_)
 intro i v hi
 unfold lk
 rw[List.getElem?_append_left (by
  rcases Nat.lt_or_ge i vs.length with h|h
  ·
   exact h
  ·
   rw[List.getElem?_eq_none h] at hi;cases hi),hi]
end
@[simp] theorem cd (a:List Val)(d:Nat)(v:Val):dJ a (some d) v=a.set d v:=rfl
@[simp] theorem cc (a:List Val)(v:Val):dJ a none v=a:=rfl
@[simp] theorem FW {P:Program}(Γ:Glo P)(a:List Val)(t:Nat):ev Γ a (.tmp t)=lk a t:=rfl
@[simp] theorem Dd {P:Program}(Γ:Glo P)(a:List Val)(v:Value):ev Γ a (.const v)=ofV v:=rfl
@[simp] theorem Eo {P:Program}(Γ:Glo P)(a:List Val)(f:FuncId):ev Γ a (.func f)=some (.fn f [] []):=rfl
@[simp] theorem th (a:List Val)(t:Nat)(v:Val)(h:t<a.length):lk (a.set t v) t=some v:=by simp[lk,h]
@[simp] theorem ya (a:List Val)(i t:Nat)(v:Val)(h:i≠t):lk (a.set i v) t=lk a t:=by simp[lk,List.getElem?_set_ne h]
@[simp] theorem EA (P:Program)(a:List Val)(h:Heap):oB P a h []=some []:=rfl
@[simp] theorem EB (P:Program)(a:List Val)(h:Heap)(t:Nat)(rs:List ResultVar):oB P a h (.tmp t::rs)=match lk a t,oB P a h rs with
  |some v,some vs=>some (v::vs)
  |_,_=>none:=rfl
@[simp] theorem Ct (P:Program)(a:List Val)(h:Heap)(t:Nat)(ty:TypeId)(rs:List ResultVar):oB P a h (.cell t ty::rs)=match lk a t,oB P a h rs with
  |some p,some vs=>(nt P ty h p).map (· :: vs)
  |_,_=>none:=rfl
def yl (ops:Array Oper)(a:List Val)(j:Nat):Option Bool:=aS ops a j
@[simp] theorem Gp (ops:Array Oper)(a:List Val)(j:Nat):yl ops a j=match (ops[j]?).bind (·.dst) with
  |some d=>match lk a d with
   |some (.bool b)=>some b
   |some (.jk (.bool b))=>some b
   |_=>none
  |none=>none:=by
 unfold yl aS
 cases ops[j]? with
 |none=>rfl
 |some o=>
  simp only[Option.bind_some]
  cases o.dst<;>rfl
@[simp] theorem Bl (ops:Array Oper)(d:Option Tmp)(op:Op)(t:TypeId)(p:String)(af:Array Edge)(j:Nat)(b:Bool)(a:List Val):aO ops ⟨d,op,t,p,af,some (j,b)⟩ a=(yl ops a j==some b):=rfl
attribute [simp] nM eE uB u4 pq At uZ sF
attribute [simp] uX uv bW evL evP evO xZ gU nt pz ph iW V.get V.put po pv zZ zV AZ vun ofV zB m9 u0 oM aX eD cN callee gr uA
end Go.V
end
section
namespace Go.V
open Go Go.Proofs
@[simp] theorem ag3:cV Tryz.prog 3=some false:=by kernel_rfl
@[simp] theorem sz3:cK Tryz.prog 3=some 1:=by kernel_rfl
@[simp] theorem GO:Tryz.prog.info? 3=some Tryz.t3:=by kernel_rfl
@[simp] theorem Hd:Tryz.t3.size=1:=by kernel_rfl
@[simp] theorem Ha:Tryz.t3.bytes=8:=by kernel_rfl
@[simp] theorem FT:Tryz.prog.cellsOf 3=1:=by kernel_rfl
@[simp] theorem zl3:gC Tryz.t3=some ([.int .i64 0]):=by kernel_rfl
@[simp] theorem ag4:cV Tryz.prog 4=some false:=by kernel_rfl
@[simp] theorem sz4:cK Tryz.prog 4=some 1:=by kernel_rfl
@[simp] theorem ag9:cV Tryz.prog 9=some false:=by kernel_rfl
@[simp] theorem sz9:cK Tryz.prog 9=some 1:=by kernel_rfl
@[simp] theorem GP:Tryz.prog.info? 9=some Tryz.t9:=by kernel_rfl
@[simp] theorem He:Tryz.t9.size=1:=by kernel_rfl
@[simp] theorem Hb:Tryz.t9.bytes=16:=by kernel_rfl
@[simp] theorem FU:Tryz.prog.cellsOf 9=1:=by kernel_rfl
@[simp] theorem zl9:gC Tryz.t9=some ([.str []]):=by kernel_rfl
@[simp] theorem HC:cV Tryz.prog 22=some false:=by kernel_rfl
@[simp] theorem HX:cK Tryz.prog 22=some 1:=by kernel_rfl
@[simp] theorem HD:cV Tryz.prog 23=some false:=by kernel_rfl
@[simp] theorem HY:cK Tryz.prog 23=some 1:=by kernel_rfl
@[simp] theorem HE:cV Tryz.prog 24=some false:=by kernel_rfl
@[simp] theorem HZ:cK Tryz.prog 24=some 1:=by kernel_rfl
@[simp] theorem HF:cV Tryz.prog 26=some true:=by kernel_rfl
@[simp] theorem H0:cK Tryz.prog 26=some 6:=by kernel_rfl
@[simp] theorem FY:Tryz.prog.info? 26=some Tryz.t26:=by kernel_rfl
@[simp] theorem Gc:Tryz.t26.size=6:=by kernel_rfl
@[simp] theorem G8:Tryz.t26.bytes=96:=by kernel_rfl
@[simp] theorem Ej:Tryz.prog.cellsOf 26=6:=by kernel_rfl
@[simp] theorem Hm:fa Tryz.prog 26=some (.ag [.int .i64 0,.int .i64 0,.int .i64 0,.nils,.nils,.nils]):=by kernel_rfl
@[simp] theorem Hi:gC Tryz.t26=some ([.int .i64 0,.int .i64 0,.int .i64 0,.nils,.nils,.nils]):=by kernel_rfl
@[simp] theorem HG:cV Tryz.prog 27=some false:=by kernel_rfl
@[simp] theorem H1:cK Tryz.prog 27=some 1:=by kernel_rfl
@[simp] theorem HH:cV Tryz.prog 28=some false:=by kernel_rfl
@[simp] theorem H2:cK Tryz.prog 28=some 1:=by kernel_rfl
@[simp] theorem HJ:cV Tryz.prog 30=some true:=by kernel_rfl
@[simp] theorem H3:cK Tryz.prog 30=some 5:=by kernel_rfl
@[simp] theorem FZ:Tryz.prog.info? 30=some Tryz.t30:=by kernel_rfl
@[simp] theorem Gd:Tryz.t30.size=5:=by kernel_rfl
@[simp] theorem G9:Tryz.t30.bytes=80:=by kernel_rfl
@[simp] theorem Ek:Tryz.prog.cellsOf 30=5:=by kernel_rfl
@[simp] theorem Hn:fa Tryz.prog 30=some (.ag [.int .i64 0,.int .i64 0,.str [],.nils,.nils]):=by kernel_rfl
@[simp] theorem Hj:gC Tryz.t30=some ([.int .i64 0,.int .i64 0,.str [],.nils,.nils]):=by kernel_rfl
@[simp] theorem HK:cV Tryz.prog 35=some false:=by kernel_rfl
@[simp] theorem H4:cK Tryz.prog 35=some 1:=by kernel_rfl
@[simp] theorem HL:cV Tryz.prog 38=some false:=by kernel_rfl
@[simp] theorem H5:cK Tryz.prog 38=some 1:=by kernel_rfl
@[simp] theorem HM:cV Tryz.prog 40=some true:=by kernel_rfl
@[simp] theorem H6:cK Tryz.prog 40=some 6:=by kernel_rfl
@[simp] theorem Ho:fa Tryz.prog 40=some (.ag [.int .i64 0,.int .i64 0,.str [],.nils,.nils,.nils]):=by kernel_rfl
@[simp] theorem HN:cV Tryz.prog 77=some true:=by kernel_rfl
@[simp] theorem H7:cK Tryz.prog 77=some 2:=by kernel_rfl
@[simp] theorem F1:Tryz.prog.info? 77=some Tryz.t77:=by kernel_rfl
@[simp] theorem Ge:Tryz.t77.size=2:=by kernel_rfl
@[simp] theorem Ga:Tryz.t77.bytes=32:=by kernel_rfl
@[simp] theorem Em:Tryz.prog.cellsOf 77=2:=by kernel_rfl
@[simp] theorem Hp:fa Tryz.prog 77=some (.ag [.nils,.int .i64 0]):=by kernel_rfl
@[simp] theorem Hk:gC Tryz.t77=some ([.nils,.int .i64 0]):=by kernel_rfl
@[simp] theorem HO:cV Tryz.prog 80=some false:=by kernel_rfl
@[simp] theorem H8:cK Tryz.prog 80=some 1:=by kernel_rfl
@[simp] theorem HP:cV Tryz.prog 82=some true:=by kernel_rfl
@[simp] theorem H9:cK Tryz.prog 82=some 8:=by kernel_rfl
@[simp] theorem F2:Tryz.prog.info? 82=some Tryz.t82:=by kernel_rfl
@[simp] theorem Gf:Tryz.t82.size=8:=by kernel_rfl
@[simp] theorem Gb:Tryz.t82.bytes=136:=by kernel_rfl
@[simp] theorem En:Tryz.prog.cellsOf 82=8:=by kernel_rfl
@[simp] theorem Hq:fa Tryz.prog 82=some (.ag [.int .i64 0,.nils,.nils,.int .i64 0,.int .i64 0,.str [],.nils,.nils]):=by kernel_rfl
@[simp] theorem Hl:gC Tryz.t82=some ([.int .i64 0,.nils,.nils,.int .i64 0,.int .i64 0,.str [],.nils,.nils]):=by kernel_rfl
@[simp] theorem GB:cV Tryz.prog 112=some true:=by kernel_rfl
@[simp] theorem GT:cK Tryz.prog 112=some 8:=by kernel_rfl
@[simp] theorem Ep:Tryz.prog.info? 112=some Tryz.t112:=by kernel_rfl
@[simp] theorem Fe:Tryz.t112.size=8:=by kernel_rfl
@[simp] theorem Fa:Tryz.t112.bytes=120:=by kernel_rfl
@[simp] theorem D6:Tryz.prog.cellsOf 112=8:=by kernel_rfl
@[simp] theorem Gt:fa Tryz.prog 112=some (.ag [.str [],.bool false,.int .i64 0,.int .i64 0,.int .i64 0,.nils,.nils,.nils]):=by kernel_rfl
@[simp] theorem Gq:gC Tryz.t112=some ([.str [],.bool false,.int .i64 0,.int .i64 0,.int .i64 0,.nils,.nils,.nils]):=by kernel_rfl
@[simp] theorem GC:cV Tryz.prog 120=some false:=by kernel_rfl
@[simp] theorem GU:cK Tryz.prog 120=some 1:=by kernel_rfl
@[simp] theorem GD:cV Tryz.prog 122=some true:=by kernel_rfl
@[simp] theorem GV:cK Tryz.prog 122=some 16:=by kernel_rfl
@[simp] theorem Eq:Tryz.prog.info? 122=some Tryz.t122:=by kernel_rfl
@[simp] theorem Ff:Tryz.t122.size=16:=by kernel_rfl
@[simp] theorem Fb:Tryz.t122.bytes=264:=by kernel_rfl
@[simp] theorem D7:Tryz.prog.cellsOf 122=16:=by kernel_rfl
@[simp] theorem Gu:fa Tryz.prog 122=some (.ag [.int .i64 0,.str [],.str [],.int .i64 0,.int .i64 0,.int .i64 0,.nils,.nils,.nils,.int .i64 0,.int .i64 0,.str [],.nils,.nils,.nils,.nils]):=by kernel_rfl
@[simp] theorem Gr:gC Tryz.t122=some ([.int .i64 0,.str [],.str [],.int .i64 0,.int .i64 0,.int .i64 0,.nils,.nils,.nils,.int .i64 0,.int .i64 0,.str [],.nils,.nils,.nils,.nils]):=by kernel_rfl
@[simp] theorem GE:cV Tryz.prog 123=some false:=by kernel_rfl
@[simp] theorem GW:cK Tryz.prog 123=some 1:=by kernel_rfl
@[simp] theorem Gv:fa Tryz.prog 123=some (.nilf):=by kernel_rfl
@[simp] theorem GF:cV Tryz.prog 125=some true:=by kernel_rfl
@[simp] theorem GX:cK Tryz.prog 125=some 6:=by kernel_rfl
@[simp] theorem Gw:fa Tryz.prog 125=some (.ag [.int .i64 0,.int .i64 0,.int .i64 0,.nils,.nils,.nils]):=by kernel_rfl
@[simp] theorem GG:cV Tryz.prog 138=some true:=by kernel_rfl
@[simp] theorem GY:cK Tryz.prog 138=some 2:=by kernel_rfl
@[simp] theorem Gx:fa Tryz.prog 138=some (.ag [.nils,.nils]):=by kernel_rfl
@[simp] theorem GH:cV Tryz.prog 141=some false:=by kernel_rfl
@[simp] theorem GZ:cK Tryz.prog 141=some 1:=by kernel_rfl
@[simp] theorem Gy:fa Tryz.prog 141=some (.nils):=by kernel_rfl
@[simp] theorem GI:cV Tryz.prog 144=some false:=by kernel_rfl
@[simp] theorem G0:cK Tryz.prog 144=some 1:=by kernel_rfl
@[simp] theorem GJ:cV Tryz.prog 213=some false:=by kernel_rfl
@[simp] theorem G4:cK Tryz.prog 213=some 1:=by kernel_rfl
@[simp] theorem GK:cV Tryz.prog 243=some true:=by kernel_rfl
@[simp] theorem G5:cK Tryz.prog 243=some 2:=by kernel_rfl
@[simp] theorem Er:Tryz.prog.info? 243=some Tryz.t243:=by kernel_rfl
@[simp] theorem Fg:Tryz.t243.size=2:=by kernel_rfl
@[simp] theorem Fc:Tryz.t243.bytes=16:=by kernel_rfl
@[simp] theorem D8:Tryz.prog.cellsOf 243=2:=by kernel_rfl
@[simp] theorem Gz:fa Tryz.prog 243=some (.ag [.int .i64 0,.int .i64 0]):=by kernel_rfl
@[simp] theorem Gs:gC Tryz.t243=some ([.int .i64 0,.int .i64 0]):=by kernel_rfl
@[simp] theorem GL:cV Tryz.prog 255=some false:=by kernel_rfl
@[simp] theorem G6:cK Tryz.prog 255=some 1:=by kernel_rfl
@[simp] theorem HA:fa Tryz.prog 255=some (.nilf):=by kernel_rfl
@[simp] theorem GM:cV Tryz.prog 256=some false:=by kernel_rfl
@[simp] theorem G7:cK Tryz.prog 256=some 1:=by kernel_rfl
@[simp] theorem HB:fa Tryz.prog 256=some (.nilf):=by kernel_rfl
attribute [simp] Tryz.underlying1 Tryz.underlying3 Tryz.underlying4 Tryz.underlying5 Tryz.underlying9 Tryz.underlying18 Tryz.underlying19 Tryz.underlying20 Tryz.underlying22 Tryz.underlying23 Tryz.underlying24 Tryz.underlying25 Tryz.underlying26 Tryz.underlying27 Tryz.underlying28 Tryz.underlying29 Tryz.underlying30 Tryz.underlying34 Tryz.underlying35 Tryz.underlying38 Tryz.underlying39 Tryz.underlying40 Tryz.underlying47 Tryz.underlying48 Tryz.underlying49 Tryz.underlying50 Tryz.underlying54 Tryz.underlying55 Tryz.underlying57 Tryz.underlying66 Tryz.underlying76 Tryz.underlying77 Tryz.underlying79 Tryz.underlying80 Tryz.underlying81 Tryz.underlying82 Tryz.underlying84 Tryz.underlying91 Tryz.underlying92 Tryz.underlying97 Tryz.underlying107 Tryz.underlying108 Tryz.underlying111 Tryz.underlying112 Tryz.underlying113 Tryz.underlying116 Tryz.underlying120 Tryz.underlying121 Tryz.underlying122 Tryz.underlying123 Tryz.underlying124 Tryz.underlying125 Tryz.underlying133 Tryz.underlying134 Tryz.underlying135 Tryz.underlying137 Tryz.underlying138 Tryz.underlying141 Tryz.underlying144 Tryz.underlying149 Tryz.underlying151 Tryz.underlying153 Tryz.underlying156 Tryz.underlying160 Tryz.underlying161 Tryz.underlying162 Tryz.underlying163 Tryz.underlying164 Tryz.underlying169 Tryz.underlying170 Tryz.underlying171 Tryz.underlying172 Tryz.underlying173 Tryz.underlying176 Tryz.underlying180 Tryz.underlying183 Tryz.underlying184 Tryz.underlying185 Tryz.underlying186 Tryz.underlying188 Tryz.underlying189 Tryz.underlying196 Tryz.underlying202 Tryz.underlying203 Tryz.underlying205 Tryz.underlying213 Tryz.underlying218 Tryz.underlying219 Tryz.underlying220 Tryz.underlying222 Tryz.underlying226 Tryz.underlying227 Tryz.underlying228 Tryz.underlying229 Tryz.underlying230 Tryz.underlying231 Tryz.underlying232 Tryz.underlying243 Tryz.underlying250 Tryz.underlying251 Tryz.underlying255 Tryz.underlying256 Tryz.underlying259 Tryz.underlying280 Tryz.underlying286 Tryz.underlying291 Tryz.underlying305 Tryz.underlying310 Tryz.underlying320 Tryz.underlying327 Tryz.underlying331 Tryz.underlying354 Tryz.underlying358 Tryz.underlying371
end Go.V
end
section
namespace Go.V
abbrev Str:=List UInt8
inductive Doc where
 |mk (kind num:Int) (str:Str) (keys:List Str) (kids:List Doc)
namespace Doc
def kind:Doc→Int|.mk k _ _ _ _=>k
def num:Doc→Int|.mk _ n _ _ _=>n
def str:Doc→Str|.mk _ _ s _ _=>s
def keys:Doc→List Str|.mk _ _ _ ks _=>ks
def kids:Doc→List Doc|.mk _ _ _ _ ds=>ds
theorem ind {p:Doc→Prop}(h:∀d:Doc,(∀x∈d.kids,p x)→p d):∀d,p d:=by
 intro d
 exact Doc.rec (motive_1:=p) (motive_2:=fun ds=>∀d∈ds,p d) (fun k n s ks ds ih=>h (.mk k n s ks ds) ih) (by simp) (fun d r h1 h2 x hx=>by
  rcases List.mem_cons.1 hx with rfl|hx
  ·
   exact h1
  ·
   exact h2 x hx) d
end Doc
mutual
inductive Ty where
 |mk (kind lo hi:Int) (names:List Str) (fields:List Fld) (of:List Ty)
inductive Fld where
 |mk (name:Str) (opt:Bool) (ty:Ty)
end
namespace Fld
def name:Fld→Str|.mk n _ _=>n
def opt:Fld→Bool|.mk _ o _=>o
def ty:Fld→Ty|.mk _ _ t=>t
end Fld
namespace Ty
def kind:Ty→Int|.mk k _ _ _ _ _=>k
def lo:Ty→Int|.mk _ l _ _ _ _=>l
def hi:Ty→Int|.mk _ _ h _ _ _=>h
def names:Ty→List Str|.mk _ _ _ ns _ _=>ns
def fields:Ty→List Fld|.mk _ _ _ _ fs _=>fs
def of:Ty→List Ty|.mk _ _ _ _ _ ts=>ts
theorem ind {p:Ty→Prop}(h:∀t:Ty,(∀f∈t.fields,p f.ty)→(∀x∈t.of,p x)→p t):∀t,p t:=by
 intro t
 exact Ty.rec (motive_1:=p) (motive_2:=fun f=>p f.ty) (motive_3:=fun fs=>∀f∈fs,p f.ty) (motive_4:=fun ts=>∀t∈ts,p t)
  (fun k l hh ns fs ts ih1 ih2=>h (.mk k l hh ns fs ts) ih1 ih2) (fun n o t ih=>ih) (by simp) (fun f r h1 h2 x hx=>by
  rcases List.mem_cons.1 hx with rfl|hx
  ·
   exact h1
  ·
   exact h2 x hx) (by simp) (fun f r h1 h2 x hx=>by
  rcases List.mem_cons.1 hx with rfl|hx
  ·
   exact h1
  ·
   exact h2 x hx) t
end Ty
inductive Lns where
 |mk (kind:Int) (a b:Str) (ty:Ty) (doc:Doc) (swaps:List (Int×Int)) (subs:List Lns)
namespace Lns
def kind:Lns→Int|.mk k _ _ _ _ _ _=>k
def a:Lns→Str|.mk _ a _ _ _ _ _=>a
def b:Lns→Str|.mk _ _ b _ _ _ _=>b
def ty:Lns→Ty|.mk _ _ _ t _ _ _=>t
def doc:Lns→Doc|.mk _ _ _ _ d _ _=>d
def swaps:Lns→List (Int×Int)|.mk _ _ _ _ _ s _=>s
def subs:Lns→List Lns|.mk _ _ _ _ _ _ l=>l
theorem ind {p:Lns→Prop}(h:∀d:Lns,(∀x∈d.subs,p x)→p d):∀d,p d:=by
 intro d
 exact Lns.rec (motive_1:=p) (motive_2:=fun ds=>∀d∈ds,p d) (fun k a b t dd s ds ih=>h (.mk k a b t dd s ds) ih) (by simp) (fun d r h1 h2 x hx=>by
  rcases List.mem_cons.1 hx with rfl|hx
  ·
   exact h1
  ·
   exact h2 x hx) d
end Lns
structure Res where
 edge:Int
 step:List Int
 at_:List Str
 doc:Doc
structure St where
 doc:Doc
 res:List Res
end Go.V
end
