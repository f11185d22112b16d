/-
  A part of a proof: V2 V3 V4.
-/
import Derived.Test.YtkfjenbfbendhaaGreatDoorLk01
import Derived.Laws.Sem
import Derived.Laws.Strings
import Derived.Laws.Concat
import Derived.Laws.Entries
import Derived.Laws.CopyRow
import Derived.Laws.NewFold
set_option linter.unusedSimpArgs false
set_option linter.unusedVariables false
section
namespace Go.V
open Go
def zB:Value→Option Val
 |.bool b=>some (.bool b)
 |.int k n=>some (.int k n)
 |.string s=>some (.str s.data.toList)
 |.pointer none=>some .nilp
 |.slice none 0 0=>some .nils
 |.map none=>some .nilm
 |.nilFunc=>some .nilf
 |.nilIface=>some .nili
 |_=>none
def m9:List Value→Option (List Val)
 |[]=>some []
 |v::vs=>match zB v,m9 vs with
  |some u,some us=>some (u::us)
  |_,_=>none
def ofV:Value→Option Val
 |.agg cs=>(m9 cs.toList).map .ag
 |.tuple vs=>(m9 vs.toList).map .tp
 |v=>zB v
def uv:Val:=.tp []
def gU:Val→List Val
 |.ag cs=>cs
 |.jk x=>x.cells.toList.map .jk
 |v=>[v]
def gq:Val→Bool
 |.ag _|.tp _|.jk _=>false
 |_=>true
def ai:List Val→Bool
 |[]=>true
 |v::vs=>gq v&&ai vs
section
variable {F:Fro} {ρ:Pl}
theorem uL {v:Value}{u:Val}(h:zB v=some u):Rel F ρ u v:=by
 unfold zB at h
 split at h<;>first|(cases h;done)|(cases h;simp[Rel,str])
theorem nG:∀{vs:List Value}{us:List Val},m9 vs=some us→RelL F ρ us vs
 |[],us,h=>by simp only[m9] at h;cases h;exact .nil
 |v::vs,us,h=>by
  simp only[m9] at h
  split at h
  ·
   rename_i u us' h1 h2
   cases h
   exact .cons (uL h1) (nG h2)
  ·
   cases h
theorem sP {v:Value}{u:Val}(h:ofV v=some u):Rel F ρ u v:=by
 unfold ofV at h
 split at h
 ·
  cases hs:m9 (Array.toList ‹_›) with
  |none=>rw[hs] at h;cases h
  |some us=>rw[hs] at h;cases h;simp only[Rel];exact⟨_,rfl,nG hs⟩
 ·
  cases hs:m9 (Array.toList ‹_›) with
  |none=>rw[hs] at h;cases h
  |some us=>rw[hs] at h;cases h;simp only[Rel];exact⟨_,rfl,nG hs⟩
 ·
  exact uL h
theorem lW:Rel F ρ uv undef:=by simp[uv,undef,Rel,RelL]
theorem gM {v:Val}{x:Value}(h:Rel F ρ v x):RelL F ρ (gU v) x.cells.toList:=by
 cases v<;>simp only[Rel] at h
 case ag cs=>obtain⟨vs,rfl,h2⟩:=h;simpa[gU,Value.cells] using h2
 case bool b=>subst h;exact .one (by simp[Rel])
 case int k n=>subst h;exact .one (by simp[Rel])
 case str l=>subst h;exact .one (by simp[Rel])
 case nilp=>subst h;exact .one (by simp[Rel])
 case nils=>subst h;exact .one (by simp[Rel])
 case nilm=>subst h;exact .one (by simp[Rel])
 case nilf=>subst h;exact .one (by simp[Rel])
 case nili=>subst h;exact .one (by simp[Rel])
 case pp cs=>obtain⟨b,o,c,rfl,h2⟩:=h;exact .one (by simp only[Rel];exact⟨b,o,c,rfl,h2⟩)
 case pr id off=>obtain⟨L,h1,rfl⟩:=h;exact .one (by simp only[Rel];exact⟨L,h1,rfl⟩)
 case sl cs n cap=>
  rcases h with ⟨rfl|⟨p0,rfl⟩,h2⟩|⟨b,o,c,k,rfl,h2⟩
  ·
   exact .one (by rw[Rel];exact .inl ⟨.inl rfl,h2⟩)
  ·
   exact .one (by rw[Rel];exact .inl ⟨.inr ⟨p0,rfl⟩,h2⟩)
  ·
   exact .one (by simp only[Rel];exact .inr ⟨b,o,c,k,rfl,h2⟩)
 case jk y=>
  subst h
  simp only[gU]
  generalize x.cells.toList=l
  induction l with
  |nil=>exact .nil
  |cons y l ih=>exact .cons (by simp[Rel]) ih
 case sle=>obtain⟨p,k,rfl⟩:=h;exact .one (by simp only[Rel];exact⟨p,k,rfl⟩)
 case so id off n cap=>obtain⟨L,k,h1,rfl,h2⟩:=h;exact .one (by simp only[Rel];exact⟨L,k,h1,rfl,h2⟩)
 case mp id=>obtain⟨L,h1,rfl⟩:=h;exact .one (by simp only[Rel];exact⟨L,h1,rfl⟩)
 case fn f az cs=>obtain⟨us,vs,rfl,h2⟩:=h;exact .one (by simp only[Rel];exact⟨us,vs,rfl,h2⟩)
 case ifc t v=>obtain⟨y,rfl,h2⟩:=h;exact .one (by simp only[Rel];exact⟨y,rfl,h2⟩)
 case tp cs=>obtain⟨vs,rfl,h2⟩:=h;exact .one (by simp only[Rel];exact⟨vs,rfl,h2⟩)
theorem sv {v:Val}{x:Value}(h:Rel F ρ v x)(hc:gq v=true):x.oneCell'=true:=by
 cases v<;>simp only[Rel,gq] at h hc
 case ag cs=>cases hc
 case jk y=>cases hc
 case tp cs=>cases hc
 case pp cs=>obtain⟨b,o,c,rfl,h2⟩:=h;rfl
 case pr id off=>obtain⟨L,h1,rfl⟩:=h;rfl
 case sl cs n cap=>
  rcases h with ⟨rfl|⟨p0,rfl⟩,h2⟩|⟨b,o,c,k,rfl,h2⟩<;>rfl
 case sle=>obtain⟨p,k,rfl⟩:=h;rfl
 case so id off n cap=>obtain⟨L,k,h1,rfl,h2⟩:=h;rfl
 case mp id=>obtain⟨L,h1,rfl⟩:=h;rfl
 case fn f az cs=>obtain⟨us,vs,rfl,h2⟩:=h;rfl
 case ifc t v=>obtain⟨y,rfl,h2⟩:=h;rfl
 all_goals subst h;rfl
theorem fJ:∀{vs:List Val}{xs:List Value},RelL F ρ vs xs→ai vs=true→∀x∈xs,x.oneCell'=true
 |[],xs,h,_,x,hx=>by simp only[RelL] at h;subst h;cases hx
 |v::vs,xs,h,hc,x,hx=>by
  simp only[RelL,ai,Bool.and_eq_true] at h hc
  obtain⟨y,ys,rfl,h1,h2⟩:=h
  rcases List.mem_cons.1 hx with rfl|hx
  ·
   exact sv h1 hc.1
  ·
   exact fJ h2 hc.2 x hx
end
def AZ (op:BinOp)(k:IntKind)(a b:Int):Option Val:=
 match op with
 |.add=>some (.int k (k.wrap (a+b)))
 |.sub=>some (.int k (k.wrap (a-b)))
 |.mul=>some (.int k (k.wrap (a*b)))
 |.quo=>if b=0 then none else some (.int k (k.wrap (a.tdiv b)))
 |.rem=>if b=0 then none else some (.int k (a.tmod b))
 |.and=>some (.int k (k.wrap (BitVec.ofInt k.bits a &&& BitVec.ofInt k.bits b).toNat))
 |.or=>some (.int k (k.wrap (BitVec.ofInt k.bits a ||| BitVec.ofInt k.bits b).toNat))
 |.xor=>some (.int k (k.wrap (BitVec.ofInt k.bits a ^^^ BitVec.ofInt k.bits b).toNat))
 |.andNot=>some (.int k (k.wrap (BitVec.ofInt k.bits a &&& ~~~ BitVec.ofInt k.bits b).toNat))
 |.shl|.shr=>none
 |.eql=>some (.bool (a==b))
 |.neq=>some (.bool (a != b))
 |.lss=>some (.bool (decide (a<b)))
 |.leq=>some (.bool (decide (a≤b)))
 |.gtr=>some (.bool (decide (a>b)))
 |.geq=>some (.bool (decide (a≥b)))
def vD (op:BinOp)(k:IntKind)(a b:Int):Option Val:=
 if b<0 then none else
 match op with
 |.shl=>some (.int k (k.wrap (a*2 ^ (min b.toNat k.bits))))
 |.shr=>some (.int k (a.fdiv (2 ^ (min b.toNat k.bits))))
 |_=>none
def At (op:BinOp)(x y:List UInt8):Option Val:=
 match op with
 |.add=>if x.length+y.length≤9223372036854775807 then some (.str (x++y)) else none
 |.eql=>some (.bool (x==y))
 |.neq=>some (.bool !(x==y))
 |.lss=>some (.bool (Op.bytesLess x y))
 |.leq=>some (.bool (Op.bytesLess x y||x==y))
 |.gtr=>some (.bool !(Op.bytesLess x y||x==y))
 |.geq=>some (.bool !(Op.bytesLess x y))
 |_=>none
def oM:BinOp→Bool
 |.shl|.shr=>true
 |_=>false
def sF:Operand→Bool
 |.const _=>true
 |_=>false
def veq (P:Program)(t:TypeId)(y:Operand)(u v:Val):Option Bool:=
 match P.underlying t,u,v with
 |some .bool,.bool a,.bool b=>some (a==b)
 |some (.pointer _),.nilp,.nilp=>some true
 |some (.pointer _),.pp _,.nilp=>some false
 |some (.pointer _),.pr _ _,.nilp=>some false
 |some (.pointer e),.pr i o,.pr j o'=>if i=j∧((P.info? e).map (·.size)).getD 0≠0 then some (o==o') else none
 |some (.slice _),.nils,.nils=>some true
 |some (.slice _),.sl _ (_+1) _,.nils=>some false
 |some (.slice _),.so _ _ _ _,.nils=>some false
 |some (.slice _),.sle,.nils=>some false
 |some (.map _ _),.nilm,.nilm=>some true
 |some (.map _ _),.mp _,.nilm=>some false
 |some (.func _ _ _),.nilf,.nilf=>some true
 |some (.func _ _ _),.fn _ _ _,.nilf=>some false
 |some (.interface _),.nili,.nili=>if sF y then some true else none
 |some (.interface _),.ifc _ _,.nili=>some false
 |_,_,_=>none
def zV (P:Program)(op:BinOp)(t:TypeId)(y:Operand)(u v:Val):Option Val:=
 match u,v with
 |.int k a,.int k' b=>if oM op then vD op k a b else if k=k' then AZ op k a b else none
 |.str a,.str b=>At op a b
 |u,v=>match op with
  |.eql=>(veq P t y u v).map .bool
  |.neq=>(veq P t y u v).map fun b=>.bool !b
  |_=>none
def vun (op:UnOp)(u:Val):Option Val:=
 match op,u with
 |.neg,.int k n=>some (.int k (k.wrap (0-n)))
 |.xor,.int k n=>some (.int k (k.wrap (BitVec.ofInt k.bits (if k.signed then -1 else k.max) ^^^ BitVec.ofInt k.bits n).toNat))
 |.not,.bool b=>some (.bool !b)
 |_,_=>none
def uZ (P:Program)(src dst:TypeId)(u:Val):Option Val:=
 match P.underlying src,P.underlying dst,u with
 |some _,some (.int k),.int _ n=>some (.int k (k.wrap n))
 |some _,some .string,.str l=>some (.str l)
 |_,_,_=>none
section
variable {P:Program} {F:Fro} {ρ:Pl} {w:World}
theorem lB {s:Sem Value}{k:IntKind}{n:Int}(h:s.run P w=.ok (.int k n) w):∃x,s.run P w=.ok x w∧Rel F ρ (.int k n) x:=⟨_,h,by simp[Rel]⟩
theorem uG {s:Sem Value}{b:Bool}(h:s.run P w=.ok (.bool b) w):∃x,s.run P w=.ok x w∧Rel F ρ (.bool b) x:=⟨_,h,by simp[Rel]⟩
theorem Dx {s:Sem Value}{l:List UInt8}(h:s.run P w=.ok (str l) w):∃x,s.run P w=.ok x w∧Rel F ρ (.str l) x:=⟨_,h,by simp[Rel]⟩
theorem vC {op:BinOp}{k:IntKind}{a b:Int}{v:Val}(hs:oM op=false)(h:AZ op k a b=some v)(t:TypeId):∃x,(binOp op t (.int k a) (.int k b)).run P w=.ok x w∧Rel F ρ v x:=by
 cases op<;>simp[oM] at hs<;>simp only[AZ] at h
 case quo=>
  split at h
  ·
   cases h
  ·
   rename_i h0;cases h;exact lB (by simp[binOp,Op.intDiv,h0])
 case rem=>
  split at h
  ·
   cases h
  ·
   rename_i h0;cases h;exact lB (by simp[binOp,Op.intDiv,h0])
 all_goals
  cases h
  first|exact lB (by simp[binOp,Op.intArith,Op.intBits])|exact uG (by simp[binOp,Op.intCmp])
theorem sG {op:BinOp}{k k':IntKind}{a b:Int}{v:Val}(h:vD op k a b=some v)(t:TypeId):∃x,(binOp op t (.int k a) (.int k' b)).run P w=.ok x w∧Rel F ρ v x:=by
 unfold vD at h
 split at h
 ·
  cases h
 ·
  rename_i h0
  cases op<;>simp at h
  all_goals
   subst h
   exact lB (by simp[binOp,Op.shift,h0])
theorem vL {op:BinOp}{x y:List UInt8}{v:Val}(h:At op x y=some v)(t:TypeId):∃z,(binOp op t (str x) (str y)).run P w=.ok z w∧Rel F ρ v z:=by
 unfold str
 cases op<;>simp only[At] at h
 case add=>
  split at h
  ·
   rename_i h0
   cases h
   refine⟨.string ⟨(x++y).toArray⟩,?_,by simp[Rel,str]⟩
   have:=run_string_add_sum (P:=P) w ⟨x.toArray⟩ ⟨y.toArray⟩ (by simpa[ByteArray.size] using h0)
   simp only[binOp]
   rw[this]
   rfl
  ·
   cases h
 all_goals first
  |(cases h;done)
  |(cases h;exact uG (by simp[binOp,Op.stringOp,ByteArray.toList_mk]))
theorem kd (t:TypeId)(x y:Value):Op.equal t x y=Op.equalIn (9999+1) t x y:=rfl
theorem CE {t e:TypeId}{b o o':Nat}(hd:P.underlying t=some (.pointer e))(hne:((P.info? e).map (·.size)).getD 0≠0) :
  (Op.equal t (.pointer (some ⟨b,o,none⟩)) (.pointer (some ⟨b,o',none⟩))).run P w=.ok (o==o') w:=by
 rw[kd]
 generalize 9999=d
 cases hi:P.info? e with
 |none=>simp[hi] at hne
 |some ie=>
  have hz:ie.size≠0:=by simpa[hi] using hne
  simp only[Op.equalIn,Sem.run_bind,run_underlying hd,Result.andThen_ok]
  have hs:(sizeOf e).run P w=.ok ie.size w:=by simp[sizeOf,typeInfo,hi]
  rw[hs]
  simp only[Result.andThen_ok,hz,if_true,ne_eq,not_false_eq_true,sameAddr,beq_self_eq_true]
  by_cases e1:o=o'
  ·
   subst e1;simp
  ·
   have:((⟨b,o,none⟩:Addr)==⟨b,o',none⟩)=false:=by
    rw[beq_eq_false_iff_ne];intro h;cases h;exact e1 rfl
   simp[this,e1]
theorem rT {t:TypeId}{y:Operand}{u v:Val}{b:Bool}{x z:Value}(h:veq P t y u v=some b)(hu:Rel F ρ u x)(hv:Rel F ρ v z) :
  (Op.equal t x z).run P w=.ok b w∧∀op x',(eqGuard op t x' y x z).run P w=.ok () w:=by
 unfold veq at h
 split at h<;>first|(cases h;done)|skip
 all_goals
  rename_i hd
  simp only[Rel] at hu hv
 case h_5=>
  split at h
  ·
   rename_i hc
   obtain⟨rfl,hne⟩:=hc
   cases h
   obtain⟨L,h1,rfl⟩:=hu
   obtain⟨L',h2,rfl⟩:=hv
   rw[h1] at h2;cases h2
   exact⟨CE hd hne,fun op x'=>by cases op<;>simp[eqGuard]⟩
  ·
   cases h
 case h_7=>
  cases h
  subst hv
  rcases hu with ⟨_,h0,_⟩|⟨_,_,_,_,rfl,_⟩
  ·
   exact absurd h0 (Nat.succ_ne_zero _)
  ·
   exact⟨by rw[kd];generalize 9999=d;simp[Op.equalIn,run_underlying hd],fun op x'=>by cases op<;>simp[eqGuard]⟩
 case h_14=>
  split at h
  ·
   rename_i hc
   cases h;subst hu;subst hv
   refine⟨by rw[kd];generalize 9999=d;simp[Op.equalIn,run_underlying hd],fun op x'=>?_⟩
   cases y<;>simp[sF] at hc
   cases op<;>simp[eqGuard]
  ·
   cases h
 all_goals
  cases h
  (try obtain⟨_,_,_,_,rfl,_⟩:=hu)
  (try obtain⟨_,_,_,rfl,_⟩:=hu)
  (try obtain⟨_,_,_,rfl,_⟩:=hu)
  (try obtain⟨_,_,rfl,_⟩:=hu)
  (try obtain⟨_,_,rfl⟩:=hu)
  (try obtain⟨_,rfl,_⟩:=hu)
  (try subst hu)
  (try subst hv)
  exact⟨by rw[kd];generalize 9999=d;simp[Op.equalIn,run_underlying hd],fun op x'=>by cases op<;>simp[eqGuard]⟩
theorem rV {op:UnOp}{u v:Val}{x:Value}(h:vun op u=some v)(hu:Rel F ρ u x):∃z,(Op.unary op x).run P w=.ok z w∧Rel F ρ v z:=by
 unfold vun at h
 split at h<;>first|(cases h;done)|skip
 all_goals
  cases h
  simp only[Rel] at hu
  subst hu
  first|exact lB (by simp[Op.unary,Op.intArith,Op.intBits])|exact uG (by simp[Op.unary])
theorem nq {src dst:TypeId}{u v:Val}{x:Value}(h:uZ P src dst u=some v)(hu:Rel F ρ u x):∃z,(convert src dst x).run P w=.ok z w∧Rel F ρ v z:=by
 unfold uZ at h
 split at h<;>first|(cases h;done)|skip
 ·
  rename_i hs hd
  cases h
  simp only[Rel] at hu
  subst hu
  exact lB (by simp[convert,run_underlying hs,run_underlying hd,Conv.intToInt])
 ·
  rename_i hs hd
  cases h
  simp only[Rel] at hu
  subst hu
  exact Dx (by simp[convert,run_underlying hs,run_underlying hd,str])
end
end Go.V
end
section
namespace Go.V
open Go
def cV (P:Program)(t:TypeId):Option Bool:=
 match P.underlying t with
 |some (.struct _)|some (.array _ _)=>some true
 |some _=>some false
 |none=>none
def cK (P:Program)(t:TypeId):Option Nat:=(P.info? t).map (·.size)
def fa (P:Program)(t:TypeId):Option Val:=
 match P.info? t with
 |some i=>match i.zero with
  |some z=>ofV z
  |none=>none
 |none=>none
def uB (P:Program)(t:TypeId)(cs:List Val)(off:Nat):Option Val:=
 match cV P t,cK P t with
 |some true,some n=>some (.ag ((cs.drop off).take n))
 |some false,some _=>cs[off]?
 |_,_=>none
def nt (P:Program)(t:TypeId)(h:Heap)(p:Val):Option Val:=
 match iW h p,cV P t,cK P t with
 |some cs,some true,some n=>if n≤cs.length then some (.ag (cs.take n)) else none
 |some cs,some false,some _=>cs[0]?
 |_,_,_=>none
def aX (cs:List Val)(off:Nat)(vc:List Val):List Val:=cs.take off++vc++cs.drop (off+vc.length)
def pz (P:Program)(t:TypeId)(h:Heap)(p v:Val):Option Heap:=
 match p,cK P t with
 |.pr id off,some n=>match get h id with
  |some (.cells cs t' o)=>if (gU v).length=n∧off+n≤cs.length∧ai (gU v)=true then some (put h id (.cells (aX cs off (gU v)) t' o)) else none
  |_=>none
 |_,_=>none
def ph (P:Program)(t:TypeId)(h:Heap)(i:Nat):Option (Val×Heap):=
 match fa P t with
 |some z=>some (.pr i 0,put h i (.cells (gU z) t false))
 |none=>none
def xZ (t:TypeId)(v:Val)(h:Heap)(i:Nat):Val×Heap:=(.pr i 0,put h i (.cells (gU v) t false))
section
variable {P:Program} {F:Fro} {ρ:Pl} {h:Heap} {w0 w:World} {O:Nat→Prop}
theorem ko {t:TypeId}{b:Bool}(hi:cV P t=some b):(isAgg t).run P w=.ok b w:=by
 unfold cV at hi
 unfold isAgg
 split at hi<;>cases hi
 ·
  rename_i _ hd;simp[run_underlying hd]
 ·
  rename_i _ _ hd;simp[run_underlying hd]
 ·
  rename_i d h1 h2 hd
  simp only[Sem.run_bind,run_underlying hd,Result.andThen_ok]
  rfl
theorem bn {t:TypeId}{n:Nat}(hi:cK P t=some n):(sizeOf t).run P w=.ok n w:=by
 unfold cK at hi
 cases hf:P.info? t with
 |none=>rw[hf] at hi;cases hi
 |some i=>rw[hf] at hi;cases hi;simp[sizeOf,typeInfo,hf]
theorem lJ {t:TypeId}{z:Val}(hz:fa P t=some z):∃x,(zeroValue t).run P w=.ok x w∧Rel F ρ z x:=by
 unfold fa at hz
 split at hz
 ·
  rename_i i hi
  split at hz
  ·
   rename_i x hx
   exact⟨x,by simp[zeroValue,typeInfo,hi,hx],sP hz⟩
  ·
   cases hz
 ·
  cases hz
theorem uQ {t:TypeId}{cs:List Val}{xs:Array Value}{off:Nat}{v:Val}(hp:uB P t cs off=some v)(hr:RelL F ρ cs xs.toList):∃x,(part t xs off).run P w=.ok x w∧Rel F ρ v x:=by
 unfold uB at hp
 split at hp
 ·
  rename_i n ha hs
  cases hp
  refine⟨.agg (xs.extract off (off+n)),by simp[part,ko ha,bn hs],?_⟩
  simp only[Rel]
  refine⟨_,rfl,?_⟩
  have:=(hr.drop off).take n
  rw[Array.toList_extract,List.extract_eq_take_drop]
  simpa using this
 ·
  rename_i n ha hs
  obtain⟨x,hx,hrx⟩:=hr.get hp
  exact⟨x,by simp only[part,Sem.run_bind,ko ha,Result.andThen_ok];simp at hx;simp[hx],hrx⟩
 ·
  cases hp
theorem kV (m:Mem P F ρ h w0 O w){t:TypeId}{p v:Val}{x:Value}(hv:nt P t h p=some v)(hr:Rel F ρ p x):∃y,(Instr.loadAt t x).run P w=.ok y w∧Rel F ρ v y:=by
 unfold nt at hv
 split at hv
 ·
  rename_i cs n hc ha hs
  split at hv
  ·
   rename_i hn
   cases hv
   obtain⟨b,o,xs,rfl,hrx,hcell⟩:=m.ptr hr hc
   have hl:(xs.take n).length=n:=by rw[List.length_take,hrx.length];omega
   have:=run_loadCells_list (P:=P) w ⟨b,o,none⟩ (xs.take n) (fun j v hj=>by
    rw[bp]
    rw[List.getElem?_take] at hj
    split at hj
    ·
     exact hcell j v hj
    ·
     cases hj)
   rw[hl] at this
   refine⟨.agg (xs.take n).toArray,by simp[Instr.loadAt,Instr.sureAddr,loadVar,ko ha,bn hs,this],?_⟩
   simp only[Rel]
   exact⟨_,rfl,by simpa using hrx.take n⟩
  ·
   cases hv
 ·
  rename_i cs n hc ha hs
  obtain⟨b,o,xs,rfl,hrx,hcell⟩:=m.ptr hr hc
  obtain⟨y,hy,hry⟩:=hrx.get hv
  have:=hcell 0 y hy
  exact⟨y,by simp[Instr.loadAt,Instr.sureAddr,loadVar,ko ha,show w.cell? ⟨b,o,none⟩=some y from this],hry⟩
 ·
  cases hv
theorem uK {cs vc:List Val}{xs ys:List Value}{off:Nat}(hr:RelL F ρ cs xs)(hv:RelL F ρ vc ys):RelL F ρ (aX cs off vc) (xs.take off++ys++xs.drop (off+ys.length)):=by
 unfold aX
 rw[hv.length]
 exact((hr.take off).append hv).append (hr.drop _)
theorem lK {cs vc:List Val}{off:Nat}(hl:off+vc.length≤cs.length):(aX cs off vc).length=cs.length:=by
 unfold aX
 simp
 omega
theorem Mem.write (m:Mem P F ρ h w0 O w){id off:Nat}{cs vc:List Val}{t:TypeId}{o:Bool}{L:Loc}{ys:List Value}
  (hg:get h id=some (.cells cs t o)) (hL:ρ id=some L) (hl:off+vc.length≤cs.length) (hv:RelL F ρ vc ys) (hc:ai vc=true) :
  ∃w',(storeCells ⟨L.b,off,none⟩ ys).run P w=.ok () w'∧Mem P F ρ (put h id (.cells (aX cs off vc) t o)) w0 O w':=by
 obtain⟨L',x,h1,h2,h3,c,rfl,h5,h6,h7,h8⟩:=m.own id _ hg
 rw[hL] at h1;cases h1
 have hlc:cs.length≤c.size:=by have:=h7.length;simp at this;omega
 have hst:=run_storeCells_at P L.b off t ys 0 c w h3 (by rw[hv.length];omega) (fJ hv hc)
 refine⟨_,hst,m.set (L:=L) (by simp[hg]) hL (x:=.cells (c.toList.take (off+0)++ys++c.toList.drop (off+0+ys.length)).toArray t (0,0)) ?_ ?_ ?_ ?_ rfl rfl rfl⟩
 ·
  refine⟨_,rfl,?_,h6,?_,fun ho=>by rw[lK hl];exact h8 ho⟩
  ·
   rw[←h5];simp[hv.length];omega
  ·
   rw[lK hl]
   have:=uK (off:=off) h7 hv
   have e:(c.toList.take (off+0)++ys++c.toList.drop (off+0+ys.length)).toArray.toList.take cs.length=(c.toList.take cs.length).take off++ys++(c.toList.take cs.length).drop (off+ys.length):=by
    have hy:=hv.length
    apply List.ext_getElem?
    intro k
    simp only[Nat.add_zero,List.getElem?_take,List.getElem?_append,List.length_append,List.length_take,List.getElem?_drop,Array.length_toList]
    by_cases k1:k<cs.length
    ·
     simp only[k1,if_true]
     have e1:min off c.size=off:=by omega
     have e2:min off (min cs.length c.size)=off:=by omega
     simp only[e1,e2]
     by_cases k2:k<off+ys.length
     ·
      simp only[k2,if_true]
     ·
      simp only[k2,if_false]
      have:off+ys.length+(k-(off+ys.length))=k:=by omega
      simp only[this,k1,if_true]
    ·
     simp only[k1,if_false]
     have e2:min off (min cs.length c.size)=off:=by omega
     simp only[e2]
     have k2:¬k<off+ys.length:=by omega
     simp only[k2,if_false]
     have:off+ys.length+(k-(off+ys.length))=k:=by omega
     simp[this,k1]
   rw[e]
   exact this
 ·
  exact setRow_heap w L.b c _ t _ h3
 ·
  simp[World.setRow]
 ·
  intro k hk
  simp[World.setRow,Array.getElem?_modify]
  intro e;exact(hk e.symm).elim
theorem s3 (m:Mem P F ρ h w0 O w){t:TypeId}{p v:Val}{x y:Value}{h':Heap}(hv:pz P t h p v=some h')(hr:Rel F ρ p x)(hr':Rel F ρ v y) :
  ∃w',(Instr.storeAt t x y).run P w=.ok () w'∧Mem P F ρ h' w0 O w':=by
 unfold pz at hv
 split at hv
 ·
  rename_i id off n hs
  split at hv
  ·
   rename_i cs t' o hg
   split at hv
   ·
    rename_i hc
    cases hv
    simp only[Rel] at hr
    obtain⟨L,hL,rfl⟩:=hr
    obtain⟨w',h1,h2⟩:=m.write hg hL (by rw[hc.1];exact hc.2.1) (gM hr') hc.2.2
    have hlen:y.cells.size=n:=by have:=(gM hr').length;simp at this;omega
    exact⟨w',by simp[Instr.storeAt,Instr.sureAddr,storeVar,bn hs,hlen,h1],h2⟩
   ·
    cases hv
  ·
   cases hv
 ·
  cases hv
theorem Mem.row (m:Mem P F ρ h w0 O w){i:Nat}(hi:ρ i=none){t:TypeId}{cs:List Val}{xs:Array Value}(hr:RelL F ρ cs xs.toList) :
  ∃ρ',PLe ρ ρ'∧(∀j,j≠i→ρ' j=ρ j)∧ρ' i=some ⟨w.heap.size,xs.size,P.cellsOf t⟩∧Mem P F ρ' (put h i (.cells cs t false)) w0 O (w.alloc (.cells xs t)):=by
 have hle:=pg (⟨w.heap.size,xs.size,P.cellsOf t⟩:Loc) hi
 have hl:=hr.length
 obtain⟨m',_⟩:=m.alloc (K:=xs.size) (e:=P.cellsOf t) (blk:=.cells cs t false) (x:=.cells xs t) (w':=w.alloc (.cells xs t)) hi
  ⟨xs,rfl,rfl,rfl,by rw[←hl,List.take_length];exact RelL.mono (FLe.refl F) hle _ _ hr,fun _=>by simpa using hl.symm⟩ rfl rfl rfl rfl
 exact⟨_,hle,fun j hj=>by unfold upd;rw[if_neg (fun e=>hj e.symm)],by unfold upd;rw[if_pos rfl],m'⟩
theorem sW (m:Mem P F ρ h w0 O w){t:TypeId}{i:Nat}{v:Val}{h':Heap}(hv:ph P t h i=some (v,h'))(hi:ρ i=none)(old:Value) :
  ∃ρ' x w',(Instr.alloc t true old).run P w=.ok x w'∧PLe ρ ρ'∧(∀j,j≠i→ρ' j=ρ j)∧Rel F ρ' v x∧Mem P F ρ' h' w0 O w':=by
 unfold ph at hv
 split at hv
 ·
  rename_i z hz
  cases hv
  obtain⟨x,hx,hr⟩:=lJ (F:=F) (ρ:=ρ) (w:=w) hz
  obtain⟨ρ',h1,h2,h3,h4⟩:=m.row hi (t:=t) (gM hr)
  refine⟨ρ',.pointer (some ⟨w.heap.size,0,none⟩),_,by simp[Instr.alloc,hx,newVar,newRow],h1,h2,?_,h4⟩
  simp only[Rel]
  exact⟨_,h3,rfl⟩
 ·
  cases hv
theorem vR (m:Mem P F ρ h w0 O w){t:TypeId}{i:Nat}{v:Val}{y:Value}(hr:Rel F ρ v y)(hi:ρ i=none) :
  ∃ρ' x w',(Instr.box t y).run P w=.ok x w'∧PLe ρ ρ'∧(∀j,j≠i→ρ' j=ρ j)∧Rel F ρ' (xZ t v h i).1 x∧Mem P F ρ' (xZ t v h i).2 w0 O w':=by
 obtain⟨ρ',h1,h2,h3,h4⟩:=m.row hi (t:=t) (gM hr)
 refine⟨ρ',.pointer (some ⟨w.heap.size,0,none⟩),_,by simp[Instr.box,newVar,newRow],h1,h2,?_,h4⟩
 simp only[xZ,Rel]
 exact⟨_,h3,rfl⟩
end
end Go.V
end
section
namespace Go.V
open Go
def pX (cs:List Val)(off:Nat):List Val→List Val
 |[]=>cs
 |v::vs=>pX (cs.set off v) (off+1) vs
def pt (place:Nat→Option (Nat×Nat))(cells:List Val):List (Nat×Val)→Option (List Val)
 |[]=>some cells
 |(i,v)::rest=>
  match place i with
  |none=>none
  |some (off,size)=>
   if (gU v).length≠size∨off+(gU v).length>cells.length then none
   else pt place (pX cells off (gU v)) rest
def gC (i:TypeInfo):Option (List Val):=
 match i.zero with
 |some z=>(ofV z).map gU
 |none=>none
def dB (P:Program)(t:TypeId)(parts:List (Nat×Val)):Option (List Val):=
 match P.info? t,P.underlying t with
 |some it,some (.array _ e)=>
  match gC it,P.info? e with
  |some z,some ie=>pt (fun i=>some (i*ie.size,ie.size)) z parts
  |_,_=>none
 |some it,some (.struct fields)=>
  match gC it,fields.toList.mapM (fun f=>(P.info? f.type).map fun i=>(f.offset,i.size)) with
  |some z,some places=>pt (places.toArray[·]?) z parts
  |_,_=>none
 |_,_=>none
def jB (zs:List Val)(n:Nat):List Val:=(List.range n).map fun i=>zs.getD (i % zs.length) uv
def bG (P:Program)(t:TypeId)(len:Nat)(parts:List (Nat×Val))(h:Heap)(i:Nat):Option (Val×Heap):=
 match P.underlying t with
 |some (.slice e)=>match P.info? e with
  |some ie=>match gC ie with
   |some zs=>
    if len*ie.size>16777216∨(len*ie.size≠0∧zs=[]) then none else
    match pt (fun j=>some (j*ie.size,ie.size)) (if len*ie.size=0 then [] else jB zs (len*ie.size)) parts with
    |some cs=>some (.so i 0 len (some len),put h i (.cells cs e false))
    |none=>none
   |none=>none
  |none=>none
 |_=>none
section
variable {P:Program} {F:Fro} {ρ:Pl} {h:Heap} {w0 w:World} {O:Nat→Prop}
def rc (F:Fro)(ρ:Pl):List (Nat×Val)→List (Nat×Value)→Prop
 |[],ys=>ys=[]
 |(i,v)::ps,ys=>∃x zs,ys=(i,x)::zs∧Rel F ρ v x∧rc F ρ ps zs
theorem jS (off:Nat):∀(xs:List Value)(k:Nat)(cs:Array Value),
  (xs.zipIdx k).foldl (fun cs (x:Value×Nat)=>cs.setIfInBounds (off+x.2) x.1) cs=((xs.zipIdx 0).foldl (fun cs (x:Value×Nat)=>cs.setIfInBounds (off+k+x.2) x.1) cs)
 |[],k,cs=>rfl
 |x::xs,k,cs=>by
  simp only[List.zipIdx_cons,List.foldl_cons,Nat.add_zero,Nat.zero_add]
  rw[jS off xs (k+1),jS (off+k) xs 1]
  congr 1
theorem pR:∀{vs cs:List Val}{xs:List Value}{arr:Array Value}{off:Nat},RelL F ρ vs xs→RelL F ρ cs arr.toList→
  RelL F ρ (pX cs off vs) ((xs.zipIdx 0).foldl (fun cs (x:Value×Nat)=>cs.setIfInBounds (off+x.2) x.1) arr).toList
 |[],cs,xs,arr,off,h1,h2=>by simp only[RelL] at h1;subst h1;simpa[pX] using h2
 |v::vs,cs,xs,arr,off,h1,h2=>by
  simp only[RelL] at h1
  obtain⟨y,ys,rfl,h3,h4⟩:=h1
  simp only[pX,List.zipIdx_cons,List.foldl_cons,Nat.add_zero,Nat.zero_add]
  rw[jS off ys 1]
  exact pR h4 (by rw[Array.toList_setIfInBounds];exact h2.set off h3)
theorem mX {place:Nat→Option (Nat×Nat)}:∀{parts:List (Nat×Val)}{cparts:List (Nat×Value)}{cs r:List Val}{arr:Array Value},
  rc F ρ parts cparts→RelL F ρ cs arr.toList→pt place cs parts=some r→∃a,Instr.fill place arr cparts=some a∧RelL F ρ r a.toList
 |[],_,cs,r,arr,hp,hc,h=>by
  simp only[rc] at hp
  subst hp
  simp only[pt] at h
  cases h
  exact⟨arr,rfl,hc⟩
 |(i,v)::parts,_,cs,r,arr,hp,hc,h=>by
  simp only[rc] at hp
  obtain⟨x,rest,rfl,hx,hr⟩:=hp
  simp only[pt] at h
  simp only[Instr.fill]
  cases hpl:place i with
  |none=>simp[hpl] at h
  |some os=>
   obtain⟨off,size⟩:=os
   simp only[hpl] at h ⊢
   have hv:=gM hx
   have hl:=hv.length
   have hl2:=hc.length
   simp only[Array.length_toList] at hl hl2
   split at h
   ·
    cases h
   ·
    rename_i hn
    rw[not_or] at hn
    have e1:¬((x.cells.size≠size||decide (off+x.cells.size>arr.size))=true):=by
     simp only[Bool.or_eq_true,decide_eq_true_eq,not_or]
     omega
    rw[if_neg e1]
    have:=pR (off:=off) hv hc
    refine mX hr ?_ h
    have e2:x.cells.zipIdx.foldl (fun cs (x:Value×Nat)=>cs.setIfInBounds (off+x.2) x.1) arr=((x.cells.toList.zipIdx 0).foldl (fun cs (x:Value×Nat)=>cs.setIfInBounds (off+x.2) x.1) arr):=by
     rw[←Array.foldl_toList,Array.toList_zipIdx]
    rw[e2]
    exact this
theorem gN {i:TypeInfo}{zs:List Val}(h:gC i=some zs):∃z,i.zero=some z∧RelL F ρ zs z.cells.toList:=by
 unfold gC at h
 split at h
 ·
  rename_i z hz
  cases ho:ofV z with
  |none=>rw[ho] at h;cases h
  |some u=>rw[ho] at h;cases h;exact⟨z,hz,gM (sP ho)⟩
 ·
  cases h
theorem mf {t:TypeId}{parts:List (Nat×Val)}{cparts:List (Nat×Value)}{cs:List Val}(h:dB P t parts=some cs)
  (hp:rc F ρ parts cparts):∃x,(Instr.build t cparts.toArray).run P w=.ok x w∧Rel F ρ (.ag cs) x:=by
 have:∃a,P.built t cparts=some a∧RelL F ρ cs a.toList:=by
  unfold dB at h
  unfold Program.built
  split at h
  ·
   rename_i it _ e h1 h2
   simp only[h1,h2]
   split at h
   ·
    rename_i zs ie h3 h4
    obtain⟨z,hz,hr⟩:=gN (F:=F) (ρ:=ρ) h3
    simp only[hz,h4]
    exact mX hp hr h
   ·
    cases h
  ·
   rename_i it fields h1 h2
   simp only[h1,h2]
   split at h
   ·
    rename_i zs places h3 h4
    obtain⟨z,hz,hr⟩:=gN (F:=F) (ρ:=ρ) h3
    simp only[hz,h4]
    exact mX hp hr h
   ·
    cases h
  ·
   cases h
 obtain⟨a,h1,h2⟩:=this
 refine⟨.agg a,run_build w t cparts.toArray a (by simpa using h1),?_⟩
 simp only[Rel]
 exact⟨a,rfl,h2⟩
theorem RelL.ofFn {f:Nat→Val}{g:Nat→Value}(h:∀i,Rel F ρ (f i) (g i)):∀l:List Nat,RelL F ρ (l.map f) (l.map g)
 |[]=>.nil
 |x::l=>.cons (h x) (RelL.ofFn h l)
theorem mY {zs:List Val}{z:Array Value}(n:Nat)(hr:RelL F ρ zs z.toList)(h0:zs≠[]):RelL F ρ (jB zs n) ((Array.range n).map (z[· % z.size]!)).toList:=by
 have e:((Array.range n).map (z[· % z.size]!)).toList=(List.range n).map fun i=>z[i % z.size]!:=by simp
 rw[e]
 have hl:=hr.length
 simp only[Array.length_toList] at hl
 have hp:0<zs.length:=by cases zs with|nil=>exact(h0 rfl).elim|cons a b=>simp
 refine RelL.ofFn (fun i=>?_) _
 have hi:i % zs.length<zs.length:=Nat.mod_lt _ hp
 obtain⟨x,hx,hrx⟩:=hr.get (List.getElem?_eq_getElem hi)
 rw[List.getD_eq_getElem?_getD,List.getElem?_eq_getElem hi,hl]
 have hi':i % zs.length<z.size:=by omega
 simp at hx
 have e2:z[i % zs.length]! = x:=by rw[getElem!_def,hx]
 rw[e2]
 exact hrx
theorem me (m:Mem P F ρ h w0 O w){t:TypeId}{len i:Nat}{parts:List (Nat×Val)}{cparts:List (Nat×Value)}{v:Val}{h':Heap}(hv:bG P t len parts h i=some (v,h'))(hi:ρ i=none)
  (hp:rc F ρ parts cparts) :
  ∃ρ' x w',(Instr.buildSlice t len cparts.toArray).run P w=.ok x w'∧PLe ρ ρ'∧(∀j,j≠i→ρ' j=ρ j)∧Rel F ρ' v x∧Mem P F ρ' h' w0 O w':=by
 unfold bG at hv
 split at hv
 ·
  rename_i e ht
  split at hv
  ·
   rename_i ie hie
   split at hv
   ·
    rename_i zs hz
    split at hv
    ·
     cases hv
    ·
     rename_i hbig
     split at hv
     ·
      rename_i cs hf
      cases hv
      obtain⟨z,hz1,hz2⟩:=gN (F:=F) (ρ:=ρ) hz
      have hsz:(sizeOf e).run P w=.ok ie.size w:=bn (by simp[cK,hie])
      have hzv:(zeroValue e).run P w=.ok z w:=by simp[zeroValue,typeInfo,hie,hz1]
      obtain⟨arr0,har0,hrr⟩:∃arr0:Array Value,arr0=(if len*ie.size=0 then #[] else (Array.range (len*ie.size)).map (z.cells[· % z.cells.size]!))∧RelL F ρ (if len*ie.size=0 then [] else jB zs (len*ie.size)) arr0.toList:=by
       refine⟨_,rfl,?_⟩
       by_cases h0:len*ie.size=0
       ·
        rw[if_pos h0,if_pos h0];exact .nil
       ·
        rw[if_neg h0,if_neg h0]
        exact mY _ hz2 (fun hn=>hbig (.inr ⟨h0,hn⟩))
      obtain⟨a,ha,hra⟩:=mX hp hrr hf
      obtain⟨ρ',h1,h2,h3,h4⟩:=m.row hi (t:=e) hra
      refine⟨ρ',.slice (some ⟨w.heap.size,0,none⟩) len len,_,?_,h1,h2,?_,h4⟩
      ·
       have hb:¬16777216<len*ie.size:=fun hx=>hbig (.inl hx)
       by_cases h0:len*ie.size=0
       ·
        rw[if_pos h0] at har0;subst har0
        have e0:(Array.range 0).map (fun _=>(default:Value))=#[]:=by apply Array.eq_empty_of_size_eq_zero;simp
        simp[Instr.buildSlice,run_underlying ht,hsz,h0,newRow]
        simp[e0,ha]
       ·
        rw[if_neg h0] at har0;subst har0
        simp[Instr.buildSlice,run_underlying ht,hsz,hzv,hb,h0,ha,newRow]
      ·
       simp only[Rel]
       exact⟨_,len,h3,rfl,Nat.le_refl _,fun k' hk=>by cases hk;rfl,fun hn=>by cases hn⟩
     ·
      cases hv
   ·
    cases hv
  ·
   cases hv
 ·
  cases hv
def po (P:Program)(t:TypeId)(p:Val)(f:Nat):Option Val:=
 match P.underlying t with
 |some (.struct fs)=>match fs[f]? with
  |some fd=>match cK P fd.type with
   |some 0=>none
   |some _=>match p with
    |.pp cs=>if fd.offset≤cs.length then some (.pp (cs.drop fd.offset)) else none
    |.pr id off=>some (.pr id (off+fd.offset))
    |_=>none
   |none=>none
  |none=>none
 |_=>none
def pq (P:Program)(t:TypeId)(u:Val)(f:Nat):Option Val:=
 match P.underlying t,u with
 |some (.struct fs),.ag cs=>match fs[f]? with
  |some fd=>uB P fd.type cs fd.offset
  |none=>none
 |_,_=>none
def pv (P:Program)(t:TypeId)(u i:Val):Option Val:=
 match P.underlying t,u,i with
 |some (.slice e),.sl cs n _,.int _ k=>match cK P e with
  |some sz=>if 0≤k∧k<n∧k.toNat*sz≤cs.length then some (.pp (cs.drop (k.toNat*sz))) else none
  |none=>none
 |some (.slice e),.so id off n _,.int _ k=>match cK P e with
  |some sz=>if 0≤k∧k<n then some (.pr id (off+k.toNat*sz)) else none
  |none=>none
 |some (.array n e),.pp cs,.int _ k=>match cK P e with
  |some sz=>if 0≤k∧k<n∧k.toNat*sz≤cs.length then some (.pp (cs.drop (k.toNat*sz))) else none
  |none=>none
 |some (.array n e),.pr id off,.int _ k=>match cK P e with
  |some sz=>if 0≤k∧k<n then some (.pr id (off+k.toNat*sz)) else none
  |none=>none
 |_,_,_=>none
def nM (P:Program)(t:TypeId)(u i:Val):Option Val:=
 match P.underlying t,u,i with
 |some .string,.str l,.int _ k=>if 0≤k then (l[k.toNat]?).map fun b=>.int .u8 b.toNat else none
 |some (.array n e),.ag cs,.int _ k=>match cK P e with
  |some sz=>if 0≤k∧k<n then uB P e cs (k.toNat*sz) else none
  |none=>none
 |_,_,_=>none
def jA (v:Val)(y:Nat):Option Nat:=
 match v with
 |.int _ n=>if 0≤n∧n≤y then some n.toNat else none
 |_=>none
def eE (u:Val)(i:Nat):Option Val:=
 match u with
 |.tp vs=>vs[i]?
 |_=>none
def u4 (u:Val):Option Val:=
 match u with
 |.pp _|.pr _ _|.fn _ _ _=>some u
 |_=>none
theorem sM {o:Nat}{c:Array Value}{cs:List Val}{k:Nat}(hr:RelL F ρ cs ((c.toList.drop o).take cs.length))(_:k≤cs.length) :
  RelL F ρ (cs.drop k) ((c.toList.drop (o+k)).take (cs.drop k).length):=by
 have:=hr.drop k
 rw[List.length_drop]
 rw[List.drop_take,List.drop_drop] at this
 exact this
theorem mg {t:TypeId}{p v:Val}{f:Nat}{x:Value}(hv:po P t p f=some v)(hr:Rel F ρ p x):∃y,(Instr.fieldAt t x f).run P w=.ok y w∧Rel F ρ v y:=by
 unfold po at hv
 split at hv
 ·
  rename_i fs ht
  split at hv
  ·
   rename_i fd hf
   split at hv
   ·
    cases hv
   ·
    rename_i n hn hs
    have hsz:=bn (P:=P) (w:=w) hs
    have hn0:n≠0:=fun e=>hn e
    split at hv
    ·
     rename_i cs
     split at hv
     ·
      rename_i hle
      cases hv
      simp only[Rel] at hr
      obtain⟨b,o,c,rfl,h1,h2⟩:=hr
      refine⟨.pointer (some ⟨b,o+fd.offset,none⟩),by simp[Instr.fieldAt,run_underlying ht,hf,Instr.sureAddr,fieldPlace,hsz,hn0,bp],?_⟩
      simp only[Rel]
      exact⟨b,_,c,rfl,h1,sM h2 hle⟩
     ·
      cases hv
    ·
     rename_i id off
     cases hv
     simp only[Rel] at hr
     obtain⟨L,h1,rfl⟩:=hr
     refine⟨.pointer (some ⟨L.b,off+fd.offset,none⟩),by simp[Instr.fieldAt,run_underlying ht,hf,Instr.sureAddr,fieldPlace,hsz,hn0,bp],?_⟩
     simp only[Rel]
     exact⟨L,h1,rfl⟩
    ·
     cases hv
   ·
    cases hv
  ·
   cases hv
 ·
  cases hv
theorem mh {t:TypeId}{u v:Val}{f:Nat}{x:Value}(hv:pq P t u f=some v)(hr:Rel F ρ u x):∃y,(Instr.field t x f).run P w=.ok y w∧Rel F ρ v y:=by
 unfold pq at hv
 split at hv
 ·
  rename_i fs cs ht
  split at hv
  ·
   rename_i fd hf
   simp only[Rel] at hr
   obtain⟨xs,rfl,h2⟩:=hr
   obtain⟨y,h3,h4⟩:=uQ (w:=w) hv h2
   exact⟨y,by simp[Instr.field,run_underlying ht,hf,asAgg,h3],h4⟩
  ·
   cases hv
 ·
  cases hv
theorem mj {t:TypeId}{u i v:Val}{x y:Value}(hv:pv P t u i=some v)(hr:Rel F ρ u x)(hi:Rel F ρ i y):∃z,(Instr.indexAt t x y).run P w=.ok z w∧Rel F ρ v z:=by
 unfold pv at hv
 split at hv
 ·
  rename_i e cs n _ k0 k ht
  split at hv
  ·
   rename_i sz hs
   have hsz:=bn (P:=P) (w:=w) hs
   split at hv
   ·
    rename_i hk
    cases hv
    simp only[Rel] at hr hi
    rcases hr with ⟨_,h0,_⟩|⟨b,o,c,kk,rfl,h1,h2,h3,h4⟩
    ·
     omega
    subst hi
    refine⟨.pointer (some ⟨b,o+k.toNat*sz,none⟩),by simp[Instr.indexAt,asIntOf,run_underlying ht,hk.1,hk.2.1,hsz,bp],?_⟩
    simp only[Rel]
    exact⟨b,_,c,rfl,h3,sM h4 hk.2.2⟩
   ·
    cases hv
  ·
   cases hv
 ·
  rename_i e id off n _ k0 k ht
  split at hv
  ·
   rename_i sz hs
   have hsz:=bn (P:=P) (w:=w) hs
   split at hv
   ·
    rename_i hk
    cases hv
    simp only[Rel] at hr hi
    obtain⟨L,kk,h1,rfl,h2⟩:=hr
    subst hi
    refine⟨.pointer (some ⟨L.b,off+k.toNat*sz,none⟩),by simp[Instr.indexAt,asIntOf,run_underlying ht,hk.1,hk.2,hsz,bp],?_⟩
    simp only[Rel]
    exact⟨L,h1,rfl⟩
   ·
    cases hv
  ·
   cases hv
 ·
  rename_i n e cs k0 k ht
  split at hv
  ·
   rename_i sz hs
   have hsz:=bn (P:=P) (w:=w) hs
   split at hv
   ·
    rename_i hk
    cases hv
    simp only[Rel] at hr hi
    obtain⟨b,o,c,rfl,h3,h4⟩:=hr
    subst hi
    refine⟨.pointer (some ⟨b,o+k.toNat*sz,none⟩),by simp[Instr.indexAt,asIntOf,Instr.sureAddr,run_underlying ht,hk.1,hk.2.1,hsz,bp],?_⟩
    simp only[Rel]
    exact⟨b,_,c,rfl,h3,sM h4 hk.2.2⟩
   ·
    cases hv
  ·
   cases hv
 ·
  rename_i n e id off k0 k ht
  split at hv
  ·
   rename_i sz hs
   have hsz:=bn (P:=P) (w:=w) hs
   split at hv
   ·
    rename_i hk
    cases hv
    simp only[Rel] at hr hi
    obtain⟨L,h1,rfl⟩:=hr
    subst hi
    refine⟨.pointer (some ⟨L.b,off+k.toNat*sz,none⟩),by simp[Instr.indexAt,asIntOf,Instr.sureAddr,run_underlying ht,hk.1,hk.2,hsz,bp],?_⟩
    simp only[Rel]
    exact⟨L,h1,rfl⟩
   ·
    cases hv
  ·
   cases hv
 ·
  cases hv
theorem ml {t:TypeId}{u i v:Val}{x y:Value}(hv:nM P t u i=some v)(hr:Rel F ρ u x)(hi:Rel F ρ i y):∃z,(Instr.index t x y).run P w=.ok z w∧Rel F ρ v z:=by
 unfold nM at hv
 split at hv
 ·
  rename_i l k0 k ht
  split at hv
  ·
   rename_i hk
   cases hb:l[k.toNat]? with
   |none=>rw[hb] at hv;cases hv
   |some b=>
    rw[hb] at hv
    cases hv
    simp only[Rel] at hr hi
    subst hr;subst hi
    have hb2:(⟨l.toArray⟩:ByteArray)[k.toNat]?=some b:=by
     have hlt:k.toNat<l.length:=by
      rcases Nat.lt_or_ge k.toNat l.length with h'|h'
      ·
       exact h'
      ·
       rw[List.getElem?_eq_none h'] at hb;cases hb
     have:l[k.toNat]=b:=by rw[List.getElem?_eq_getElem hlt] at hb;simpa using hb
     have hlt2:k.toNat<(⟨l.toArray⟩:ByteArray).size:=by simpa[ByteArray.size] using hlt
     rw[getElem?_pos (⟨l.toArray⟩:ByteArray) k.toNat hlt2]
     congr 1
    exact⟨.int .u8 b.toNat,by simp[Instr.index,asIntOf,run_underlying ht,str,hk,hb2],by simp[Rel]⟩
  ·
   cases hv
 ·
  rename_i n e cs k0 k ht
  split at hv
  ·
   rename_i sz hs
   have hsz:=bn (P:=P) (w:=w) hs
   split at hv
   ·
    rename_i hk
    simp only[Rel] at hr hi
    obtain⟨xs,rfl,h2⟩:=hr
    subst hi
    obtain⟨z,h3,h4⟩:=uQ (w:=w) hv h2
    exact⟨z,by simp[Instr.index,asIntOf,run_underlying ht,hk.1,hk.2,hsz,h3],h4⟩
   ·
    cases hv
  ·
   cases hv
 ·
  cases hv
theorem kU {u v:Val}{i:Nat}{x:Value}(hv:eE u i=some v)(hr:Rel F ρ u x):∃z,(Instr.extract x i).run P w=.ok z w∧Rel F ρ v z:=by
 unfold eE at hv
 split at hv
 ·
  simp only[Rel] at hr
  obtain⟨xs,rfl,h2⟩:=hr
  obtain⟨z,h3,h4⟩:=h2.get hv
  simp at h3
  exact⟨z,by simp[Instr.extract,h3],h4⟩
 ·
  cases hv
end
end Go.V
end
