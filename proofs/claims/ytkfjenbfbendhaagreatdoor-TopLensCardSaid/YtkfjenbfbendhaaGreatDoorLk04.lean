/-
  A part of a proof: V8 V9.
-/
import Derived.Test.YtkfjenbfbendhaaGreatDoorLk03
import Derived.Laws.StructEq
set_option linter.unusedSimpArgs false
set_option linter.unusedVariables false
section
namespace Go.V
open Go
def zZ (P:Program)(t:TypeId)(h:Heap)(u:Val):Option Val:=
 match P.underlying t,u with
 |some .string,.str l=>some (.int .i64 l.length)
 |some (.array n _),_=>some (.int .i64 n)
 |some (.slice _),.nils=>some (.int .i64 0)
 |some (.slice _),.sl _ n _=>some (.int .i64 n)
 |some (.slice _),.sle=>some (.int .i64 0)
 |some (.slice _),.so _ _ n _=>some (.int .i64 n)
 |some (.map _ _),.nilm=>some (.int .i64 0)
 |some (.map _ _),.mp id=>match get h id with
  |some (.map es)=>some (.int .i64 es.length)
  |_=>none
 |_,_=>none
def zW (P:Program)(t:TypeId)(u:Val):Option Val:=
 match P.underlying t,u with
 |some (.slice _),.nils=>some (.int .i64 0)
 |some (.slice _),.sl _ _ (some n)=>some (.int .i64 n)
 |some (.slice _),.so _ _ _ (some n)=>some (.int .i64 n)
 |_,_=>none
def u0:Val→Val→Option Val
 |.int k x,.int k' y=>if k=k' then some (.int k (if y>x then y else x)) else none
 |_,_=>none
def wd:Val→Val→Option Val
 |.int k x,.int k' y=>if k=k' then some (.int k (if y<x then y else x)) else none
 |_,_=>none
def pl (P:Program)(t tx:TypeId)(h:Heap)(d s:Val):Option (Val×Heap):=
 match P.underlying t with
 |some (.slice e)=>match cK P e with
  |some sz=>match ei P tx h s sz with
   |some (news,m)=>
    match d with
    |.nils=>some (.int .i64 0,h)
    |.so id off n _=>match get h id with
     |some (.cells cs e' o)=>if off+(min m n)*sz≤cs.length then some (.int .i64 (min m n:Nat),put h id (.cells (aX cs off (news.take ((min m n)*sz))) e' o)) else none
     |_=>none
    |_=>none
   |none=>none
  |none=>none
 |_=>none
def nc:Val→Val→Option Bool
 |.int k a,.int k' b=>if k=k' then some (a==b) else none
 |.str a,.str b=>some (a==b)
 |.bool a,.bool b=>some (a==b)
 |_,_=>none
def iZ (k:Val):List (Val×Val)→Nat→Option (Option (Nat×Val))
 |[],_=>some none
 |(k',v)::es,i=>match nc k k' with
  |some true=>some (some (i,v))
  |some false=>iZ k es (i+1)
  |none=>none
def fY (P:Program)(t:TypeId)(k:Val):Bool:=
 match P.underlying t,k with
 |some .string,.str _=>true
 |some (.int _),.int _ _=>true
 |some .bool,.bool _=>true
 |_,_=>false
def i7 (P:Program)(t:TypeId)(h:Heap)(u k:Val)(ok:Bool):Option Val:=
 match P.underlying t with
 |some (.map kt et)=>if fY P kt k=true then
   match (match u with|.nilm=>some []|.mp id=>(match get h id with|some (.map es)=>some es|_=>none)|_=>none),fa P et with
   |some es,some z=>match iZ k es 0 with
    |some (some (_,v))=>some (if ok then .tp [v,.bool true] else v)
    |some none=>some (if ok then .tp [z,.bool false] else z)
    |none=>none
   |_,_=>none
  else none
 |_=>none
def gW (P:Program)(t:TypeId)(h:Heap)(u k v:Val):Option Heap:=
 match P.underlying t,u with
 |some (.map kt _),.mp id=>if fY P kt k=true then
   match get h id with
   |some (.map es)=>match iZ k es 0 with
    |some (some (i,_))=>some (put h id (.map (es.set i (k,v))))
    |some none=>some (put h id (.map (es++[(k,v)])))
    |none=>none
   |_=>none
  else none
 |_,_=>none
def jg (P:Program)(t:TypeId)(h:Heap)(u k:Val):Option Heap:=
 match P.underlying t,u with
 |some (.map kt _),.mp id=>if fY P kt k=true then
   match get h id with
   |some (.map es)=>match iZ k es 0 with
    |some (some (i,_))=>some (put h id (.map (es.eraseIdx i)))
    |some none=>some h
    |none=>none
   |_=>none
  else none
 |some (.map kt _),.nilm=>if fY P kt k=true then some h else none
 |_,_=>none
section
variable {P:Program} {F:Fro} {ρ:Pl} {h:Heap} {w0 w:World} {O:Nat→Prop}
theorem MapRel.length:∀{es:List (Val×Val)}{xs:List MapEntry},MapRel F ρ es xs→xs.length=es.length
 |[],xs,h=>by simp only[MapRel] at h;subst h;rfl
 |(k,v)::es,xs,h=>by
  simp only[MapRel] at h
  obtain⟨y,ys,rfl,_,_,_,h4⟩:=h
  simp[MapRel.length h4]
theorem MapRel.get:∀{es:List (Val×Val)}{xs:List MapEntry},MapRel F ρ es xs→∀{i:Nat}{k v:Val},es[i]?=some (k,v)→∃y,xs[i]?=some y∧Rel F ρ k y.key∧Rel F ρ v y.val
 |[],xs,h,i,k,v,hi=>by simp at hi
 |(k',v')::es,xs,h,i,k,v,hi=>by
  simp only[MapRel] at h
  obtain⟨y,ys,rfl,h1,h2,h3,h4⟩:=h
  cases i with
  |zero=>simp at hi;obtain⟨rfl,rfl⟩:=hi;exact⟨y,rfl,h1,h3⟩
  |succ i=>simp at hi;simpa using MapRel.get h4 hi
theorem MapRel.set:∀{es:List (Val×Val)}{xs:List MapEntry},MapRel F ρ es xs→∀(i:Nat){k v:Val}{e:MapEntry},Rel F ρ k e.key→k.flat=true→Rel F ρ v e.val→MapRel F ρ (es.set i (k,v)) (xs.set i e)
 |[],xs,h,i,k,v,e,_,_,_=>by simp only[MapRel] at h;subst h;simp[MapRel]
 |(k',v')::es,xs,h,i,k,v,e,h1,h2,h3=>by
  simp only[MapRel] at h
  obtain⟨y,ys,rfl,g1,g2,g3,g4⟩:=h
  cases i with
  |zero=>simp only[List.set_cons_zero,MapRel];exact⟨e,ys,rfl,h1,h2,h3,g4⟩
  |succ i=>simp only[List.set_cons_succ,MapRel];exact⟨y,_,rfl,g1,g2,g3,MapRel.set g4 i h1 h2 h3⟩
theorem MapRel.snoc:∀{es:List (Val×Val)}{xs:List MapEntry},MapRel F ρ es xs→∀{k v:Val}{e:MapEntry},Rel F ρ k e.key→k.flat=true→Rel F ρ v e.val→MapRel F ρ (es++[(k,v)]) (xs++[e])
 |[],xs,h,k,v,e,h1,h2,h3=>by simp only[MapRel] at h;subst h;simp only[List.nil_append,MapRel];exact⟨e,[],rfl,h1,h2,h3,rfl⟩
 |(k',v')::es,xs,h,k,v,e,h1,h2,h3=>by
  simp only[MapRel] at h
  obtain⟨y,ys,rfl,g1,g2,g3,g4⟩:=h
  simp only[List.cons_append,MapRel]
  exact⟨y,_,rfl,g1,g2,g3,MapRel.snoc g4 h1 h2 h3⟩
theorem MapRel.erase:∀{es:List (Val×Val)}{xs:List MapEntry},MapRel F ρ es xs→∀(i:Nat),MapRel F ρ (es.eraseIdx i) (xs.eraseIdx i)
 |[],xs,h,i=>by simp only[MapRel] at h;subst h;simp[MapRel]
 |(k',v')::es,xs,h,i=>by
  simp only[MapRel] at h
  obtain⟨y,ys,rfl,g1,g2,g3,g4⟩:=h
  cases i with
  |zero=>simpa using g4
  |succ i=>simp only[List.eraseIdx_cons_succ,MapRel];exact⟨y,_,rfl,g1,g2,g3,MapRel.erase g4 i⟩
theorem BU {a b:List UInt8}:((⟨a.toArray⟩:ByteArray)==⟨b.toArray⟩)=(a==b):=by
 rw[beq_toListBytes,ByteArray.toList_mk,ByteArray.toList_mk]
theorem te {k k':Val}{b:Bool}{x x':Value}{d:TypeDesc}(hd:d=.string∨d=.bool∨∃q,d=.int q)(hk:nc k k'=some b)(hp:(d=.string∧∃l,k=.str l)∨(d=.bool∧∃l,k=.bool l)∨((∃q,d=.int q)∧∃q n,k=.int q n))
  (h1:Rel F ρ k x) (h2:Rel F ρ k' x'):Instr.sameNow d x x'=some b∧(b=true→x=x'):=by
 unfold nc at hk
 split at hk
 ·
  rename_i q a q' b'
  split at hk
  ·
   rename_i hq
   cases hk
   subst hq
   simp only[Rel] at h1 h2
   subst h1;subst h2
   rcases hp with ⟨_,l,hl⟩|⟨_,l,hl⟩|⟨⟨q2,rfl⟩,_⟩
   ·
    cases hl
   ·
    cases hl
   ·
    exact⟨by simp[Instr.sameNow],fun hb=>by simp at hb;rw[hb]⟩
  ·
   cases hk
 ·
  cases hk
  simp only[Rel,str] at h1 h2
  subst h1;subst h2
  rcases hp with ⟨rfl,l,hl⟩|⟨_,l,hl⟩|⟨⟨q2,rfl⟩,_,_,hl⟩
  ·
   exact⟨by simp only[Instr.sameNow,BU],fun hb=>by simp at hb;rw[hb]⟩
  ·
   cases hl
  ·
   cases hl
 ·
  cases hk
  simp only[Rel] at h1 h2
  subst h1;subst h2
  rcases hp with ⟨_,l,hl⟩|⟨rfl,l,hl⟩|⟨⟨q2,rfl⟩,_,_,hl⟩
  ·
   cases hl
  ·
   exact⟨by simp only[Instr.sameNow],fun hb=>by simp at hb;rw[hb]⟩
  ·
   cases hl
 ·
  cases hk
def KeyFit (d:TypeDesc)(k:Val):Prop:=(d=.string∧∃l,k=.str l)∨(d=.bool∧∃l,k=.bool l)∨((∃q,d=.int q)∧∃q n,k=.int q n)
theorem KeyFit.desc {d:TypeDesc}{k:Val}(h:KeyFit d k):d=.string∨d=.bool∨∃q,d=.int q:=by
 rcases h with ⟨h,_⟩|⟨h,_⟩|⟨h,_⟩
 ·
  exact .inl h
 ·
  exact .inr (.inl h)
 ·
  exact .inr (.inr h)
theorem KeyFit.flat {d:TypeDesc}{k:Val}(h:KeyFit d k):k.flat=true:=by
 rcases h with ⟨_,l,rfl⟩|⟨_,l,rfl⟩|⟨_,l,m,rfl⟩<;>rfl
theorem iA {t:TypeId}{k:Val}(h:fY P t k=true):∃d,P.underlying t=some d∧KeyFit d k:=by
 unfold fY at h
 split at h
 ·
  rename_i l ht;exact⟨_,ht,.inl ⟨rfl,_,rfl⟩⟩
 ·
  rename_i ht;exact⟨_,ht,.inr (.inr ⟨⟨_,rfl⟩,_,_,rfl⟩)⟩
 ·
  rename_i ht;exact⟨_,ht,.inr (.inl ⟨rfl,_,rfl⟩)⟩
 ·
  cases h
theorem nr {d:TypeDesc}{k:Val}{x:Value}(hf:KeyFit d k)(hk:Rel F ρ k x):∀{es:List (Val×Val)}{xs:List MapEntry}{i:Nat}{r:Option (Nat×Val)},MapRel F ρ es xs→iZ k es i=some r→
  ∃r',Instr.findNow d x xs i=some r'∧(match r,r' with|none,none=>True|some (j,v),some (j',y)=>j=j'∧Rel F ρ v y∧i≤j∧∃e,xs[j-i]?=some e∧e.key=x|_,_=>False)
 |[],xs,i,r,hm,h=>by
  simp only[MapRel] at hm
  subst hm
  simp only[iZ] at h
  cases h
  exact⟨none,rfl,trivial⟩
 |(k',v)::es,xs,i,r,hm,h=>by
  simp only[MapRel] at hm
  obtain⟨y,ys,rfl,g1,g2,g3,g4⟩:=hm
  simp only[iZ] at h
  cases hq:nc k k' with
  |none=>rw[hq] at h;cases h
  |some b=>
   rw[hq] at h
   obtain⟨e1,e2⟩:=te hf.desc hq hf hk g1
   cases b with
   |true=>
    cases h
    refine⟨some (i,y.val),by simp only[Instr.findNow,e1],rfl,g3,Nat.le_refl _,y,by simp,(e2 rfl).symm⟩
   |false=>
    obtain⟨r',h1,h2⟩:=nr hf hk g4 h
    refine⟨r',by simp only[Instr.findNow,e1];exact h1,?_⟩
    revert h2
    cases r with
    |none=>cases r'<;>exact id
    |some p=>
     obtain⟨j,v'⟩:=p
     cases r' with
     |none=>exact id
     |some p'=>
      rintro⟨a1,a2,a3,e,a4,a5⟩
      refine⟨a1,a2,by omega,e,?_,a5⟩
      have:j-i=(j-(i+1))+1:=by omega
      rw[this,List.getElem?_cons_succ]
      exact a4
theorem dx {t:TypeId}{k:Val}{x:Value}{d:TypeDesc}(ht:P.underlying t=some d)(hf:KeyFit d k)(hk:Rel F ρ k x)(b:Bool):(Instr.checkKey b 10000 t x).run P w=.ok () w:=by
 show(Instr.checkKey b (9999+1) t x).run P w=.ok () w
 generalize 9999=n
 rcases hf with ⟨rfl,l,rfl⟩|⟨rfl,l,rfl⟩|⟨⟨q,rfl⟩,l,m,rfl⟩<;>simp only[Rel,str] at hk<;>subst hk<;>simp[Instr.checkKey,run_underlying ht]
theorem fj {t:TypeId}{k:Val}{x:Value}{d:TypeDesc}(ht:P.underlying t=some d)(hf:KeyFit d k)(hk:Rel F ρ k x){es:List (Val×Val)}{xs:List MapEntry}{r:Option (Nat×Val)}(hm:MapRel F ρ es xs)(h:iZ k es 0=some r) :
  ∃r',(Instr.findKey t x xs).run P w=.ok r' w∧(match r,r' with|none,none=>True|some (j,v),some (j',y)=>j=j'∧Rel F ρ v y∧∃e,xs[j]?=some e∧e.key=x|_,_=>False):=by
 obtain⟨r',h1,h2⟩:=nr hf hk hm h
 refine⟨r',by simp[Instr.findKey,run_underlying ht,h1],?_⟩
 revert h2
 cases r with
 |none=>cases r'<;>exact id
 |some p=>
  obtain⟨j,v'⟩:=p
  cases r' with
  |none=>exact id
  |some p'=>
   rintro⟨a1,a2,a3,e,a4,a5⟩
   exact⟨a1,a2,e,by simpa using a4,a5⟩
theorem qS {d:TypeDesc}{k:Val}{x:Value}(hf:KeyFit d k)(hk:Rel F ρ k x)(n:Nat):Instr.sameBits n x x=true:=by
 rcases hf with ⟨rfl,l,rfl⟩|⟨rfl,l,rfl⟩|⟨⟨q,rfl⟩,l,m,rfl⟩<;>simp only[Rel,str] at hk<;>subst hk<;>cases n<;>simp[Instr.sameBits,BU]
theorem nu (m:Mem P F ρ h w0 O w){t:TypeId}{u k v:Val}{ok:Bool}{x y:Value}(hv:i7 P t h u k ok=some v)(hr:Rel F ρ u x)(hk:Rel F ρ k y):∃z,(Instr.lookup t x y ok).run P w=.ok z w∧Rel F ρ v z:=by
 unfold i7 at hv
 split at hv
 ·
  rename_i kt et ht
  split at hv
  ·
   rename_i hpk
   obtain⟨d,hd,hf⟩:=iA hpk
   split at hv
   ·
    rename_i es z hes hz
    obtain⟨zx,hzx,hzr⟩:=lJ (F:=F) (ρ:=ρ) (w:=w) hz
    have:∃ents:Array MapEntry,MapRel F ρ es ents.toList∧((x=.map none∧ents=#[])∨∃r clock,x=.map (some r)∧w.heap[r]?=some (.map ents clock)):=by
     split at hes
     ·
      cases hes
      simp only[Rel] at hr
      exact⟨#[],by simp[MapRel],.inl ⟨hr,rfl⟩⟩
     ·
      split at hes
      ·
       rename_i es' hg
       cases hes
       simp only[Rel] at hr
       obtain⟨L,h1,rfl⟩:=hr
       obtain⟨L',q,q1,q2,q3,ents,clock,rfl,q5,hborn⟩:=m.own _ _ hg
       rw[h1] at q1;cases q1
       exact⟨ents,q5,.inr ⟨L.b,clock,rfl,q3⟩⟩
      ·
       cases hes
     ·
      cases hes
    obtain⟨ents,hm,hK⟩:=this
    split at hv
    ·
     rename_i j v' hfi
     cases hv
     obtain⟨r',g1,g2⟩:=fj (w:=w) hd hf hk hm hfi
     cases r' with
     |none=>exact g2.elim
     |some p=>
      obtain⟨j',yv⟩:=p
      obtain⟨_,g3,_⟩:=g2
      refine⟨if ok then .tuple #[yv,.bool true] else yv,?_,?_⟩
      ·
       rcases hK with ⟨rfl,rfl⟩|⟨r,clock,rfl,hh⟩
       ·
        simp at g1
        simp[Instr.lookup,run_underlying ht,dx hd hf hk,g1]
       ·
        simp[Instr.lookup,run_underlying ht,getObj,Sem.run,hh,dx hd hf hk,g1]
      ·
       cases ok
       ·
        exact g3
       ·
        simp only[if_true,Rel];exact⟨_,rfl,.cons g3 (.one (by simp[Rel]))⟩
    ·
     rename_i hfi
     cases hv
     obtain⟨r',g1,g2⟩:=fj (w:=w) hd hf hk hm hfi
     cases r' with
     |some p=>exact g2.elim
     |none=>
      refine⟨if ok then .tuple #[zx,.bool false] else zx,?_,?_⟩
      ·
       rcases hK with ⟨rfl,rfl⟩|⟨r,clock,rfl,hh⟩
       ·
        simp at g1
        simp[Instr.lookup,run_underlying ht,dx hd hf hk,g1,hzx]
       ·
        simp[Instr.lookup,run_underlying ht,getObj,Sem.run,hh,dx hd hf hk,g1,hzx]
      ·
       cases ok
       ·
        exact hzr
       ·
        simp only[if_true,Rel];exact⟨_,rfl,.cons hzr (.one (by simp[Rel]))⟩
    ·
     cases hv
   ·
    cases hv
  ·
   cases hv
 ·
  cases hv
theorem jm (k v:Value):∀(l:List MapEntry)(j:Nat),(l.modify j fun e=>{e with key:=k,val:=v}).map (·.born)=l.map (·.born)
 |[],j=>by simp
 |x::l,0=>by simp[List.modify_cons]
 |x::l,j+1=>by simp[jm k v l j]
theorem Mem.setMap (m:Mem P F ρ h w0 O w){id:Nat}{es es':List (Val×Val)}{L:Loc}{ents:Array MapEntry}{clock:Nat}(hg:get h id=some (.map es))(hL:ρ id=some L)(hm:MapRel F ρ es' ents.toList)(hborn:Born ents clock) :
  Mem P F ρ (put h id (.map es')) w0 O {w with heap:=w.heap.setIfInBounds L.b (.map ents clock)}:=by
 obtain⟨L',q,q1,q2,q3,q4⟩:=m.own _ _ hg
 rw[hL] at q1;cases q1
 have hlt:=dN q3
 refine m.set (L:=L) (by simp[hg]) hL (x:=.map ents clock) ⟨ents,clock,rfl,hm,hborn⟩ (by simp[hlt]) (by simp) (fun k hk=>?_) rfl rfl rfl
 rw[Array.getElem?_setIfInBounds_ne (fun e=>hk e.symm)]
theorem sZ (m:Mem P F ρ h w0 O w){t:TypeId}{u k v:Val}{x y z:Value}{h':Heap}(hv:gW P t h u k v=some h')(hr:Rel F ρ u x)(hk:Rel F ρ k y)(hz:Rel F ρ v z) :
  ∃w',(Instr.mapUpdate t x y z).run P w=.ok () w'∧Mem P F ρ h' w0 O w':=by
 unfold gW at hv
 split at hv
 ·
  rename_i kt et id ht
  split at hv
  ·
   rename_i hpk
   obtain⟨d,hd,hf⟩:=iA hpk
   split at hv
   ·
    rename_i es hg
    simp only[Rel] at hr
    obtain⟨L,h1,rfl⟩:=hr
    obtain⟨L',q,q1,q2,q3,ents,clock,rfl,q5,hborn⟩:=m.own _ _ hg
    rw[h1] at q1;cases q1
    split at hv
    ·
     rename_i j v' hfi
     cases hv
     obtain⟨r',g1,g2⟩:=fj (w:=w) hd hf hk q5 hfi
     cases r' with
     |none=>exact g2.elim
     |some p=>
      obtain⟨j',yv⟩:=p
      obtain⟨rfl,g3,e,g4,g5⟩:=g2
      simp only[Array.getElem?_toList] at g4
      have hms:MapRel F ρ (es.set j (k,v)) ((ents.modify j fun e=>{e with key:=y,val:=z}).toList):=by
       rw[Array.toList_modify]
       have:ents.toList.modify j (fun e=>{e with key:=y,val:=z})=ents.toList.set j {e with key:=y,val:=z}:=by
        rw[List.modify_eq_set]
        simp[g4]
       rw[this]
       exact q5.set j hk hf.flat hz
      refine⟨_,?_,m.setMap (clock:=clock) hg h1 hms (hborn.same (by rw[Array.toList_modify];exact jm _ _ _ _))⟩
      simp[Instr.mapUpdate,run_underlying ht,getObj,Sem.run,q3,dx hd hf hk,g1,g4,g5,Instr.keyThatStays,qS hf hk,setObj]
    ·
     rename_i hfi
     cases hv
     obtain⟨r',g1,g2⟩:=fj (w:=w) hd hf hk q5 hfi
     cases r' with
     |some p=>exact g2.elim
     |none=>
      have hms:MapRel F ρ (es++[(k,v)]) ((ents.push {key:=y,val:=z,born:=clock}).toList):=by
       rw[Array.toList_push]
       exact q5.snoc hk hf.flat hz
      refine⟨_,?_,m.setMap (clock:=clock+1) hg h1 hms (hborn.push _ _)⟩
      simp[Instr.mapUpdate,run_underlying ht,getObj,Sem.run,q3,dx hd hf hk,g1,setObj]
    ·
     cases hv
   ·
    cases hv
  ·
   cases hv
 ·
  cases hv
theorem qT (m:Mem P F ρ h w0 O w){t tt ty:TypeId}{u k:Val}{x y:Value}{h':Heap}(hv:jg P t h u k=some h')(hr:Rel F ρ u x)(hk:Rel F ρ k y) :
  ∃w',(Builtin.delete_ #[t,tt] ty #[x,y]).run P w=.ok undef w'∧Mem P F ρ h' w0 O w':=by
 unfold jg at hv
 split at hv
 ·
  rename_i kt et id ht
  split at hv
  ·
   rename_i hpk
   obtain⟨d,hd,hf⟩:=iA hpk
   split at hv
   ·
    rename_i es hg
    simp only[Rel] at hr
    obtain⟨L,h1,rfl⟩:=hr
    obtain⟨L',q,q1,q2,q3,ents,clock,rfl,q5,hborn⟩:=m.own _ _ hg
    rw[h1] at q1;cases q1
    split at hv
    ·
     rename_i j v' hfi
     cases hv
     obtain⟨r',g1,g2⟩:=fj (w:=w) hd hf hk q5 hfi
     cases r' with
     |none=>exact g2.elim
     |some p=>
      obtain⟨j',yv⟩:=p
      obtain⟨rfl,g3,e,g4,g5⟩:=g2
      have hms:MapRel F ρ (es.eraseIdx j) ((ents.eraseIdxIfInBounds j).toList):=by
       have:(ents.eraseIdxIfInBounds j).toList=ents.toList.eraseIdx j:=by simp
       rw[this]
       exact q5.erase j
      refine⟨_,?_,m.setMap (clock:=clock) hg h1 hms (hborn.sub (by simpa using List.eraseIdx_sublist _ _))⟩
      simp[Builtin.delete_,run_underlying ht,getObj,Sem.run,q3,dx hd hf hk,g1,setObj,undef]
    ·
     rename_i hfi
     cases hv
     obtain⟨r',g1,g2⟩:=fj (w:=w) hd hf hk q5 hfi
     cases r' with
     |some p=>exact g2.elim
     |none=>
      refine⟨{w with heap:=w.heap.setIfInBounds L.b (.map ents clock)},?_,(m.setMap (clock:=clock) hg h1 q5 hborn).sub fun j b hj=>?_⟩
      ·
       simp[Builtin.delete_,run_underlying ht,getObj,Sem.run,q3,dx hd hf hk,g1,setObj,undef]
      ·
       rw[eb]
       by_cases e:id=j
       ·
        subst e;rw[if_pos rfl,←hg];exact hj
       ·
        rw[if_neg e];exact hj
    ·
     cases hv
   ·
    cases hv
  ·
   cases hv
 ·
  rename_i kt et ht
  split at hv
  ·
   rename_i hpk
   obtain⟨d,hd,hf⟩:=iA hpk
   cases hv
   simp only[Rel] at hr
   subst hr
   exact⟨w,by simp[Builtin.delete_,run_underlying ht,dx hd hf hk,undef],m⟩
  ·
   cases hv
 ·
  cases hv
theorem Ax (l:List UInt8):(⟨l.toArray⟩:ByteArray).size=l.length:=by rw[ByteArray.size];simp
theorem pw (m:Mem P F ρ h w0 O w){t ty:TypeId}{u v:Val}{x:Value}(hv:zZ P t h u=some v)(hr:Rel F ρ u x):∃z,(Builtin.len_ #[t] ty #[x]).run P w=.ok z w∧Rel F ρ v z:=by
 unfold zZ at hv
 split at hv<;>first|(cases hv;done)|skip
 case h_2=>rename_i ht;cases hv;exact lB (by simp[Builtin.len_,run_underlying ht,goInt])
 all_goals rename_i ht
 case h_8=>
  split at hv
  ·
   rename_i es hg
   cases hv
   simp only[Rel] at hr
   obtain⟨L,h1,rfl⟩:=hr
   obtain⟨L',q,q1,q2,q3,ents,clock,rfl,q5,hborn⟩:=m.own _ _ hg
   rw[h1] at q1;cases q1
   have:=q5.length
   simp only[Array.length_toList] at this
   exact lB (by simp[Builtin.len_,run_underlying ht,goInt,getObj,Sem.run,q3,this])
  ·
   cases hv
 all_goals
  cases hv
  simp only[Rel] at hr
  (try obtain⟨_,_,_,rfl,_⟩:=hr)
  (try obtain⟨_,_,_,rfl⟩:=hr)
  (try obtain⟨_,_,rfl⟩:=hr)
  (try (rcases hr with ⟨rfl|⟨_,rfl⟩,rfl,_⟩|⟨_,_,_,_,rfl,_⟩))
  (try subst hr)
  all_goals exact lB (by simp[Builtin.len_,run_underlying ht,goInt,str,Ax])
theorem pj {t ty:TypeId}{u v:Val}{x:Value}(hv:zW P t u=some v)(hr:Rel F ρ u x):∃z,(Builtin.cap_ #[t] ty #[x]).run P w=.ok z w∧Rel F ρ v z:=by
 unfold zW at hv
 split at hv<;>first|(cases hv;done)|skip
 all_goals
  rename_i ht
  cases hv
  simp only[Rel] at hr
 ·
  subst hr
  exact lB (by simp[Builtin.cap_,run_underlying ht,goInt])
 ·
  rcases hr with ⟨rfl|⟨p0,rfl⟩,_,_,h2⟩|⟨b,o,c,k,rfl,h1,h2,h3⟩
  ·
   have:=h2 _ rfl
   subst this
   exact lB (by simp[Builtin.cap_,run_underlying ht,goInt])
  ·
   have:=h2 _ rfl
   subst this
   exact lB (by simp[Builtin.cap_,run_underlying ht,goInt])
  have:=h2 _ rfl
  subst this
  exact lB (by simp[Builtin.cap_,run_underlying ht,goInt])
 ·
  obtain⟨L,k,h1,rfl,h2,h3,h4⟩:=hr
  have:=h3 _ rfl
  subst this
  exact lB (by simp[Builtin.cap_,run_underlying ht,goInt])
theorem nv {u v r:Val}{x y:Value}(hv:u0 u v=some r)(hu:Rel F ρ u x)(hw:Rel F ρ v y):∃z,(Builtin.max2 x y).run P w=.ok z w∧Rel F ρ r z:=by
 unfold u0 at hv
 split at hv
 ·
  split at hv
  ·
   rename_i hk
   cases hv
   subst hk
   simp only[Rel] at hu hw
   subst hu;subst hw
   exact lB (by simp[Builtin.max2])
  ·
   cases hv
 ·
  cases hv
theorem nw {u v r:Val}{x y:Value}(hv:wd u v=some r)(hu:Rel F ρ u x)(hw:Rel F ρ v y):∃z,(Builtin.min2 x y).run P w=.ok z w∧Rel F ρ r z:=by
 unfold wd at hv
 split at hv
 ·
  split at hv
  ·
   rename_i hk
   cases hv
   subst hk
   simp only[Rel] at hu hw
   subst hu;subst hw
   exact lB (by simp[Builtin.min2])
  ·
   cases hv
 ·
  cases hv
theorem py (m:Mem P F ρ h w0 O w){t:TypeId}{u:Val}{sz n k:Nat}{cs:List Val}{x:Value}(hv:ei P t h u sz=some (cs,n))(hr:Rel F ρ u x)(hk:k≤n) :
  ∃xs,RelL F ρ (cs.take (k*sz)) xs∧(Builtin.firstCells sz k x).run P w=.ok xs.toArray w∧ai (cs.take (k*sz))=true∧(Builtin.lenOf x).run P w=.ok n w:=by
 have hcl:∀l:List Val,ai l=true→∀q,ai (l.take q)=true:=by
  intro l
  induction l with
  |nil=>intro _ q;simp[ai]
  |cons a r ih=>
   intro hl q
   simp only[ai,Bool.and_eq_true] at hl
   cases q with
   |zero=>simp[ai]
   |succ q=>simp only[List.take_succ_cons,ai,Bool.and_eq_true];exact⟨hl.1,ih hl.2 q⟩
 obtain⟨xs0,a1,a2,a3,a4⟩:=l9 m hv hr
 unfold ei at hv
 split at hv
 ·
  cases hv
  simp only[Rel] at hr
  subst hr
  exact⟨[],by simpa using RelL.nil,run_firstCells_none _ _ _ _ _,by simp[ai],a2.len w⟩
 ·
  cases hv
  simp only[Rel] at hr
  obtain⟨p0,k',rfl⟩:=hr
  have hk0:k=0:=by omega
  subst hk0
  exact⟨[],by simpa using RelL.nil,by simpa using run_firstCells_some _ _ _ _ _ _ [] (by simp) (by simp),by simp[ai],a2.len w⟩
 ·
  rename_i e cs' n' cap ht
  split at hv
  ·
   rename_i hc
   cases hv
   simp only[Rel] at hr
   rcases hr with ⟨rfl|⟨p0,rfl⟩,rfl,rfl,_⟩|⟨b,o,c,k',rfl,h1,h2,h3,h4⟩
   ·
    have hk0:k=0:=by omega
    subst hk0
    exact⟨[],by simpa using RelL.nil,by simpa using run_firstCells_none _ _ _ _ _,by simp[ai],a2.len w⟩
   ·
    have hk0:k=0:=by omega
    subst hk0
    exact⟨[],by simpa using RelL.nil,by simpa using run_firstCells_some _ _ _ _ _ _ [] (by simp) (by simp),by simp[ai],a2.len w⟩
   obtain⟨e1,fr,hb⟩:=m.fro b c h3
   have h5:=h4.take (k*sz)
   have hkn:k*sz≤n*sz:=Nat.mul_le_mul_right _ hk
   have hlen:(((c.toList.drop o).take cs.length).take (k*sz)).length=k*sz:=by rw[h5.length,List.length_take];omega
   exact⟨_,h5,run_firstCells_some _ _ _ _ _ _ _ hlen (fun j v hj=>by
    rw[bp,gY hb]
    rw[List.take_take,List.getElem?_take] at hj
    split at hj
    ·
     rw[List.getElem?_drop] at hj;simpa using hj
    ·
     cases hj),hcl _ hc.2 _,a2.len w⟩
  ·
   cases hv
 ·
  rename_i e id off n' cap ht
  split at hv
  ·
   rename_i bcs t' o hg
   split at hv
   ·
    rename_i hc
    cases hv
    simp only[Rel] at hr
    obtain⟨L,k',h1,rfl,h2⟩:=hr
    obtain⟨L',y,q1,q2,q3,c,rfl,q5,q6,q7,q8⟩:=m.own id _ hg
    rw[h1] at q1;cases q1
    have hkn:k*sz≤n*sz:=Nat.mul_le_mul_right _ hk
    have h4:=((q7.drop off).take (n*sz)).take (k*sz)
    have hlen:((((c.toList.take bcs.length).drop off).take (n*sz)).take (k*sz)).length=k*sz:=by rw[h4.length,List.length_take,List.length_take,List.length_drop];omega
    exact⟨_,h4,run_firstCells_some _ _ _ _ _ _ _ hlen (fun j v hj=>by
     rw[bp,gY q3]
     rw[List.take_take,List.getElem?_take] at hj
     split at hj
     ·
      rw[List.getElem?_drop,List.getElem?_take] at hj
      split at hj
      ·
       simpa using hj
      ·
       cases hj
     ·
      cases hj),hcl _ hc.2 _,a2.len w⟩
   ·
    cases hv
  ·
   cases hv
 ·
  rename_i l ht
  split at hv
  ·
   rename_i hs
   subst hs
   cases hv
   simp only[Rel] at hr
   subst hr
   refine⟨byteCells ⟨(l.take k).toArray⟩,?_,?_,hcl _ a3 _,a2.len w⟩
   ·
    unfold byteCells
    rw[Nat.mul_one,←List.map_take]
    simp only[]
    generalize l.take k=l'
    induction l' with
    |nil=>exact .nil
    |cons a r ih=>exact .cons (by simp[Rel]) ih
   ·
    simp only[Builtin.firstCells,str,lw,Sem.run_pure]
    congr 1
    unfold byteCells
    apply Array.ext'
    simp
  ·
   cases hv
 ·
  cases hv
theorem gn (m:Mem P F ρ h w0 O w){t tx ty:TypeId}{u v r:Val}{x y:Value}{h':Heap}(hv:pl P t tx h u v=some (r,h'))(hr:Rel F ρ u x)(hr':Rel F ρ v y) :
  ∃z w',(Builtin.copy_ #[t,tx] ty #[x,y]).run P w=.ok z w'∧Rel F ρ r z∧Mem P F ρ h' w0 O w':=by
 unfold pl at hv
 split at hv
 ·
  rename_i e ht
  split at hv
  ·
   rename_i sz hs
   have hsz:=bn (P:=P) (w:=w) hs
   split at hv
   ·
    rename_i news mm hsrc
    split at hv
    ·
     cases hv
     simp only[Rel] at hr
     subst hr
     obtain⟨xs,g1,g2,g3,g4⟩:=py (k:=0) m hsrc hr' (Nat.zero_le _)
     refine⟨.int .i64 0,w,?_,by simp[Rel],m⟩
     simp[Builtin.copy_,run_underlying ht,g4,hsz,g2,goInt]
    ·
     rename_i id off n cap
     split at hv
     ·
      rename_i cs e' o hg
      split at hv
      ·
       rename_i hc
       cases hv
       simp only[Rel] at hr
       obtain⟨L,k,g1,rfl,g2⟩:=hr
       obtain⟨xs,a1,a2,a3,a4⟩:=py (k:=min mm n) m hsrc hr' (Nat.min_le_left _ _)
       obtain⟨xs0,b1,b2,_,_⟩:=l9 m hsrc hr'
       have hl:(news.take ((min mm n)*sz)).length=(min mm n)*sz:=by
        have h1:=b1.length
        have h2:=b2.newsLen
        have h3:(min mm n)*sz≤mm*sz:=Nat.mul_le_mul_right _ (Nat.min_le_left _ _)
        rw[List.length_take];omega
       obtain⟨w',c1,c2⟩:=m.write (off:=off) hg g1 (by rw[hl];exact hc) a1 a3
       refine⟨.int .i64 (min mm n:Nat),w',?_,by simp[Rel],c2⟩
       have e0:Nat.min mm n=min mm n:=rfl
       simp[Builtin.copy_,run_underlying ht,a4,hsz,e0,a2,goInt,c1]
      ·
       cases hv
     ·
      cases hv
    ·
     cases hv
   ·
    cases hv
  ·
   cases hv
 ·
  cases hv
def pm (P:Program)(t tx:TypeId)(h:Heap)(d s:Val):Option (Val×Heap):=
 match s with
 |.so id2 off2 mm c2=>match d with
  |.so id off n _=>match P.underlying t with
   |some (.slice e)=>match cK P e,get h id,get h id2 with
    |some sz,some (.cells cs e' o),some (.cells bcs _ _)=>
     if off+(min mm n)*sz≤cs.length∧off2+(min mm n)*sz≤bcs.length∧ai ((bcs.drop off2).take ((min mm n)*sz))=true then some (.int .i64 (min mm n:Nat),put h id (.cells (aX cs off ((bcs.drop off2).take ((min mm n)*sz))) e' o)) else none
    |_,_,_=>none
   |_=>none
  |_=>pl P t tx h d (.so id2 off2 mm c2)
 |.sl a b c=>pl P t tx h d (.sl a b c)
 |.nils=>pl P t tx h d .nils
 |.sle=>pl P t tx h d .sle
 |.str l=>pl P t tx h d (.str l)
 |_=>none
theorem sY (m:Mem P F ρ h w0 O w){t tx ty:TypeId}{u v r:Val}{x y:Value}{h':Heap}(hv:pm P t tx h u v=some (r,h'))(hr:Rel F ρ u x)(hr':Rel F ρ v y) :
  ∃z w',(Builtin.copy_ #[t,tx] ty #[x,y]).run P w=.ok z w'∧Rel F ρ r z∧Mem P F ρ h' w0 O w':=by
 unfold pm at hv
 split at hv
 ·
  rename_i id2 off2 mm c2
  split at hv
  ·
   rename_i id off n cap
   split at hv
   ·
    rename_i e ht
    split at hv
    ·
     rename_i sz cs e' o bcs e2 o2 hs hg hg2
     have hsz:=bn (P:=P) (w:=w) hs
     split at hv
     ·
      rename_i hc
      cases hv
      simp only[Rel] at hr hr'
      obtain⟨L,k,g1,rfl,g2⟩:=hr
      obtain⟨L2,k2,g3,rfl,g4⟩:=hr'
      obtain⟨L',y,q1,q2,q3,c,rfl,q5,q6,q7,q8⟩:=m.own id2 _ hg2
      rw[g3] at q1;cases q1
      have h4:=(q7.drop off2).take ((min mm n)*sz)
      have hlen:(((c.toList.take bcs.length).drop off2).take ((min mm n)*sz)).length=(min mm n)*sz:=by rw[h4.length,List.length_take,List.length_drop];omega
      have hf:=run_firstCells_some (P:=P) w sz (min mm n) ⟨L2.b,off2,none⟩ mm k2 _ hlen (fun j v hj=>by
       rw[bp,gY q3]
       rw[List.getElem?_take] at hj
       split at hj
       ·
        rw[List.getElem?_drop,List.getElem?_take] at hj
        split at hj
        ·
         simpa using hj
        ·
         cases hj
       ·
        cases hj)
      have hl:((bcs.drop off2).take ((min mm n)*sz)).length=(min mm n)*sz:=by rw[List.length_take,List.length_drop];omega
      obtain⟨w',c1,c2⟩:=m.write (off:=off) hg g1 (by rw[hl];exact hc.1) h4 hc.2.2
      refine⟨.int .i64 (min mm n:Nat),w',?_,by simp[Rel],c2⟩
      have e0:Nat.min mm n=min mm n:=rfl
      simp[Builtin.copy_,run_underlying ht,Builtin.lenOf,hsz,e0,hf,goInt,c1]
     ·
      cases hv
    ·
     cases hv
   ·
    cases hv
  ·
   exact gn m hv hr hr'
 ·
  exact gn m hv hr hr'
 ·
  exact gn m hv hr hr'
 ·
  exact gn m hv hr hr'
 ·
  exact gn m hv hr hr'
 ·
  cases hv
end
end Go.V
end
section
namespace Go.V
open Go
structure Glo (P:Program) where
 g:Nat→Option (List Val)
 x:FuncId→List Val→Heap→Nat→Option (Val×Heap)
 ok:∀f vs h i v h',x f vs h i=some (v,h')→∀F ρ w0 O w (xs:Array Value),Mem P F ρ h w0 O w→RelL F ρ vs xs.toList→ρ i=none→
  ∃ρ' y w',(callFunc f xs).run P w=.ok (.value y) w'∧PLe ρ ρ'∧(∀j,j≠i→ρ' j=ρ j)∧Rel F ρ' v y∧Mem P F ρ' h' w0 O w'
def ev {P:Program}(Γ:Glo P)(a:List Val):Operand→Option Val
 |.tmp t=>a[t]?
 |.const v=>ofV v
 |.global g=>(Γ.g g).map .pp
 |.func f=>some (.fn f [] [])
def evL {P:Program}(Γ:Glo P)(a:List Val):List Operand→Option (List Val)
 |[]=>some []
 |x::xs=>match ev Γ a x,evL Γ a xs with
  |some v,some vs=>some (v::vs)
  |_,_=>none
def evP {P:Program}(Γ:Glo P)(a:List Val):List (Nat×Operand)→Option (List (Nat×Val))
 |[]=>some []
 |(i,x)::xs=>match ev Γ a x,evP Γ a xs with
  |some v,some vs=>some ((i,v)::vs)
  |_,_=>none
def evO {P:Program}(Γ:Glo P)(a:List Val):Option Operand→Option (Option Val)
 |none=>some none
 |some x=>(ev Γ a x).map some
def pk (P:Program)(t:TypeId)(h:Heap)(u:Val):Option Heap:=
 match P.underlying t,u with
 |some (.slice _),.nils=>some h
 |some (.slice _),.sl _ 0 _=>some h
 |some (.slice _),.so _ _ 0 _=>some h
 |some (.slice e),.so id off n _=>match get h id,P.info? e with
  |some (.cells cs e' o),some ie=>match gC ie with
   |some zs=>if zs≠[]∧off+n*zs.length≤cs.length∧ai (jB zs (n*zs.length))=true then some (put h id (.cells (aX cs off (jB zs (n*zs.length))) e' o)) else none
   |none=>none
  |_,_=>none
 |_,_=>none
def oL (P:Program)(t:TypeId):Option Bool:=
 match P.underlying t with
 |some (.interface _)=>some true
 |some _=>some false
 |none=>none
def bW (P:Program)(Γ:Glo P)(o:Oper)(a:List Val)(h:Heap)(i:Nat):Option (Val×Heap):=
 match o.op with
 |.move x|.assign x=>(ev Γ a x).map (·,h)
 |.pick c x y=>match ev Γ a c with
  |some (.bool b)=>(ev Γ a (if b then x else y)).map (·,h)
  |_=>none
 |.alloc t=>ph P t h i
 |.box t x=>(ev Γ a x).map fun v=>xZ t v h i
 |.build t ps=>match evP Γ a ps.toList with
  |some l=>(dB P t l).map fun cs=>(.ag cs,h)
  |none=>none
 |.buildSlice t n ps=>match evP Γ a ps.toList with
  |some l=>bG P t n l h i
  |none=>none
 |.load t p=>match ev Γ a p with
  |some u=>(nt P t h u).map (·,h)
  |none=>none
 |.store t p x=>match ev Γ a p,ev Γ a x with
  |some u,some v=>(pz P t h u v).map fun h'=>(uv,h')
  |_,_=>none
 |.nilCheck x=>match ev Γ a x with
  |some u=>(u4 u).map (·,h)
  |none=>none
 |.binOp op t x y _=>match ev Γ a x,ev Γ a y with
  |some u,some v=>(zV P op t y u v).map (·,h)
  |_,_=>none
 |.unOp op _ x=>match ev Γ a x with
  |some u=>(vun op u).map (·,h)
  |none=>none
 |.convert s d x=>match ev Γ a x with
  |some u=>(uZ P s d u).map (·,h)
  |none=>none
 |.makeInterface t x=>match ev Γ a x,oL P t with
  |some u,some false=>some (.ifc t u,h)
  |_,_=>none
 |.makeFunc (.func f) first cap=>match evL Γ a first.toList,evL Γ a cap.toList with
  |some us,some vs=>some (.fn f us vs,h)
  |_,_=>none
 |.makeMap _ none=>some (.mp i,put h i (.map []))
 |.makeSlice t l c=>match ev Γ a l,ev Γ a c with
  |some u,some v=>mn P t u v h i
  |_,_=>none
 |.slice t x lo hi mx=>match ev Γ a x,evO Γ a lo,evO Γ a hi,evO Γ a mx with
  |some u,some l,some k,some m=>(kW P t h u l k m).map (·,h)
  |_,_,_,_=>none
 |.fieldAddr t x f=>match ev Γ a x with
  |some u=>(po P t u f).map (·,h)
  |none=>none
 |.field t x f=>match ev Γ a x with
  |some u=>(pq P t u f).map (·,h)
  |none=>none
 |.indexAddr t x y=>match ev Γ a x,ev Γ a y with
  |some u,some v=>(pv P t u v).map (·,h)
  |_,_=>none
 |.index t x y=>match ev Γ a x,ev Γ a y with
  |some u,some v=>(nM P t u v).map (·,h)
  |_,_=>none
 |.lookup t x y ok=>match ev Γ a x,ev Γ a y with
  |some u,some v=>(i7 P t h u v ok).map (·,h)
  |_,_=>none
 |.mapUpdate t x y z=>match ev Γ a x,ev Γ a y,ev Γ a z with
  |some u,some k,some v=>(gW P t h u k v).map fun h'=>(uv,h')
  |_,_,_=>none
 |.extract x k=>match ev Γ a x with
  |some u=>(eE u k).map (·,h)
  |none=>none
 |.call ⟨.builtin .append,args,ts⟩=>match args.toList,ts.toList with
  |[x,y],[t,tx]=>match ev Γ a x,ev Γ a y with
   |some u,some v=>uX P t tx h u v i
   |_,_=>none
  |_,_=>none
 |.call ⟨.builtin .copy,args,ts⟩=>match args.toList,ts.toList with
  |[x,y],[t,tx]=>match ev Γ a x,ev Γ a y with
   |some u,some v=>pm P t tx h u v
   |_,_=>none
  |_,_=>none
 |.call ⟨.builtin .len,args,ts⟩=>match args.toList,ts.toList with
  |[x],[t]=>match ev Γ a x with
   |some u=>(zZ P t h u).map (·,h)
   |_=>none
  |_,_=>none
 |.call ⟨.builtin .cap,args,ts⟩=>match args.toList,ts.toList with
  |[x],[t]=>match ev Γ a x with
   |some u=>(zW P t u).map (·,h)
   |_=>none
  |_,_=>none
 |.call ⟨.builtin .max,args,_⟩=>match args.toList with
  |[x,y]=>match ev Γ a x,ev Γ a y with
   |some u,some v=>(u0 u v).map (·,h)
   |_,_=>none
  |_=>none
 |.call ⟨.builtin .min,args,_⟩=>match args.toList with
  |[x,y]=>match ev Γ a x,ev Γ a y with
   |some u,some v=>(wd u v).map (·,h)
   |_,_=>none
  |_=>none
 |.call ⟨.builtin .delete,args,ts⟩=>match args.toList,ts.toList with
  |[x,y],[t,_]=>match ev Γ a x,ev Γ a y with
   |some u,some v=>(jg P t h u v).map fun h'=>(uv,h')
   |_,_=>none
  |_,_=>none
 |.call ⟨.builtin .clear,args,ts⟩=>match args.toList,ts.toList with
  |[x],[t]=>match ev Γ a x with
   |some u=>(pk P t h u).map fun h'=>(uv,h')
   |_=>none
  |_,_=>none
 |.call ⟨.value (.func f),args,_⟩=>match evL Γ a args.toList with
  |some vs=>Γ.x f vs h i
  |none=>none
 |_=>none
def GOk {P:Program}(F:Fro)(Γ:Glo P):Prop:=∀g cs,Γ.g g=some cs→∃c,F g=some c∧RelL F (fun _=>none) cs (c.toList.take cs.length)∧c.size=cs.length
def oV (P:Program)(o:Oper)(act:Act)(w:World)(x:Value)(w':World):Prop:=
 (execOp act.eval o).run P w=.ok (.value x) w'∨((execOp act.eval o).run P w=.ok .skip w'∧x=undef)
section
variable {P:Program} {Γ:Glo P} {F:Fro} {ρ:Pl} {h:Heap} {w0 w:World} {O:Nat→Prop} {a:List Val} {act:Act}
theorem mQ (ρ:Pl):PLe (fun _=>none) ρ:=fun _ _ h=>by cases h
theorem aT (hG:GOk F Γ)(ha:RelL F ρ a act.tmps.toList){x:Operand}{v:Val}(h:ev Γ a x=some v):Rel F ρ v (act.eval x):=by
 cases x with
 |tmp t=>
  simp only[ev] at h
  obtain⟨y,h1,h2⟩:=ha.get h
  simp only[Array.getElem?_toList] at h1
  have:act.eval (.tmp t)=y:=by
   show act.tmps.getD t undef=y
   rw[Array.getD_eq_getD_getElem?,h1];rfl
  rw[this];exact h2
 |const v=>exact sP h
 |global g=>
  simp only[ev] at h
  cases hg:Γ.g g with
  |none=>rw[hg] at h;cases h
  |some cs=>
   rw[hg] at h
   cases h
   obtain⟨c,h1,h2,_⟩:=hG g cs hg
   simp only[Rel]
   exact⟨g,0,c,rfl,h1,by simpa using RelL.mono (FLe.refl F) (mQ ρ) _ _ h2⟩
 |func f=>
  simp only[ev] at h
  cases h
  simp only[Rel]
  exact⟨#[],#[],rfl,.nil,.nil⟩
theorem gF (hG:GOk F Γ)(ha:RelL F ρ a act.tmps.toList):∀{xs:List Operand}{vs:List Val},evL Γ a xs=some vs→RelL F ρ vs (xs.map act.eval)
 |[],vs,h=>by simp only[evL] at h;cases h;exact .nil
 |x::xs,vs,h=>by
  simp only[evL] at h
  split at h
  ·
   rename_i v us h1 h2
   cases h
   exact .cons (aT hG ha h1) (gF hG ha h2)
  ·
   cases h
theorem ke (hG:GOk F Γ)(ha:RelL F ρ a act.tmps.toList):∀{xs:List (Nat×Operand)}{vs:List (Nat×Val)},evP Γ a xs=some vs→rc F ρ vs (xs.map fun(i,x)=>(i,act.eval x))
 |[],vs,h=>by simp only[evP] at h;cases h;simp[rc]
 |(i,x)::xs,vs,h=>by
  simp only[evP] at h
  split at h
  ·
   rename_i v us h1 h2
   cases h
   simp only[List.map_cons,rc]
   exact⟨_,_,rfl,aT hG ha h1,ke hG ha h2⟩
  ·
   cases h
theorem iH (hG:GOk F Γ)(ha:RelL F ρ a act.tmps.toList){x:Option Operand}{v:Option Val}(h:evO Γ a x=some v):ip F ρ v (x.map act.eval):=by
 cases x with
 |none=>simp only[evO] at h;cases h;simp[ip]
 |some x=>
  simp only[evO] at h
  cases hx:ev Γ a x with
  |none=>rw[hx] at h;cases h
  |some u=>rw[hx] at h;cases h;exact⟨_,rfl,aT hG ha hx⟩
theorem map_some {α β:Type}{x:Option α}{f:α→β}{y:β}(h:x.map f=some y):∃z,x=some z∧f z=y:=by
 cases x with
 |none=>cases h
 |some z=>cases h;exact⟨z,rfl,rfl⟩
theorem pi {op:BinOp}{t:TypeId}{x y:Operand}{u v r:Val}{p q:Value}(hv:zV P op t y u v=some r)(hu:Rel F ρ u p)(hw:Rel F ρ v q) :
  ∃z,(do eqGuard op t x y p q;binOp op t p q:Sem Value).run P w=.ok z w∧Rel F ρ r z:=by
 have fin:∀{s:Sem Value},(∃z,(binOp op t p q).run P w=.ok z w∧Rel F ρ r z)→(eqGuard op t x y p q).run P w=.ok () w→∃z,(do eqGuard op t x y p q;binOp op t p q:Sem Value).run P w=.ok z w∧Rel F ρ r z:=by
  rintro _ ⟨z,h1,h2⟩ h3
  exact⟨z,by simp only[Sem.run_bind,h3,Result.andThen_ok,h1],h2⟩
 unfold zV at hv
 split at hv
 ·
  rename_i k a k' b
  simp only[Rel] at hu hw
  subst hu;subst hw
  have hg:(eqGuard op t x y (.int k a) (.int k' b)).run P w=.ok () w:=by cases op<;>simp[eqGuard]
  split at hv
  ·
   exact fin (s:=pure default) (sG hv t) hg
  ·
   rename_i hs
   split at hv
   ·
    rename_i hk
    subst hk
    exact fin (s:=pure default) (vC (by simpa using hs) hv t) hg
   ·
    cases hv
 ·
  rename_i l l'
  simp only[Rel] at hu hw
  subst hu;subst hw
  have hg:(eqGuard op t x y (str l) (str l')).run P w=.ok () w:=by cases op<;>simp[eqGuard,str]
  exact fin (s:=pure default) (vL hv t) hg
 ·
  rename_i n1 n2
  split at hv
  ·
   obtain⟨b,hb,rfl⟩:=map_some hv
   obtain⟨e1,e2⟩:=rT (w:=w) hb hu hw
   refine fin (s:=pure default) ?_ (e2 _ _)
   refine uG ?_
   have:binOp .eql t p q=(do pure (.bool (←Op.equal t p q)):Sem Value):=by
    unfold veq at hb
    split at hb<;>first|(cases hb;done)|skip
    all_goals
     simp only[Rel] at hu hw
     (try (rcases hu with ⟨_,h0,_⟩|⟨_,_,_,_,rfl,_⟩;· exact absurd h0 (Nat.succ_ne_zero _)))
     (try obtain⟨_,_,_,rfl,_⟩:=hu)
     (try obtain⟨_,_,_,rfl,_⟩:=hu)
     (try obtain⟨_,_,rfl,_⟩:=hu)
     (try obtain⟨_,_,rfl⟩:=hu)
     (try obtain⟨_,rfl,_⟩:=hu)
     (try subst hu)
     (try subst hw)
     rfl
   rw[this]
   simp only[Sem.run_bind,e1,Result.andThen_ok,Sem.run_pure]
  ·
   obtain⟨b,hb,rfl⟩:=map_some hv
   obtain⟨e1,e2⟩:=rT (w:=w) hb hu hw
   refine fin (s:=pure default) ?_ (e2 _ _)
   refine uG ?_
   have:binOp .neq t p q=(do pure (.bool (!(←Op.equal t p q))):Sem Value):=by
    unfold veq at hb
    split at hb<;>first|(cases hb;done)|skip
    all_goals
     simp only[Rel] at hu hw
     (try (rcases hu with ⟨_,h0,_⟩|⟨_,_,_,_,rfl,_⟩;· exact absurd h0 (Nat.succ_ne_zero _)))
     (try obtain⟨_,_,_,rfl,_⟩:=hu)
     (try obtain⟨_,_,_,rfl,_⟩:=hu)
     (try obtain⟨_,_,rfl,_⟩:=hu)
     (try obtain⟨_,_,rfl⟩:=hu)
     (try obtain⟨_,rfl,_⟩:=hu)
     (try subst hu)
     (try subst hw)
     rfl
   rw[this]
   simp only[Sem.run_bind,e1,Result.andThen_ok,Sem.run_pure]
  ·
   cases hv
theorem nx {u v:Val}{x:Value}(hv:u4 u=some v)(hu:Rel F ρ u x)(o:Oper)(y:Operand)(ho:o.op=.nilCheck y)(he:act.eval y=x):(execOp act.eval o).run P w=.ok (.value x) w∧Rel F ρ v x:=by
 unfold u4 at hv
 unfold execOp
 simp only[ho,he]
 split at hv<;>first|(cases hv;done)|skip
 all_goals
  cases hv
  refine⟨?_,hu⟩
  simp only[Rel] at hu
 ·
  obtain⟨_,_,_,rfl,_⟩:=hu;rfl
 ·
  obtain⟨_,_,rfl⟩:=hu;rfl
 ·
  obtain⟨_,_,rfl,_⟩:=hu;rfl
end
end Go.V
end
