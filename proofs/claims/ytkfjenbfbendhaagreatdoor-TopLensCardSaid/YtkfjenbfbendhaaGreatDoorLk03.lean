/-
  A part of a proof: V5 V6 V7.
-/
import Derived.Test.YtkfjenbfbendhaaGreatDoorLk02
import Derived.Laws.AppendOwn
import Derived.Laws.MakeOwn
import Derived.IntWalk
import Derived.Deep.AppendSrc
import Derived.Lib.AppendZerosOnto
set_option linter.unusedSimpArgs false
set_option linter.unusedVariables false
section
namespace Go.V
open Go
def oD (n kb:Nat)(lo hi mx:Option Val):Option (Nat×Nat×Option Nat):=
 match (match mx with|some v=>(jA v kb).map some|none=>some none) with
 |none=>none
 |some m=>
  match (match hi with|some v=>jA v (m.getD kb)|none=>if mx.isSome then none else some n) with
  |none=>none
  |some h=>
   match (match lo with|some v=>jA v h|none=>some 0) with
   |none=>none
   |some l=>some (l,h,m)
def pH (m cap:Option Nat)(l:Nat):Option Nat:=
 match m with
 |some k=>some (k-l)
 |none=>cap.map (· - l)
def kW (P:Program)(t:TypeId)(h0:Heap)(u:Val)(lo hi mx:Option Val):Option Val:=
 match P.underlying t,u with
 |some .string,.str s=>if mx.isSome then none else match oD s.length s.length lo hi none with
  |some (l,h,_)=>some (.str ((s.drop l).take (h-l)))
  |none=>none
 |some (.slice e),.nils=>match cK P e,oD 0 0 lo hi mx with
  |some _,some _=>some .nils
  |_,_=>none
 |some (.slice e),.sl cs n cap=>match cK P e,oD n (cap.getD n) lo hi mx with
  |some sz,some (l,h,m)=>if h≤n∧cs.length=n*sz then some (.sl ((cs.drop (l*sz)).take ((h-l)*sz)) (h-l) (pH m cap l)) else none
  |_,_=>none
 |some (.slice e),.so id off n cap=>match cK P e,oD n (cap.getD n) lo hi mx with
  |some sz,some (l,h,m)=>
   match m,cap with
   |some k,_=>some (if k=l then .so id off 0 (some 0) else .so id (off+l*sz) (h-l) (some (k-l)))
   |none,some k=>some (if k=l then .so id off 0 (some 0) else .so id (off+l*sz) (h-l) (some (k-l)))
   |none,none=>match get h0 id with
    |some (.cells _ t' _)=>if (l=0∨l<n)∧P.cellsOf t'=sz then some (.so id (off+l*sz) (h-l) none) else none
    |_=>none
  |_,_=>none
 |some (.array n e),.pp cs=>match cK P e,oD n n lo hi mx with
  |some sz,some (l,h,m)=>if n*sz≤cs.length then some (.sl ((cs.drop (l*sz)).take ((h-l)*sz)) (h-l) (some (m.getD n-l))) else none
  |_,_=>none
 |some (.array n e),.pr id off=>match cK P e,oD n n lo hi mx with
  |some sz,some (l,h,m)=>some (if m.getD n=l then .so id off 0 (some 0) else .so id (off+l*sz) (h-l) (some (m.getD n-l)))
  |_,_=>none
 |_,_=>none
def mn (P:Program)(t:TypeId)(len cap:Val)(h:Heap)(i:Nat):Option (Val×Heap):=
 match P.underlying t,len,cap with
 |some (.slice e),.int .i64 l,.int .i64 c=>match P.info? e with
  |some ie=>match gC ie with
   |some zs=>if 0≤l∧l≤c∧c≤1073741824∧c.toNat*ie.bytes≤1099511627776∧(c.toNat*ie.size=0∨zs≠[]) then
     some (.so i 0 l.toNat (some c.toNat),put h i (.cells (if c.toNat*ie.size=0 then [] else jB zs (c.toNat*ie.size)) e false)) else none
   |none=>none
  |none=>none
 |_,_,_=>none
def ip (F:Fro)(ρ:Pl):Option Val→Option Value→Prop
 |none,x=>x=none
 |some v,x=>∃y,x=some y∧Rel F ρ v y
section
variable {P:Program} {F:Fro} {ρ:Pl} {h:Heap} {w0 w:World} {O:Nat→Prop}
theorem lw (l:List UInt8)(a b:Nat):(ByteArray.mk l.toArray).extract a b=⟨((l.drop a).take (b-a)).toArray⟩:=by
 apply ByteArray.ext
 rw[ByteArray.data_extract]
 apply Array.ext'
 simp[List.extract_eq_take_drop]
theorem iK {v:Val}{x:Value}{y y' i:Nat}(hv:jA v y=some i)(hr:Rel F ρ v x)(hy:y≤y')(code:BoundsCode):(Instr.sliceBound x y' code).run P w=.ok i w∧i≤y:=by
 unfold jA at hv
 split at hv
 ·
  rename_i k n
  split at hv
  ·
   rename_i hk
   cases hv
   simp only[Rel] at hr
   subst hr
   have:n≤(y':Int):=by omega
   exact⟨by simp[Instr.sliceBound,asIntOf,hk.1,this],by omega⟩
  ·
   cases hv
 ·
  cases hv
theorem ff {n kb l h':Nat}{m:Option Nat}{lo hi mx:Option Val}{clo chi cmx:Option Value}(hv:oD n kb lo hi mx=some (l,h',m))(hl:ip F ρ lo clo)(hh:ip F ρ hi chi)(hm:ip F ρ mx cmx)
  (b:Bool) {cap:Nat} (hk:kb≤cap) (hn:n≤kb):(Instr.sliceBounds b n cap clo chi cmx).run P w=.ok (l,h',m.getD cap) w∧l≤h'∧h'≤m.getD kb∧(∀k,m=some k→k≤kb)∧(cmx=none→m=none):=by
 unfold oD at hv
 split at hv
 ·
  cases hv
 ·
  rename_i m0 hm0
  split at hv
  ·
   cases hv
  ·
   rename_i h0 hh0
   split at hv
   ·
    cases hv
   ·
    rename_i l0 hl0
    cases hv
    cases mx with
    |none=>
     simp only[ip] at hm
     subst hm
     simp only[Option.some.injEq] at hm0
     subst hm0
     cases hi with
     |none=>
      simp only[ip] at hh
      subst hh
      simp at hh0
      subst hh0
      cases lo with
      |none=>
       simp only[ip] at hl
       subst hl
       simp at hl0
       subst hl0
       exact⟨by simp[Instr.sliceBounds],by omega,by simpa using hn,by simp,by simp⟩
      |some v=>
       simp only[ip] at hl
       obtain⟨y,rfl,hr⟩:=hl
       obtain⟨h1,h2⟩:=iK (P:=P) (w:=w) hl0 hr (Nat.le_refl _) .sliceB
       exact⟨by simp[Instr.sliceBounds,h1],h2,by simpa using hn,by simp,by simp⟩
     |some vh=>
      simp only[ip] at hh
      obtain⟨yh,rfl,hrh⟩:=hh
      simp only[Option.getD_none] at hh0
      obtain⟨h3,h4⟩:=iK (P:=P) (w:=w) hh0 hrh hk (if b then .sliceAcap else .sliceAlen)
      cases lo with
      |none=>
       simp only[ip] at hl
       subst hl
       simp at hl0
       subst hl0
       exact⟨by simp[Instr.sliceBounds,h3],by omega,by simpa using h4,by simp,by simp⟩
      |some v=>
       simp only[ip] at hl
       obtain⟨y,rfl,hr⟩:=hl
       obtain⟨h1,h2⟩:=iK (P:=P) (w:=w) hl0 hr (Nat.le_refl _) .sliceB
       exact⟨by simp[Instr.sliceBounds,h3,h1],h2,by simpa using h4,by simp,by simp⟩
    |some vm=>
     simp only[ip] at hm
     obtain⟨ym,rfl,hrm⟩:=hm
     simp only at hm0
     cases hbm:jA vm kb with
     |none=>rw[hbm] at hm0;cases hm0
     |some k=>
      rw[hbm] at hm0
      cases hm0
      obtain⟨h5,h6⟩:=iK (P:=P) (w:=w) hbm hrm hk (if b then .slice3Acap else .slice3Alen)
      cases hi with
      |none=>simp at hh0
      |some vh=>
       simp only[ip] at hh
       obtain⟨yh,rfl,hrh⟩:=hh
       simp only[Option.getD_some] at hh0
       obtain⟨h3,h4⟩:=iK (P:=P) (w:=w) hh0 hrh (Nat.le_refl _) .slice3B
       cases lo with
       |none=>
        simp only[ip] at hl
        subst hl
        simp at hl0
        subst hl0
        exact⟨by simp[Instr.sliceBounds,h5,h3],by omega,by simpa using h4,by simpa using h6,by simp⟩
       |some v=>
        simp only[ip] at hl
        obtain⟨y,rfl,hr⟩:=hl
        obtain⟨h1,h2⟩:=iK (P:=P) (w:=w) hl0 hr (Nat.le_refl _) .slice3C
        exact⟨by simp[Instr.sliceBounds,h5,h3,h1],h2,by simpa using h4,by simpa using h6,by simp⟩
theorem sS {c:Array Value}{cs:List Val}{o l k sz h' n:Nat}(hr:RelL F ρ cs ((c.toList.drop o).take cs.length))(_:l≤h')(_:h'≤n)(_:cs.length=n*sz)(hk:k=o+l*sz∨h'=l) :
  RelL F ρ ((cs.drop (l*sz)).take ((h'-l)*sz)) ((c.toList.drop k).take ((cs.drop (l*sz)).take ((h'-l)*sz)).length):=by
 rcases hk with rfl|rfl
 ·
  have h1:=(hr.drop (l*sz)).take ((h'-l)*sz)
  rw[List.drop_take,List.drop_drop,List.take_take] at h1
  have e:((cs.drop (l*sz)).take ((h'-l)*sz)).length=min ((h'-l)*sz) (cs.length-l*sz):=by simp
  rw[e]
  exact h1
 ·
  simp[RelL]
theorem mo (m:Mem P F ρ h w0 O w){t:TypeId}{u v:Val}{lo hi mx:Option Val}{x:Value}{clo chi cmx:Option Value}(hv:kW P t h u lo hi mx=some v)(hr:Rel F ρ u x)
  (hl:ip F ρ lo clo) (hh:ip F ρ hi chi) (hm:ip F ρ mx cmx):∃z,(Instr.sliceAt t x clo chi cmx).run P w=.ok z w∧Rel F ρ v z:=by
 unfold kW at hv
 split at hv
 ·
  rename_i s ht
  split at hv
  ·
   cases hv
  ·
   rename_i hmx
   split at hv
   ·
    rename_i l h' _ hb
    cases hv
    cases mx with
    |some _=>simp at hmx
    |none=>
     simp only[ip] at hm
     subst hm
     obtain⟨h1,h2,h3,_,_⟩:=ff (P:=P) (w:=w) (cmx:=none) hb hl hh (by simp[ip]) false (Nat.le_refl _) (Nat.le_refl _)
     simp only[Rel] at hr
     subst hr
     have hsz:(⟨s.toArray⟩:ByteArray).size=s.length:=by simp[ByteArray.size]
     exact Dx (by simp[Instr.sliceAt,Instr.slice,run_underlying ht,str,hsz,h1,lw])
   ·
    cases hv
 ·
  rename_i e ht
  split at hv
  ·
   rename_i sz r hs hb
   obtain⟨l,h',mm⟩:=r
   cases hv
   obtain⟨h1,h2,h3,h4,_⟩:=ff (P:=P) (w:=w) hb hl hh hm true (Nat.le_refl _) (Nat.le_refl _)
   simp only[Rel] at hr
   subst hr
   have hm0:mm.getD 0=0:=by cases mm with|none=>rfl|some k=>have:=h4 k rfl;simp;omega
   have hh0:h'=0:=by omega
   have hl0:l=0:=by omega
   subst hh0;subst hl0
   rw[hm0] at h1
   exact⟨.slice none 0 0,by simp[Instr.sliceAt,Instr.slice,run_underlying ht,h1,bn hs],by simp[Rel]⟩
  ·
   cases hv
 ·
  rename_i e cs n cap ht
  split at hv
  ·
   rename_i sz l h' mm hs hb
   split at hv
   ·
    rename_i hc
    cases hv
    simp only[Rel] at hr
    rcases hr with ⟨hx0,rfl,rfl,g0⟩|⟨b,o,c,k,rfl,g1,g2,g3,g4⟩
    ·
     have hc0:cap.getD 0=0:=by
      cases cap with
      |none=>rfl
      |some k=>simpa using g0 k rfl
     rw[hc0] at hb
     obtain⟨h1,h2,h3,h4,_⟩:=ff (P:=P) (w:=w) hb hl hh hm true (Nat.le_refl _) (Nat.le_refl _)
     have hm0:mm.getD 0=0:=by cases mm with|none=>rfl|some k=>have:=h4 k rfl;simp;omega
     have hh0:h'=0:=by omega
     have hl0:l=0:=by omega
     subst hh0;subst hl0
     rw[hm0] at h1
     suffices hcp:∀k',pH mm cap 0=some k'→k'=0 by
      rcases hx0 with rfl|⟨p0,rfl⟩
      ·
       exact⟨.slice none 0 0,by simp[Instr.sliceAt,Instr.slice,run_underlying ht,h1,bn hs],by rw[Rel];exact .inl ⟨.inl rfl,rfl,by simp,hcp⟩⟩
      ·
       exact⟨.slice (some p0) 0 0,by simp[Instr.sliceAt,Instr.slice,run_underlying ht,h1,bn hs],by rw[Rel];exact .inl ⟨.inr ⟨p0,rfl⟩,rfl,by simp,hcp⟩⟩
     intro k' hk'
     cases mm with
     |some k2=>simp[pH] at hk';simp at hm0;omega
     |none=>cases cap with
      |none=>simp[pH] at hk'
      |some k3=>simp[pH] at hk';have:=g0 k3 rfl;omega
    have hkb:cap.getD n≤k:=by cases cap with|none=>simpa using g1|some k'=>simp[g2 k' rfl]
    have hnb:n≤cap.getD n:=by cases cap with|none=>simp|some k'=>simp;have:=g2 k' rfl;omega
    obtain⟨h1,h2,h3,h4,h5⟩:=ff (P:=P) (w:=w) hb hl hh hm true hkb hnb
    refine⟨.slice (if mm.getD k=l then some ⟨b,o,none⟩ else (some (⟨b,o,none⟩:Addr)).map (·.add (l*sz))) (h'-l) (mm.getD k-l),by simp[Instr.sliceAt,Instr.slice,run_underlying ht,h1,bn hs],?_⟩
    simp only[Rel]
    have hend:h'≤mm.getD k:=by
     cases mm with
     |none=>simp;simp at h3;omega
     |some k'=>simpa using h3
    by_cases hml:mm.getD k=l
    ·
     refine .inr ⟨b,o,c,_,by rw[if_pos hml],by omega,?_,g3,sS g4 h2 hc.1 hc.2 (.inr (by omega))⟩
     intro k' hk'
     cases mm with
     |some k2=>simp[pH] at hk';simp[hk']
     |none=>cases cap with
      |none=>simp[pH] at hk'
      |some k3=>simp[pH] at hk';have:=g2 k3 rfl;subst this;simpa using hk'
    ·
     refine .inr ⟨b,o+l*sz,c,mm.getD k-l,by rw[if_neg hml];simp[bp],by omega,?_,g3,sS g4 h2 hc.1 hc.2 (.inl rfl)⟩
     intro k' hk'
     cases mm with
     |some k2=>simp[pH] at hk';simp[hk']
     |none=>cases cap with
      |none=>simp[pH] at hk'
      |some k3=>simp[pH] at hk';have:=g2 k3 rfl;subst this;simpa using hk'
   ·
    cases hv
  ·
   cases hv
 ·
  rename_i e id off n cap ht
  split at hv
  ·
   rename_i sz l h' mm hs hb
   simp only[Rel] at hr
   obtain⟨L,k,g0,rfl,g1,g2,g3⟩:=hr
   have hkb:cap.getD n≤k:=by cases cap with|none=>simpa using g1|some k'=>simp[g2 k' rfl]
   have hnb:n≤cap.getD n:=by cases cap with|none=>simp|some k'=>simp;have:=g2 k' rfl;omega
   obtain⟨h1,h2,h3,h4,h5⟩:=ff (P:=P) (w:=w) hb hl hh hm true hkb hnb
   have hend:h'≤mm.getD k:=by
    cases mm with
    |none=>simp;simp at h3;omega
    |some k'=>simpa using h3
   refine⟨.slice (if mm.getD k=l then some ⟨L.b,off,none⟩ else (some (⟨L.b,off,none⟩:Addr)).map (·.add (l*sz))) (h'-l) (mm.getD k-l),by simp[Instr.sliceAt,Instr.slice,run_underlying ht,h1,bn hs],?_⟩
   split at hv
   ·
    rename_i k2
    cases hv
    simp only[Option.getD_some] at hend ⊢
    by_cases hml:k2=l
    ·
     subst hml
     rw[if_pos rfl,if_pos rfl]
     simp only[Rel]
     have e:h'-k2=0:=by omega
     exact⟨L,_,g0,by rw[e],by omega,fun k' hk'=>by cases hk';omega,fun hn=>by cases hn⟩
    ·
     rw[if_neg hml,if_neg hml]
     simp only[Rel]
     exact⟨L,k2-l,g0,by simp[bp],by omega,fun k' hk'=>by cases hk';rfl,fun hn=>by cases hn⟩
   ·
    rename_i k2
    cases hv
    have hkk:=g2 k2 rfl
    subst hkk
    simp only[Option.getD_none] at hend ⊢
    by_cases hml:k=l
    ·
     subst hml
     rw[if_pos rfl,if_pos rfl]
     simp only[Rel]
     have e:h'-k=0:=by omega
     exact⟨L,_,g0,by rw[e],by omega,fun k' hk'=>by cases hk';omega,fun hn=>by cases hn⟩
    ·
     rw[if_neg hml,if_neg hml]
     simp only[Rel]
     exact⟨L,k-l,g0,by simp[bp],by omega,fun k' hk'=>by cases hk';rfl,fun hn=>by cases hn⟩
   ·
    split at hv
    ·
     rename_i cs' t' o' hg
     split at hv
     ·
      rename_i hc
      cases hv
      obtain⟨L',y,q1,q2,q3,c,q4,q5,q6,q7,q8⟩:=m.own id _ hg
      rw[g0] at q1;cases q1
      simp only[Option.getD_none] at hend ⊢
      have hK:=g3 rfl
      have hsz:L.e=sz:=by rw[←q6];exact hc.2
      by_cases hml:k=l
      ·
       rw[if_pos hml]
       have hk0:k=0:=by rcases hc.1 with h0|h0<;>omega
       have hl0:l=0:=by omega
       have hh0:h'=0:=by omega
       subst hk0;subst hl0;subst hh0
       simp only[Rel]
       exact⟨L,0,g0,by simp,by omega,(fun k' hk'=>by cases hk'),fun _=>by simpa using hK⟩
      ·
       rw[if_neg hml]
       simp only[Rel]
       refine⟨L,k-l,g0,by simp[bp],by omega,(fun k' hk'=>by cases hk'),fun _=>?_⟩
       rw[←hsz,Nat.add_assoc,←Nat.add_mul,Nat.add_sub_cancel' (by omega)]
       exact hK
     ·
      cases hv
    ·
     cases hv
  ·
   cases hv
 ·
  rename_i n e cs ht
  split at hv
  ·
   rename_i sz l h' mm hs hb
   split at hv
   ·
    rename_i hc
    cases hv
    simp only[Rel] at hr
    obtain⟨b,o,c,rfl,g3,g4⟩:=hr
    obtain⟨h1,h2,h3,h4,h5⟩:=ff (P:=P) (w:=w) hb hl hh hm false (Nat.le_refl _) (Nat.le_refl _)
    refine⟨.slice (some (if mm.getD n=l then ⟨b,o,none⟩ else (⟨b,o,none⟩:Addr).add (l*sz))) (h'-l) (mm.getD n-l),by simp[Instr.sliceAt,Instr.sureAddr,run_underlying ht,h1,bn hs],?_⟩
    simp only[Rel]
    have g5:RelL F ρ (cs.take (n*sz)) ((c.toList.drop o).take (cs.take (n*sz)).length):=by
     have:=g4.take (n*sz)
     rw[List.take_take] at this
     rw[List.length_take]
     exact this
    have hn:h'≤n:=by
     cases mm with
     |none=>simpa using h3
     |some k'=>have:=h4 k' rfl;simp at h3;omega
    have hcut:(cs.drop (l*sz)).take ((h'-l)*sz)=((cs.take (n*sz)).drop (l*sz)).take ((h'-l)*sz):=by
     rw[List.drop_take,List.take_take]
     have:(h'-l)*sz≤n*sz-l*sz:=by rw[←Nat.sub_mul];exact Nat.mul_le_mul_right _ (by omega)
     rw[Nat.min_eq_left this]
    have hlen:(cs.take (n*sz)).length=n*sz:=by rw[List.length_take];omega
    by_cases hml:mm.getD n=l
    ·
     refine .inr ⟨b,o,c,_,by rw[if_pos hml],by omega,fun k' hk'=>by cases hk';rfl,g3,?_⟩
     rw[hcut]
     exact sS g5 h2 hn hlen (.inr (by omega))
    ·
     refine .inr ⟨b,o+l*sz,c,_,by rw[if_neg hml,bp],by omega,fun k' hk'=>by cases hk';rfl,g3,?_⟩
     rw[hcut]
     exact sS g5 h2 hn hlen (.inl rfl)
   ·
    cases hv
  ·
   cases hv
 ·
  rename_i n e id off ht
  split at hv
  ·
   rename_i sz l h' mm hs hb
   cases hv
   simp only[Rel] at hr
   obtain⟨L,g0,rfl⟩:=hr
   obtain⟨h1,h2,h3,h4,h5⟩:=ff (P:=P) (w:=w) hb hl hh hm false (Nat.le_refl _) (Nat.le_refl _)
   refine⟨.slice (some (if mm.getD n=l then ⟨L.b,off,none⟩ else (⟨L.b,off,none⟩:Addr).add (l*sz))) (h'-l) (mm.getD n-l),by simp[Instr.sliceAt,Instr.sureAddr,run_underlying ht,h1,bn hs],?_⟩
   by_cases hml:mm.getD n=l
   ·
    rw[if_pos hml,if_pos hml]
    simp only[Rel]
    have e:h'-l=0:=by omega
    exact⟨L,_,g0,by rw[e],by omega,fun k' hk'=>by cases hk';omega,fun hn=>by cases hn⟩
   ·
    rw[if_neg hml,if_neg hml]
    simp only[Rel]
    exact⟨L,_,g0,by rw[bp],by omega,fun k' hk'=>by cases hk';rfl,fun hn=>by cases hn⟩
  ·
   cases hv
 ·
  cases hv
theorem px (m:Mem P F ρ h w0 O w){t:TypeId}{len cap:Val}{i:Nat}{v:Val}{x y:Value}{h':Heap}(hv:mn P t len cap h i=some (v,h'))(hi:ρ i=none)(hr:Rel F ρ len x)(hr':Rel F ρ cap y) :
  ∃ρ' z w',(Instr.makeSlice t x y).run P w=.ok z w'∧PLe ρ ρ'∧(∀j,j≠i→ρ' j=ρ j)∧Rel F ρ' v z∧Mem P F ρ' h' w0 O w':=by
 unfold mn at hv
 split at hv
 ·
  rename_i e l c ht
  split at hv
  ·
   rename_i ie hie
   split at hv
   ·
    rename_i zs hz
    split at hv
    ·
     rename_i hc
     cases hv
     obtain⟨h1,h2,h3,h4,h5⟩:=hc
     simp only[Rel] at hr hr'
     subst hr;subst hr'
     obtain⟨z,hz1,hz2⟩:=gN (F:=F) (ρ:=ρ) hz
     have hrow:RelL F ρ (if c.toNat*ie.size=0 then [] else jB zs (c.toNat*ie.size)) (madeCells z.cells (c.toNat*ie.size)).toList:=by
      unfold madeCells
      by_cases h0:c.toNat*ie.size=0
      ·
       rw[if_pos h0,h0];simp[RelL]
      ·
       rw[if_neg h0]
       exact mY _ hz2 (h5.resolve_left h0)
     obtain⟨ρ',q1,q2,q3,q4⟩:=m.row hi (t:=e) hrow
     refine⟨ρ',.slice (some ⟨w.heap.size,0,none⟩) l.toNat c.toNat,_,?_,q1,q2,?_,q4⟩
     ·
      refine run_make w t e ie z ht hie hz1 .i64 .i64 l c h1 h2 ?_ (by omega)
      have:((c.toNat*ie.bytes:Nat):Int)≤1099511627776:=by omega
      rw[Int.natCast_mul,Int.toNat_of_nonneg (by omega),Int.mul_comm] at this
      omega
     ·
      simp only[Rel]
      exact⟨_,_,q3,rfl,by omega,fun k' hk=>by cases hk;rfl,fun hn=>by cases hn⟩
    ·
     cases hv
   ·
    cases hv
  ·
   cases hv
 ·
  cases hv
end
end Go.V
end
section
namespace Go.V
open Go
def ei (P:Program)(t:TypeId)(h:Heap)(u:Val)(sz:Nat):Option (List Val×Nat):=
 match P.underlying t,u with
 |some (.slice _),.nils=>some ([],0)
 |some (.slice _),.sle=>some ([],0)
 |some (.slice _),.sl cs n _=>if cs.length=n*sz∧ai cs=true then some (cs,n) else none
 |some (.slice _),.so id off n _=>match get h id with
  |some (.cells bcs _ _)=>if off+n*sz≤bcs.length∧ai ((bcs.drop off).take (n*sz))=true then some ((bcs.drop off).take (n*sz),n) else none
  |_=>none
 |some .string,.str l=>if sz=1 then some (l.map fun b=>.int .u8 b.toNat,l.length) else none
 |_,_=>none
def bP (P:Program)(t tx:TypeId)(h:Heap)(u v:Val)(i:Nat):Option (Val×Heap):=
 match P.underlying t with
 |some (.slice e)=>match P.info? e with
  |some ie=>match ei P tx h v ie.size,gC ie with
   |some (news,m),some zs=>
    if zs.length≠ie.size∨ie.size=0∨ie.bytes=0 then none else
    match u with
    |.nils=>if m=0 then some (.nils,h) else if m*ie.bytes≤140737488355328 then some (.so i 0 m none,put h i (.cells news e true)) else none
    |.sl cs n (some k)=>
     if m=0 then some (u,h) else
     if k<n+m∧cs.length=n*ie.size∧(n+m)*ie.bytes≤140737488355328 then some (.so i 0 (n+m) none,put h i (.cells (cs++news) e true)) else none
    |.so id off n cap=>match get h id with
     |some (.cells cs e' o)=>
      if m=0 then some (u,h) else
      if P.cellsOf e'≠ie.size then none else
      match cap with
      |some k=>
       if n+m≤k then (if off+(n+m)*ie.size≤cs.length then some (.so id off (n+m) (some k),put h id (.cells (aX cs (off+n*ie.size) news) e' o)) else none)
       else if off+n*ie.size≤cs.length∧(n+m)*ie.bytes≤140737488355328 then some (.so i 0 (n+m) none,put h i (.cells ((cs.drop off).take (n*ie.size)++news) e true)) else none
      |none=>
       if off+(n+m)*ie.size≤cs.length then some (.so id off (n+m) none,put h id (.cells (aX cs (off+n*ie.size) news) e' o))
       else if off=0∧n*ie.size≤cs.length∧(n+m)*ie.bytes≤140737488355328∧e'=e then some (.so i 0 (n+m) none,put (del h id) i (.cells (cs.take (n*ie.size)++news) e true)) else none
     |_=>none
    |_=>none
   |_,_=>none
  |none=>none
 |_=>none
section
variable {P:Program} {F:Fro} {ρ:Pl} {h:Heap} {w0 w:World} {O:Nat→Prop}
theorem l9 (m:Mem P F ρ h w0 O w){t:TypeId}{u:Val}{sz n:Nat}{cs:List Val}{x:Value}(hv:ei P t h u sz=some (cs,n))(hr:Rel F ρ u x) :
  ∃xs,RelL F ρ cs xs∧Src P sz t x n xs w∧ai cs=true∧(n=0→cs=[]):=by
 unfold ei at hv
 split at hv
 ·
  rename_i e ht
  cases hv
  simp only[Rel] at hr
  subst hr
  exact⟨[],.nil,Src.ofNil w ht 0,rfl,fun _=>rfl⟩
 ·
  rename_i e ht
  cases hv
  simp only[Rel] at hr
  obtain⟨p0,k,rfl⟩:=hr
  exact⟨[],.nil,Src.ofSlice w ht _ 0 k [] (by simp) (by simp) (by simp),rfl,fun _=>rfl⟩
 ·
  rename_i e cs' n' cap ht
  split at hv
  ·
   rename_i hc
   cases hv
   simp only[Rel] at hr
   rcases hr with ⟨rfl|⟨p0,rfl⟩,rfl,rfl,_⟩|⟨b,o,c,k,rfl,h1,h2,h3,h4⟩
   ·
    exact⟨[],.nil,Src.ofNil w ht _,rfl,fun _=>rfl⟩
   ·
    exact⟨[],.nil,Src.ofSlice w ht _ 0 0 [] (by simp) (by simp) (by simp),rfl,fun _=>rfl⟩
   obtain⟨e1,fr,hb⟩:=m.fro b c h3
   have hlen:((c.toList.drop o).take cs.length).length=n*sz:=by rw[h4.length];exact hc.1
   exact⟨_,h4,Src.ofSlice w ht _ n k _ hlen (fun j v hj=>by
    rw[bp,gY hb]
    rw[List.getElem?_take] at hj
    split at hj
    ·
     rw[List.getElem?_drop] at hj;simpa using hj
    ·
     cases hj) (fJ h4 hc.2),hc.2,fun h0=>by subst h0;exact List.eq_nil_of_length_eq_zero (by simpa using hc.1)⟩
  ·
   cases hv
 ·
  rename_i e id off n' cap ht
  split at hv
  ·
   rename_i bcs t' o hg
   split at hv
   ·
    rename_i hc
    cases hv
    simp only[Rel] at hr
    obtain⟨L,k,h1,rfl,h2⟩:=hr
    obtain⟨L',y,q1,q2,q3,c,rfl,q5,q6,q7,q8⟩:=m.own id _ hg
    rw[h1] at q1;cases q1
    have h4:=(q7.drop off).take (n*sz)
    have hlen:(((c.toList.take bcs.length).drop off).take (n*sz)).length=n*sz:=by rw[h4.length,List.length_take,List.length_drop];omega
    exact⟨_,h4,Src.ofSlice w ht _ n k _ hlen (fun j v hj=>by
     rw[bp,gY q3]
     rw[List.getElem?_take] at hj
     split at hj
     ·
      rw[List.getElem?_drop,List.getElem?_take] at hj
      split at hj
      ·
       simpa using hj
      ·
       cases hj
     ·
      cases hj) (fJ h4 hc.2),hc.2,fun h0=>by subst h0;simp⟩
   ·
    cases hv
  ·
   cases hv
 ·
  rename_i l ht
  split at hv
  ·
   rename_i hs
   subst hs
   cases hv
   simp only[Rel] at hr
   subst hr
   have hsz:(⟨l.toArray⟩:ByteArray).size=l.length:=by simp[ByteArray.size]
   refine⟨byteCells ⟨l.toArray⟩,?_,?_,?_,fun h0=>by rw[List.eq_nil_of_length_eq_zero h0];rfl⟩
   ·
    unfold byteCells
    simp only[]
    generalize l=l'
    induction l' with
    |nil=>exact .nil
    |cons a r ih=>exact .cons (by simp[Rel]) ih
   ·
    have:=Src.ofString (P:=P) w ht ⟨l.toArray⟩
    rw[hsz] at this
    exact this
   ·
    generalize l=l'
    induction l' with
    |nil=>rfl
    |cons a r ih=>simp[ai,gq,ih]
  ·
   cases hv
 ·
  cases hv
theorem gx (t tx ty e:TypeId)(i:TypeInfo)(ht:P.underlying t=some (.slice e))(hi:P.info? e=some i)(b off sLen sCap:Nat)(x:Value)(n:Nat)(news:List Value)(hs:Src P i.size tx x n news w)
  (hroom:sLen+n≤sCap) {w':World} (hst:(storeCells ⟨b,off+sLen*i.size,none⟩ news).run P w=.ok () w') :
  (Builtin.append_ #[t,tx] ty #[.slice (some ⟨b,off,none⟩) sLen sCap,x]).run P w=.ok (.slice (some ⟨b,off,none⟩) (sLen+n) sCap) w':=by
 rcases hs.kind with ⟨e',hk⟩|hk<;>simp[Builtin.append_,run_underlying ht,run_underlying hk,sizeOf,typeInfo,hi,hs.len,hroom,hs.cells,bp,hst]
theorem oC (t tx ty e:TypeId)(i:TypeInfo)(ht:P.underlying t=some (.slice e))(hi:P.info? e=some i)(a:Option Addr)(sLen sCap:Nat)(x:Value)(hs:Src P i.size tx x 0 [] w)(hle:sLen≤sCap) :
  (Builtin.append_ #[t,tx] ty #[.slice a sLen sCap,x]).run P w=.ok (.slice a sLen sCap) w:=by
 rcases hs.kind with ⟨e',hk⟩|hk<;>cases a<;>simp[Builtin.append_,run_underlying ht,run_underlying hk,sizeOf,typeInfo,hi,hs.len,hle,hs.cells,storeCells]
theorem Mem.rowOpen (m:Mem P F ρ h w0 O w){i:Nat}(hi:ρ i=none){t:TypeId}{cs:List Val}{xs:List Value}{rest:Array Value}(hr:RelL F ρ cs xs) :
  ∃ρ',PLe ρ ρ'∧(∀j,j≠i→ρ' j=ρ j)∧ρ' i=some ⟨w.heap.size,xs.length+rest.size,P.cellsOf t⟩∧Mem P F ρ' (put h i (.cells cs t true)) w0 O (w.drew.alloc (.cells (xs.toArray++rest) t)):=by
 have hle:=pg (⟨w.heap.size,xs.length+rest.size,P.cellsOf t⟩:Loc) hi
 have hl:=hr.length
 obtain⟨m',_⟩:=m.alloc (K:=xs.length+rest.size) (e:=P.cellsOf t) (blk:=.cells cs t true) (x:=.cells (xs.toArray++rest) t) (w':=w.drew.alloc (.cells (xs.toArray++rest) t)) hi
  ⟨xs.toArray++rest,rfl,by simp,rfl,by
   have:((xs.toArray++rest).toList).take cs.length=xs:=by simp[←hl]
   rw[this];exact RelL.mono (FLe.refl F) hle _ _ hr,fun hf=>by cases hf⟩ rfl rfl rfl rfl
 exact⟨_,hle,fun j hj=>by unfold upd;rw[if_neg (fun e=>hj e.symm)],by unfold upd;rw[if_pos rfl],m'⟩
theorem Mem.rename (m:Mem P F ρ h w0 O w){id i:Nat}{blk:Blk}{L:Loc}(hg:get h id=some blk)(hL:ρ id=some L)(hi:ρ i=none) :
  Mem P F (upd ρ i L) (put (del h id) i blk) w0 O w∧PLe ρ (upd ρ i L):=by
 have hle:=pg L hi
 have key:∀j M,(get (put (del h id) i blk) j).isSome→upd ρ i L j=some M→∃j',(get h j').isSome∧ρ j'=some M∧((j=i∧j'=id)∨(j≠i∧j'=j∧j≠id)):=by
  intro j M hj hM
  rw[eb,mM] at hj
  unfold upd at hM
  by_cases e:i=j
  ·
   rw[if_pos e] at hM;cases hM;exact⟨id,by simp[hg],hL,.inl ⟨e.symm,rfl⟩⟩
  ·
   rw[if_neg e] at hj hM
   by_cases e2:id=j
   ·
    rw[if_pos e2] at hj;cases hj
   ·
    rw[if_neg e2] at hj;exact⟨j,hj,hM,.inr ⟨fun h=>e h.symm,rfl,fun h=>e2 h.symm⟩⟩
 refine⟨⟨m.fro,fun j b hj=>?_,fun j k Lj Lk hj hk hLj hLk hb=>?_,fun j M hj hM=>?_,m.fr⟩,hle⟩
 ·
  rw[eb,mM] at hj
  by_cases e:i=j
  ·
   rw[if_pos e] at hj
   cases hj
   obtain⟨L',x,h1,h2,h3,h4⟩:=m.own id _ hg
   rw[hL] at h1;cases h1
   exact⟨L,x,by unfold upd;rw[if_pos e],h2,h3,h4.mono P (FLe.refl F) hle⟩
  ·
   rw[if_neg e] at hj
   by_cases e2:id=j
   ·
    rw[if_pos e2] at hj;cases hj
   ·
    rw[if_neg e2] at hj
    obtain⟨L',x,h1,h2,h3,h4⟩:=m.own j _ hj
    exact⟨L',x,hle _ _ h1,h2,h3,h4.mono P (FLe.refl F) hle⟩
 ·
  obtain⟨j',g1,g2,g3⟩:=key j Lj hj hLj
  obtain⟨k',g4,g5,g6⟩:=key k Lk hk hLk
  have:=m.inj j' k' Lj Lk g1 g4 g2 g5 hb
  subst this
  rcases g3 with ⟨a1,a2⟩|⟨a1,a2,a3⟩<;>rcases g6 with ⟨b1,b2⟩|⟨b1,b2,b3⟩
  ·
   rw[a1,b1]
  ·
   exact(b3 (b2.symm.trans a2)).elim
  ·
   exact(a3 (a2.symm.trans b2)).elim
  ·
   exact a2.symm.trans b2
 ·
  obtain⟨j',g1,g2,_⟩:=key j M hj hM
  exact m.ours j' M g1 g2
theorem Mem.writeOn (m:Mem P F ρ h w0 O w){id off:Nat}{cs vc:List Val}{t:TypeId}{L:Loc}{ys:List Value}
  (hg:get h id=some (.cells cs t true)) (hL:ρ id=some L) (h0:off≤cs.length) (h1':cs.length≤off+vc.length) (hl:off+vc.length≤L.K) (hv:RelL F ρ vc ys) (hc:ai vc=true) :
  ∃w',(storeCells ⟨L.b,off,none⟩ ys).run P w=.ok () w'∧Mem P F ρ (put h id (.cells (cs.take off++vc) t true)) w0 O w':=by
 obtain⟨L',x,h1,h2,h3,c,rfl,h5,h6,h7,h8⟩:=m.own id _ hg
 rw[hL] at h1;cases h1
 have hlc:cs.length≤c.size:=by have:=h7.length;simp at this;omega
 have hy:=hv.length
 have hst:=run_storeCells_at P L.b off t ys 0 c w h3 (by omega) (fJ hv hc)
 refine⟨_,hst,m.set (L:=L) (by simp[hg]) hL (x:=.cells (c.toList.take (off+0)++ys++c.toList.drop (off+0+ys.length)).toArray t (0,0)) ?_ ?_ ?_ ?_ rfl rfl rfl⟩
 ·
  refine⟨_,rfl,?_,h6,?_,fun ho=>by cases ho⟩
  ·
   rw[←h5];simp;omega
  ·
   have e:(cs.take off++vc).length=off+ys.length:=by simp;omega
   rw[e]
   have e2:((c.toList.take (off+0)++ys++c.toList.drop (off+0+ys.length)).toArray.toList).take (off+ys.length)=c.toList.take off++ys:=by
    have:(c.toList.take (off+0)++ys).length=off+ys.length:=by simp;omega
    rw[List.toList_toArray,←this,List.take_left]
    simp
   rw[e2]
   have:=h7.take off
   rw[List.take_take,Nat.min_eq_left h0] at this
   exact this.append hv
 ·
  exact setRow_heap w L.b c _ t _ h3
 ·
  simp[World.setRow]
 ·
  intro k hk
  simp[World.setRow,Array.getElem?_modify]
  intro e;exact(hk e.symm).elim
end
end Go.V
end
section
namespace Go.V
open Go
section
variable {P:Program} {F:Fro} {ρ:Pl} {h:Heap} {w0 w:World} {O:Nat→Prop}
theorem xL {n m b:Nat}(h:(n+m)*b≤140737488355328)(hb:0<b):((n+m:Nat):Int)≤9223372036854775807:=by
 have:(n+m)*1≤(n+m)*b:=Nat.mul_le_mul_left _ hb
 omega
theorem iU (m:Mem P F ρ h w0 O w){t tx ty e:TypeId}{i:Nat}{ie:TypeInfo}{zs olds news:List Val}{oxs nxs:List Value}{base:Option Addr}{n k mm:Nat}{y:Value}
  (ht:P.underlying t=some (.slice e)) (hie:P.info? e=some ie) (hz:gC ie=some zs) (hzl:zs.length=ie.size) (hi:ρ i=none)
  (hold:(Builtin.firstCells ie.size n (.slice base n k)).run P w.drew=.ok oxs.toArray w.drew) (hol:oxs.length=n*ie.size) (ho:RelL F ρ olds oxs)
  (hs:Src P ie.size tx y mm nxs w) (hn:RelL F ρ news nxs) (hg:k<n+mm) (h63:((n+mm:Nat):Int)≤9223372036854775807) (hfit:(n+mm)*ie.bytes≤140737488355328) :
  ∃ρ' z w',(Builtin.append_ #[t,tx] ty #[.slice base n k,y]).run P w=.ok z w'∧PLe ρ ρ'∧(∀j,j≠i→ρ' j=ρ j)∧Rel F ρ' (.so i 0 (n+mm) none) z∧Mem P F ρ' (put h i (.cells (olds++news) e true)) w0 O w':=by
 obtain⟨z,hz1,hz2⟩:=gN (F:=F) (ρ:=ρ) hz
 have hrun:=run_append_grow_src (P:=P) w t tx ty e ie z ht hie hz1 base n k oxs hold y mm nxs hs hg h63 (growslice_fits hg hfit)
 obtain⟨ρ',g1,g2,g3,g4⟩:=m.rowOpen hi (t:=e) (rest:=Builtin.zeroCells z.cells (grownCap w (n+mm) k e-(n+mm))) (ho.append hn)
 refine⟨ρ',_,_,hrun,g1,g2,?_,g4⟩
 simp only[Rel]
 have hcap:=grownCap_ge w (n+mm) k e
 refine⟨_,_,g3,rfl,hcap,(fun k' hk=>by cases hk),fun _=>?_⟩
 have hzc:z.cells.size=ie.size:=by have:=hz2.length;simp at this;omega
 have hce:P.cellsOf e=ie.size:=by simp[Program.cellsOf,hie]
 rw[size_zeroCells,hzc,List.length_append,hol,hs.newsLen,hce]
 rw[←Nat.add_mul,←Nat.add_mul,Nat.zero_add]
 congr 1
 omega
theorem fZ (m:Mem P F ρ h w0 O w){t tx ty:TypeId}{u v r:Val}{i:Nat}{x y:Value}{h':Heap}(hv:bP P t tx h u v i=some (r,h'))(hi:ρ i=none)(hr:Rel F ρ u x)(hr':Rel F ρ v y) :
  ∃ρ' z w',(Builtin.append_ #[t,tx] ty #[x,y]).run P w=.ok z w'∧PLe ρ ρ'∧(∀j,j≠i→ρ' j=ρ j)∧Rel F ρ' r z∧Mem P F ρ' h' w0 O w':=by
 unfold bP at hv
 split at hv
 ·
  rename_i e ht
  split at hv
  ·
   rename_i ie hie
   split at hv
   ·
    rename_i news mm zs hsrc hz
    obtain⟨nxs,hn,hs,hcl,hnil⟩:=l9 m hsrc hr'
    split at hv
    ·
     cases hv
    ·
     rename_i hsz
     rw[not_or,not_or] at hsz
     have hby:0<ie.bytes:=by omega
     have hzl:zs.length=ie.size:=by omega
     have same:∀(a:Option Addr) (n k:Nat),x=.slice a n k→n≤k→mm=0→(Builtin.append_ #[t,tx] ty #[x,y]).run P w=.ok x w:=by
      intro a n k hx hle h0
      subst hx;subst h0
      have:=hnil rfl;subst this
      simp only[RelL] at hn;subst hn
      exact oC t tx ty e ie ht hie a n k y hs hle
     split at hv
     ·
      simp only[Rel] at hr
      subst hr
      split at hv
      ·
       rename_i h0
       cases hv
       exact⟨ρ,_,w,same none 0 0 rfl (Nat.le_refl _) h0,PLe.refl ρ,fun _ _=>rfl,by simp[Rel],m⟩
      ·
       rename_i h0
       split at hv
       ·
        rename_i hb
        cases hv
        have:=iU (olds:=[]) (oxs:=[]) (base:=none) (n:=0) (k:=0) (ty:=ty) m ht hie hz hzl hi (run_firstCells_none _ _ _ _ _) (by simp) .nil hs hn (by omega) (xL (by simpa using hb) hby) (by simpa using hb)
        simpa using this
       ·
        cases hv
     ·
      rename_i cs n k
      simp only[Rel] at hr
      rcases hr with ⟨rfl|⟨p0,rfl⟩,rfl,rfl,g0⟩|⟨b,o,c,k',rfl,g1,g2,g3,g4⟩
      ·
       split at hv
       ·
        rename_i h0
        cases hv
        exact⟨ρ,_,w,same none 0 0 rfl (Nat.le_refl _) h0,PLe.refl ρ,fun _ _=>rfl,by rw[Rel];exact .inl ⟨.inl rfl,rfl,rfl,g0⟩,m⟩
       ·
        rename_i h0
        split at hv
        ·
         rename_i hc
         cases hv
         have:=iU (olds:=[]) (oxs:=[]) (base:=none) (n:=0) (k:=0) (ty:=ty) m ht hie hz hzl hi (run_firstCells_none _ _ _ _ _) (by simp) .nil hs hn (by omega) (xL (by simpa using hc.2.2) hby) (by simpa using hc.2.2)
         simpa using this
        ·
         cases hv
      ·
       split at hv
       ·
        rename_i h0
        cases hv
        exact⟨ρ,_,w,same (some p0) 0 0 rfl (Nat.le_refl _) h0,PLe.refl ρ,fun _ _=>rfl,by rw[Rel];exact .inl ⟨.inr ⟨p0,rfl⟩,rfl,rfl,g0⟩,m⟩
       ·
        rename_i h0
        split at hv
        ·
         rename_i hc
         cases hv
         have:=iU (olds:=[]) (oxs:=[]) (base:=some p0) (n:=0) (k:=0) (ty:=ty) m ht hie hz hzl hi (by simpa using run_firstCells_some _ _ _ _ _ _ [] (by simp) (by simp)) (by simp) .nil hs hn (by omega) (xL (by simpa using hc.2.2) hby) (by simpa using hc.2.2)
         simpa using this
        ·
         cases hv
      split at hv
      ·
       rename_i h0
       cases hv
       exact⟨ρ,_,w,same _ _ _ rfl g1 h0,PLe.refl ρ,fun _ _=>rfl,by simp only[Rel];exact .inr ⟨b,o,c,k',rfl,g1,g2,g3,g4⟩,m⟩
      ·
       split at hv
       ·
        rename_i hc
        cases hv
        obtain⟨e1,fr,hb⟩:=m.fro b c g3
        have hlen:((c.toList.drop o).take cs.length).length=n*ie.size:=by rw[g4.length];exact hc.2.1
        have hk:=g2 k rfl
        exact iU (ty:=ty) m ht hie hz hzl hi (run_firstCells_some _ _ _ _ _ _ _ hlen (fun j v hj=>by
         rw[bp]
         show w.cell? _=_
         rw[gY hb]
         rw[List.getElem?_take] at hj
         split at hj
         ·
          rw[List.getElem?_drop] at hj;simpa using hj
         ·
          cases hj)) hlen g4 hs hn (by omega) (xL hc.2.2 hby) hc.2.2
       ·
        cases hv
     ·
      rename_i id off n cap
      split at hv
      ·
       rename_i cs e' o hg
       simp only[Rel] at hr
       obtain⟨L,k,g1,rfl,g2,g3,g4⟩:=hr
       split at hv
       ·
        rename_i h0
        cases hv
        exact⟨ρ,_,w,same _ _ _ rfl g2 h0,PLe.refl ρ,fun _ _=>rfl,by simp only[Rel];exact⟨L,k,g1,rfl,g2,g3,g4⟩,m⟩
       ·
        rename_i h0
        split at hv
        ·
         cases hv
        ·
         rename_i hce
         obtain⟨L',x',q1,q2,q3,c,rfl,q5,q6,q7,q8⟩:=m.own id _ hg
         rw[g1] at q1;cases q1
         have hnl:=hn.length
         have hnm:=hs.newsLen
         have inPlace:off+(n+mm)*ie.size≤cs.length→n+mm≤k→∃w',(Builtin.append_ #[t,tx] ty #[.slice (some ⟨L.b,off,none⟩) n k,y]).run P w=.ok (.slice (some ⟨L.b,off,none⟩) (n+mm) k) w'∧Mem P F ρ (put h id (.cells (aX cs (off+n*ie.size) news) e' o)) w0 O w':=by
          intro hle hk
          obtain⟨w',a1,a2⟩:=m.write (off:=off+n*ie.size) hg g1 (by rw[←hnl,hnm,Nat.add_assoc,←Nat.add_mul];exact hle) hn hcl
          exact⟨w',gx t tx ty e ie ht hie L.b off n k y mm nxs hs hk a1,a2⟩
         have regrow:off+n*ie.size≤cs.length→(n+mm)*ie.bytes≤140737488355328→k<n+mm→∃ρ' z w',(Builtin.append_ #[t,tx] ty #[.slice (some ⟨L.b,off,none⟩) n k,y]).run P w=.ok z w'∧PLe ρ ρ'∧(∀j,j≠i→ρ' j=ρ j)∧Rel F ρ' (.so i 0 (n+mm) none) z∧Mem P F ρ' (put h i (.cells ((cs.drop off).take (n*ie.size)++news) e true)) w0 O w':=by
          intro hle hb hk
          have g5:=(q7.drop off).take (n*ie.size)
          have hlen:(((c.toList.take cs.length).drop off).take (n*ie.size)).length=n*ie.size:=by rw[g5.length,List.length_take,List.length_drop];omega
          exact iU (ty:=ty) m ht hie hz hzl hi (run_firstCells_some _ _ _ _ _ _ _ hlen (fun j v hj=>by
           rw[bp]
           show w.cell? _=_
           rw[gY q3]
           rw[List.getElem?_take] at hj
           split at hj
           ·
            rw[List.getElem?_drop,List.getElem?_take] at hj
            split at hj
            ·
             simpa using hj
            ·
             cases hj
           ·
            cases hj)) hlen g5 hs hn hk (xL hb hby) hb
         split at hv
         ·
          rename_i k2
          have hk2:=g3 k2 rfl
          subst hk2
          split at hv
          ·
           rename_i hle
           split at hv
           ·
            rename_i hc
            cases hv
            obtain⟨w',a1,a2⟩:=inPlace hc hle
            exact⟨ρ,_,w',a1,PLe.refl ρ,fun _ _=>rfl,by simp only[Rel];exact⟨L,k,g1,rfl,hle,fun k' hk=>by cases hk;rfl,fun hn=>by cases hn⟩,a2⟩
           ·
            cases hv
          ·
           rename_i hle
           split at hv
           ·
            rename_i hc
            cases hv
            exact regrow hc.1 hc.2 (by omega)
           ·
            cases hv
         ·
          have hK:=g4 rfl
          have hLe:L.e=ie.size:=by rw[←q6];omega
          have hcK:cs.length≤L.K:=by have:=q7.length;simp at this;omega
          split at hv
          ·
           rename_i hc
           cases hv
           have hle:n+mm≤k:=by
            have:(n+mm)*ie.size≤k*ie.size:=by rw[hLe] at hK;omega
            exact Nat.le_of_mul_le_mul_right this (by omega)
           obtain⟨w',a1,a2⟩:=inPlace hc hle
           exact⟨ρ,_,w',a1,PLe.refl ρ,fun _ _=>rfl,by simp only[Rel];exact⟨L,k,g1,rfl,hle,(fun k' hk=>by cases hk),fun _=>hK⟩,a2⟩
          ·
           split at hv
           ·
            rename_i hnc hc
            obtain⟨c1,c2,c3,c4⟩:=hc
            cases hv
            subst c1
            subst c4
            by_cases hk:n+mm≤k
            ·
             -- in place
             have hfit:(n+mm)*ie.size≤L.K:=by
              have:(n+mm)*ie.size≤k*ie.size:=Nat.mul_le_mul_right _ hk
              rw[hLe] at hK;omega
             have hopn:o=true:=by
              cases o with
              |true=>rfl
              |false=>have:=q8 rfl;omega
             subst hopn
             obtain⟨w',a1,a2⟩:=m.writeOn (off:=0+n*ie.size) hg g1 (by omega) (by rw[←hnl,hnm];rw[Nat.add_mul] at hnc;omega) (by rw[←hnl,hnm];rw[Nat.add_mul] at hfit;omega) hn hcl
             have hrun:=gx t tx ty e' ie ht hie L.b 0 n k y mm nxs hs hk a1
             obtain⟨m2,hle2⟩:=a2.rename (id:=id) (i:=i) (L:=L) (by rw[eb,if_pos rfl]) g1 hi
             refine⟨_,_,w',hrun,hle2,fun j hj=>by unfold upd;rw[if_neg (fun e=>hj e.symm)],?_,?_⟩
             ·
              simp only[Rel]
              exact⟨L,k,by unfold upd;rw[if_pos rfl],rfl,hk,(fun k' hk=>by cases hk),fun _=>hK⟩
             ·
              refine m2.sub (fun j b hj=>?_)
              rw[eb,mM] at hj ⊢
              by_cases e1:i=j
              ·
               rw[if_pos e1] at hj ⊢;simpa using hj
              ·
               rw[if_neg e1] at hj ⊢
               by_cases e2:id=j
               ·
                rw[if_pos e2] at hj;cases hj
               ·
                rw[if_neg e2] at hj ⊢;rw[eb,if_neg e2];exact hj
            ·
             obtain⟨ρ',z,w',a1,a2,a3,a4,a5⟩:=regrow (by omega) c3 (by omega)
             refine⟨ρ',z,w',a1,a2,a3,a4,a5.sub (fun j b hj=>?_)⟩
             rw[eb] at hj ⊢
             by_cases e1:i=j
             ·
              rw[if_pos e1] at hj ⊢;simpa using hj
             ·
              rw[if_neg e1] at hj ⊢
              exact vB hj
           ·
            cases hv
      ·
       cases hv
     ·
      cases hv
   ·
    cases hv
  ·
   cases hv
 ·
  cases hv
def wg (P:Program)(t tx:TypeId)(h:Heap)(u:Val)(mm:Int)(i:Nat):Option (Val×Heap):=
 match P.underlying t,P.underlying tx,u with
 |some (.slice e),some (.int _),.so id off n (some k)=>match P.info? e,get h id with
  |some ie,some (.cells cs _ _)=>match gC ie with
   |some zs=>
    if 0<mm∧k<n+mm.toNat∧zs.length=ie.size∧0<ie.size∧0<ie.bytes∧off+n*ie.size≤cs.length∧ai ((cs.drop off).take (n*ie.size))=true∧(n+mm.toNat)*ie.bytes≤140737488355328 then
     some (.so i 0 (n+mm.toNat) none,put h i (.cells ((cs.drop off).take (n*ie.size)++jB zs (mm.toNat*ie.size)) e true))
    else none
   |none=>none
  |_,_=>none
 |_,_,_=>none
theorem u7 (m:Mem P F ρ h w0 O w){t tx ty:TypeId}{u r:Val}{kq:IntKind}{mm:Int}{i:Nat}{x:Value}{h':Heap}(hv:wg P t tx h u mm i=some (r,h'))(hi:ρ i=none)(hr:Rel F ρ u x) :
  ∃ρ' z w',(Builtin.append_ #[t,tx] ty #[x,.int kq mm]).run P w=.ok z w'∧PLe ρ ρ'∧(∀j,j≠i→ρ' j=ρ j)∧Rel F ρ' r z∧Mem P F ρ' h' w0 O w':=by
 unfold wg at hv
 split at hv
 ·
  rename_i e kn id off n k ht htn
  split at hv
  ·
   rename_i ie cs t' o hie hg
   split at hv
   ·
    rename_i zs hz
    split at hv
    ·
     rename_i hc
     obtain⟨c1,c2,c3,c4,c5,c6,c7,c8⟩:=hc
     cases hv
     obtain⟨q,rfl⟩:∃q:Nat,mm=(q:Int):=⟨mm.toNat,by omega⟩
     rw[Int.toNat_natCast] at *
     simp only[Rel] at hr
     obtain⟨L,k',g1,rfl,g2,g3,g4⟩:=hr
     have:=g3 k rfl
     subst this
     obtain⟨L',x',q1,q2,q3,c,rfl,q5,q6,q7,q8⟩:=m.own id _ hg
     rw[g1] at q1;cases q1
     obtain⟨z,hz1,hz2⟩:=gN (F:=F) (ρ:=ρ) hz
     have g5:=(q7.drop off).take (n*ie.size)
     have hlen:(((c.toList.take cs.length).drop off).take (n*ie.size)).length=n*ie.size:=by rw[g5.length,List.length_take,List.length_drop];omega
     have hfit:=growslice_fits c2 c8
     have hrun:=Lib.run_append_grow_zeros (P:=P) w t tx ty e ie z kq kn ht htn hie hz1 (some ⟨L.b,off,none⟩) n k' (((c.toList.take cs.length).drop off).take (n*ie.size)) (run_firstCells_some _ _ _ _ _ _ _ hlen (fun j v hj=>by
      rw[bp]
      show w.cell? _=_
      rw[gY q3]
      rw[List.getElem?_take] at hj
      split at hj
      ·
       rw[List.getElem?_drop,List.getElem?_take] at hj
       split at hj
       ·
        simpa using hj
       ·
        cases hj
      ·
       cases hj)) q (by omega) c4 c2 (xL c8 c5) (by have:q*ie.bytes≤(n+q)*ie.bytes:=Nat.mul_le_mul_right _ (by omega);omega) hfit
     have hzc:z.cells.size=ie.size:=by have:=hz2.length;simp at this;omega
     have hrow:RelL F ρ (jB zs (q*ie.size)) (Builtin.zeroCells z.cells q).toList:=by
      have hq:q*z.cells.size=q*ie.size:=by rw[hzc]
      unfold Builtin.zeroCells
      rw[hq]
      exact mY (z:=z.cells) (q*ie.size) hz2 (by intro h0;rw[h0] at c3;simp at c3;omega)
     obtain⟨ρ',a1,a2,a3,a4⟩:=m.rowOpen hi (t:=e) (rest:=Builtin.zeroCells z.cells (grownCap w (n+q) k' e-(n+q))) (g5.append hrow)
     refine⟨ρ',_,_,hrun,a1,a2,?_,?_⟩
     ·
      simp only[Rel]
      have hcap:=grownCap_ge w (n+q) k' e
      refine⟨_,_,a3,rfl,hcap,(fun k' hk=>by cases hk),fun _=>?_⟩
      have hce:P.cellsOf e=ie.size:=by simp[Program.cellsOf,hie]
      rw[size_zeroCells,hzc,List.length_append,hlen,hce,Array.length_toList,size_zeroCells,hzc]
      rw[←Nat.add_mul,←Nat.add_mul,Nat.zero_add]
      congr 1
      omega
     ·
      have e1:∀(l1:List Value) (l2 l3:Array Value),(l1++l2.toList).toArray++l3=l1.toArray++l2++l3:=fun l1 l2 l3=>by apply Array.toList_inj.1;simp
      rw[←e1]
      exact a4
    ·
     cases hv
   ·
    cases hv
  ·
   cases hv
 ·
  cases hv
def uX (P:Program)(t tx:TypeId)(h:Heap)(u v:Val)(i:Nat):Option (Val×Heap):=
 match v with
 |.int _ mm=>wg P t tx h u mm i
 |.so a b c d=>bP P t tx h u (.so a b c d) i
 |.sl a b c=>bP P t tx h u (.sl a b c) i
 |.nils=>bP P t tx h u .nils i
 |.sle=>bP P t tx h u .sle i
 |.str s=>bP P t tx h u (.str s) i
 |_=>none
theorem uY (m:Mem P F ρ h w0 O w){t tx ty:TypeId}{u v r:Val}{i:Nat}{x y:Value}{h':Heap}(hv:uX P t tx h u v i=some (r,h'))(hi:ρ i=none)(hr:Rel F ρ u x)(hr':Rel F ρ v y) :
  ∃ρ' z w',(Builtin.append_ #[t,tx] ty #[x,y]).run P w=.ok z w'∧PLe ρ ρ'∧(∀j,j≠i→ρ' j=ρ j)∧Rel F ρ' r z∧Mem P F ρ' h' w0 O w':=by
 unfold uX at hv
 split at hv
 ·
  simp only[Rel] at hr'
  subst hr'
  exact u7 m hv hi hr
 ·
  exact fZ m hv hi hr hr'
 ·
  exact fZ m hv hi hr hr'
 ·
  exact fZ m hv hi hr hr'
 ·
  exact fZ m hv hi hr hr'
 ·
  exact fZ m hv hi hr hr'
 ·
  cases hv
end
end Go.V
end
