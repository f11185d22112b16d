/-
  A part of a proof: U15 U16.
-/
import Derived.Test.YtkfjenbfbendhaaGreatDoorLk01
import Derived.Test.YtkfjenbfbendhaaGreatDoorLk30
import Derived.Test.YtkfjenbfbendhaaGreatDoorLk34
import Derived.Shelf.Strconv.ParseIntPublic10
set_option linter.unusedSimpArgs false
set_option linter.unusedVariables false
section
namespace Go.V
open Go Go.Proofs
def Dn:List Nat:=[38,49,58,60,61,71,72,73,76,78,85,87,89,91,94,97,98,99,100,101,102,103,104,105,106,108,110,111,112,113,114,115,116,119,128,130,132,134,138,139,141,142,150,151,152,153,154,155,156,157,158,159,160,161,162,163,164,165,166,167,168,171,172,173,174,175,177,190,191,192,193,194,195,196,197,198,199,200,201,202,205,208,210,212,215,216,220,223,224,225,226,227,228,229,230,232,233,234,235,236,237,238,239,241,242,245,248,256,263,264,265,269,270,271,272,273,276,278,283,284,285,286,287,290,291,292,293,295,296,297,298,306,309,310,312,314,316,318,319,320,326,331,332,333,334,335,336,337,338,352,359,361,362,363,365,366,367,372,373,384,385,386,387,388,392,394,395]
def tT (f:FuncId):Option Val:=match f with
 |97=>some (.ag [.int .i64 0,.int .i64 0])
 |102=>some (.ag [.int .i64 0,.int .i64 0])
 |152=>some (.ag [.int .i64 0,.int .i64 0])
 |_=>none
def kwS:Str:=[100,105,99,116,32,108,105,115,116,32,111,102,32,105,110,116,32,98,111,111,108,32,98,121,116,101,115,32,101,110,117,109,32,114,101,110,97,109,101,32,116,111,32,97,100,100,32,114,101,109,111,118,101,32,104,111,105,115,116,32,112,108,117,110,103,101,32,119,114,97,112,32,104,101,97,100,32,99,111,110,118,101,114,116,32,105,110,32,109,97,112,32,111,117,116]
def rP:Str:=[123,112,111,114,116,58,32,105,110,116,32,40,48,32,46,46,32,57,41,44,32,116,108,115,58,32,123,111,110,58,32,98,111,111,108,125,44,32,104,111,115,116,115,58,32,100,105,99,116,32,40,48,32,46,46,32,52,41,32,111,102,32,123,105,112,58,32,98,121,116,101,115,32,40,48,32,46,46,32,56,41,44,32,111,108,100,58,32,98,111,111,108,125,125]
def rQ:Str:=[123,110,117,109,98,101,114,58,32,108,105,115,116,32,40,49,32,46,46,32,49,41,32,111,102,32,105,110,116,32,40,48,32,46,46,32,57,41,44,32,111,110,58,32,98,111,111,108,44,32,116,108,115,58,32,123,125,44,32,104,111,115,116,115,58,32,100,105,99,116,32,40,48,32,46,46,32,52,41,32,111,102,32,123,105,112,58,32,98,121,116,101,115,32,40,48,32,46,46,32,56,41,44,32,107,105,110,100,58,32,101,110,117,109,32,40,34,97,34,44,32,34,98,34,41,125,125]
def rR:Str:=[114,101,110,97,109,101,32,112,111,114,116,32,116,111,32,110,117,109,98,101,114,59,32,119,114,97,112,32,110,117,109,98,101,114,59,32,104,111,105,115,116,32,111,110,32,111,117,116,32,111,102,32,116,108,115,59,32,109,97,112,32,104,111,115,116,115,32,123,114,101,109,111,118,101,32,111,108,100,58,32,98,111,111,108,32,61,32,102,97,108,115,101,59,32,97,100,100,32,107,105,110,100,58,32,101,110,117,109,32,40,34,97,34,44,32,34,98,34,41,32,61,32,34,98,34,59,125,59]
def zP:Str:=[123,112,111,114,116,32,61,32,53,44,32,116,108,115,32,61,32,123,111,110,32,61,32,116,114,117,101,125,44,32,104,111,115,116,115,32,61,32,60,34,104,34,58,32,123,105,112,32,61,32,34,120,34,44,32,111,108,100,32,61,32,116,114,117,101,125,62,125]
def kT:Str→Str→Bool
 |[],[]=>true
 |a::x,b::y=>Nat.beq a.toNat b.toNat&&kT x y
 |_,_=>false
theorem fO:∀{a b:Str},kT a b=true→a=b
 |[],[],_=>rfl
 |a::x,b::y,h=>by
  rw[kT,Bool.and_eq_true] at h
  rw[UInt8.toNat_inj.1 (Nat.eq_of_beq_eq_true h.1),fO h.2]
 |[],_::_,h=>by cases h
 |_::_,[],h=>by cases h
def FV (S:FuncId→List Val→Option Val)(P:Program)(Γ:Glo P):Ctx:=⟨P,Γ,S,tI2,tT,fun f=>!Dn.contains f⟩
noncomputable def CT (S:FuncId→List Val→Option Val):Ctx:=FV S Tryz.prog ΓT
theorem ran {S:FuncId→List Val→Option Val}(hS:∀f vs r,S f vs=some r→PureOk Tryz.prog ΓT f vs r){n:Nat}{f:FuncId}{vs:List Val}{v:Val}(h:(m8 (CT S) n (.pure f vs)).map (·.v)=some v):PureOk Tryz.prog ΓT f vs v:=by
 obtain⟨O,h1,rfl⟩:=map_some h
 have h2:=xR n _ _ h1
 exact vJ (C:=CT S) (by kernel_rfl) hS C5 (fun f r hf g first cap h N q h' N' hp hk=>by
  have hf':tT f=some r:=hf
  unfold tT at hf'
  split at hf'
  ·
   cases hf';exact nK 97 (.inl rfl) hp hk
  ·
   cases hf';exact nK 102 (.inr (.inl rfl)) hp hk
  ·
   cases hf';exact nK 152 (.inr (.inr rfl)) hp hk
  ·
   cases hf') n _ _ h2
end Go.V
end
section
namespace Go.V
open Go Go.Proofs Go.Shelf Go.RowKit Go.Sort
def kS1 (f:FuncId)(vs:List Val):Option Val:=match f,vs with
 |299,[.str s,.int .i64 10,.int .i64 64]=>match decide (s.length<1000),Lib.parseIntB 64 s with
  |true,.ok v=>some (.tp [.int .i64 v,.nili])
  |_,_=>none
 |_,_=>kS f vs
theorem yI (w:World)(e:TypeId)(t:ByteArray):Fr w (fun _=>False) (Lib.bytesWorld w e t):=by
 unfold Lib.bytesWorld World.freeze
 rw[if_neg (by decide)]
 refine⟨rfl,rfl,rfl,?_,?_⟩
 ·
  show w.heap.size≤((w.heap.push _).modify _ _).size
  rw[Array.size_modify,Array.size_push]
  omega
 ·
  intro b hb _
  show((w.heap.push _).modify _ _)[b]?=_
  rw[Array.getElem?_modify,if_neg (by simp only;omega),Array.getElem?_push_lt hb,Array.getElem?_eq_getElem hb]
theorem f299 (s:Str)(v:Int)(hs:s.length<1000)(h:Lib.parseIntB 64 s=.ok v):PureOk Tryz.prog ΓT 299 [.str s,.int .i64 10,.int .i64 64] (.tp [.int .i64 v,.nili]):=by
 intro F w xs hG hF hr
 simp only[RelL,Rel] at hr
 obtain⟨y,ys,e1,rfl,y1,ys1,rfl,rfl,y2,ys2,rfl,rfl,rfl⟩:=hr
 obtain rfl:xs=#[str s,.int .i64 10,.int .i64 64]:=by cases xs;simp_all
 refine(Any.strconv_ParseInt_10_at64_ok Tryz.pintL ⟨s.toArray⟩ (by simp[ByteArray.size];omega) v (by simpa using h) w).mono ?_
 rintro e w' ⟨rfl,hw⟩
 have hfr:Fr w (fun _=>False) w':=by
  rcases hw with rfl|⟨t,rfl⟩
  ·
   exact Fr.refl _ _
  ·
   exact yI w _ t
 refine⟨F,_,rfl,FLe.refl F,fun b c h=>.inl h,fun b c hb=>?_,by simp[Rel,RelL],hfr⟩
 obtain⟨e,fr,h1⟩:=hF b c hb
 have hlt:b<w.heap.size:=by
  rcases Nat.lt_or_ge b w.heap.size with h|h
  ·
   exact h
  ·
   rw[Array.getElem?_eq_none h] at h1;cases h1
 exact⟨e,fr,by rw[hfr.block b hlt id];exact h1⟩
theorem yU:∀f vs r,kS1 f vs=some r→PureOk Tryz.prog ΓT f vs r:=by
 intro f vs r h
 unfold kS1 at h
 split at h
 ·
  split at h
  ·
   rename_i v h1 h2
   cases h
   exact f299 _ _ (by simpa using h1) h2
  ·
   cases h
 ·
  exact Dp f vs r h
end Go.V
end
