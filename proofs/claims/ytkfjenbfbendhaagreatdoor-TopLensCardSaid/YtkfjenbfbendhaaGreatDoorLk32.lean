/-
  A part of a proof: V22.
-/
import Derived.Test.YtkfjenbfbendhaaGreatDoorLk31
set_option linter.unusedSimpArgs false
set_option linter.unusedVariables false
namespace Go.V
open Go
section
def exL (e:Operand→Option Val):List Operand→Option (List Val)
 |[]=>some []
 |x::xs=>match e x,exL e xs with
  |some v,some vs=>some (v::vs)
  |_,_=>none
def exP (e:Operand→Option Val):List (Nat×Operand)→Option (List (Nat×Val))
 |[]=>some []
 |(i,x)::xs=>match e x,exP e xs with
  |some v,some vs=>some ((i,v)::vs)
  |_,_=>none
def exO (e:Operand→Option Val):Option Operand→Option (Option Val)
 |none=>some none
 |some x=>(e x).map some
theorem ry {P:Program}(Γ:Glo P)(a:List Val):∀l,exL (ev Γ a) l=evL Γ a l
 |[]=>rfl
 |x::xs=>by rw[exL,evL,ry Γ a xs];cases ev Γ a x<;>cases evL Γ a xs<;>rfl
theorem yC {P:Program}(Γ:Glo P)(a:List Val):∀l,exP (ev Γ a) l=evP Γ a l
 |[]=>rfl
 |(i,x)::xs=>by rw[exP,evP,yC Γ a xs];cases ev Γ a x<;>cases evP Γ a xs<;>rfl
theorem CF {P:Program}(Γ:Glo P)(a:List Val):∀l,exO (ev Γ a) l=evO Γ a l
 |none=>rfl
 |some x=>rfl
def Bn (P:Program)(Γ:Glo P)(x:Operand)(e:Operand→Option Val)(h:Heap)(i:Nat):Option (Val×Heap):=(e x).map (·,h)
def E3 (P:Program)(Γ:Glo P)(c:Operand)(x:Operand)(y:Operand)(e:Operand→Option Val)(h:Heap)(i:Nat):Option (Val×Heap):=
 match e c with
  |some (.bool b)=>(e (if b then x else y)).map (·,h)
  |_=>none
def Cg (P:Program)(Γ:Glo P)(t:TypeId)(e:Operand→Option Val)(h:Heap)(i:Nat):Option (Val×Heap):=
 ph P t h i
def Fz (P:Program)(Γ:Glo P)(t:TypeId)(x:Operand)(e:Operand→Option Val)(h:Heap)(i:Nat):Option (Val×Heap):=
 (e x).map fun v=>xZ t v h i
def zo (P:Program)(Γ:Glo P)(t:TypeId)(ps:Array (Nat×Operand))(e:Operand→Option Val)(h:Heap)(i:Nat):Option (Val×Heap):=
 match exP e ps.toList with
  |some l=>(dB P t l).map fun cs=>(.ag cs,h)
  |none=>none
def nz (P:Program)(Γ:Glo P)(t:TypeId)(n:Nat)(ps:Array (Nat×Operand))(e:Operand→Option Val)(h:Heap)(i:Nat):Option (Val×Heap):=
 match exP e ps.toList with
  |some l=>bG P t n l h i
  |none=>none
def E2 (P:Program)(Γ:Glo P)(t:TypeId)(p:Operand)(e:Operand→Option Val)(h:Heap)(i:Nat):Option (Val×Heap):=
 match e p with
  |some u=>(nt P t h u).map (·,h)
  |none=>none
def Cl (P:Program)(Γ:Glo P)(t:TypeId)(p:Operand)(x:Operand)(e:Operand→Option Val)(h:Heap)(i:Nat):Option (Val×Heap):=
 match e p,e x with
  |some u,some v=>(pz P t h u v).map fun h'=>(uv,h')
  |_,_=>none
def x6 (P:Program)(Γ:Glo P)(x:Operand)(e:Operand→Option Val)(h:Heap)(i:Nat):Option (Val×Heap):=
 match e x with
  |some u=>(u4 u).map (·,h)
  |none=>none
def Ci (P:Program)(Γ:Glo P)(op:BinOp)(t:TypeId)(x:Operand)(y:Operand)(e:Operand→Option Val)(h:Heap)(i:Nat):Option (Val×Heap):=
 match e x,e y with
  |some u,some v=>(zV P op t y u v).map (·,h)
  |_,_=>none
def E4 (P:Program)(Γ:Glo P)(op:UnOp)(x:Operand)(e:Operand→Option Val)(h:Heap)(i:Nat):Option (Val×Heap):=
 match e x with
  |some u=>(vun op u).map (·,h)
  |none=>none
def zq (P:Program)(Γ:Glo P)(s:TypeId)(d:TypeId)(x:Operand)(e:Operand→Option Val)(h:Heap)(i:Nat):Option (Val×Heap):=
 match e x with
  |some u=>(uZ P s d u).map (·,h)
  |none=>none
def qH (P:Program)(Γ:Glo P)(t:TypeId)(x:Operand)(e:Operand→Option Val)(h:Heap)(i:Nat):Option (Val×Heap):=
 match e x,oL P t with
  |some u,some false=>some (.ifc t u,h)
  |_,_=>none
def r9 (P:Program)(Γ:Glo P)(fn:Fn)(first cap:Array Operand)(e:Operand→Option Val)(h:Heap)(i:Nat):Option (Val×Heap):=match fn with
 |.func f=>match exL e first.toList,exL e cap.toList with
  |some us,some vs=>some (.fn f us vs,h)
  |_,_=>none
 |_=>none
def zt (P:Program)(Γ:Glo P)(r:Option Operand)(h:Heap)(i:Nat):Option (Val×Heap):=match r with
 |none=>some (.mp i,put h i (.map []))
 |_=>none
def vZ (P:Program)(Γ:Glo P)(t:TypeId)(l:Operand)(c:Operand)(e:Operand→Option Val)(h:Heap)(i:Nat):Option (Val×Heap):=
 match e l,e c with
  |some u,some v=>mn P t u v h i
  |_,_=>none
def zu (P:Program)(Γ:Glo P)(t:TypeId)(x:Operand)(lo:Option Operand)(hi:Option Operand)(mx:Option Operand)(e:Operand→Option Val)(h:Heap)(i:Nat):Option (Val×Heap):=
 match e x,exO e lo,exO e hi,exO e mx with
  |some u,some l,some k,some m=>(kW P t h u l k m).map (·,h)
  |_,_,_,_=>none
def vX (P:Program)(Γ:Glo P)(t:TypeId)(x:Operand)(f:Nat)(e:Operand→Option Val)(h:Heap)(i:Nat):Option (Val×Heap):=
 match e x with
  |some u=>(po P t u f).map (·,h)
  |none=>none
def Cj (P:Program)(Γ:Glo P)(t:TypeId)(x:Operand)(f:Nat)(e:Operand→Option Val)(h:Heap)(i:Nat):Option (Val×Heap):=
 match e x with
  |some u=>(pq P t u f).map (·,h)
  |none=>none
def vY (P:Program)(Γ:Glo P)(t:TypeId)(x:Operand)(y:Operand)(e:Operand→Option Val)(h:Heap)(i:Nat):Option (Val×Heap):=
 match e x,e y with
  |some u,some v=>(pv P t u v).map (·,h)
  |_,_=>none
def Ck (P:Program)(Γ:Glo P)(t:TypeId)(x:Operand)(y:Operand)(e:Operand→Option Val)(h:Heap)(i:Nat):Option (Val×Heap):=
 match e x,e y with
  |some u,some v=>(nM P t u v).map (·,h)
  |_,_=>none
def BS (P:Program)(Γ:Glo P)(t:TypeId)(x:Operand)(y:Operand)(ok:Bool)(e:Operand→Option Val)(h:Heap)(i:Nat):Option (Val×Heap):=
 match e x,e y with
  |some u,some v=>(i7 P t h u v ok).map (·,h)
  |_,_=>none
def v7 (P:Program)(Γ:Glo P)(t:TypeId)(x:Operand)(y:Operand)(z:Operand)(e:Operand→Option Val)(h:Heap)(i:Nat):Option (Val×Heap):=
 match e x,e y,e z with
  |some u,some k,some v=>(gW P t h u k v).map fun h'=>(uv,h')
  |_,_,_=>none
def zr (P:Program)(Γ:Glo P)(x:Operand)(k:Nat)(e:Operand→Option Val)(h:Heap)(i:Nat):Option (Val×Heap):=
 match e x with
  |some u=>(eE u k).map (·,h)
  |none=>none
def zm (P:Program)(Γ:Glo P)(args:Array Operand)(ts:Array TypeId)(e:Operand→Option Val)(h:Heap)(i:Nat):Option (Val×Heap):=match args.toList,ts.toList with
  |[x,y],[t,tx]=>match e x,e y with
   |some u,some v=>uX P t tx h u v i
   |_,_=>none
  |_,_=>none
def Ch (P:Program)(Γ:Glo P)(args:Array Operand)(ts:Array TypeId)(e:Operand→Option Val)(h:Heap)(i:Nat):Option (Val×Heap):=match args.toList,ts.toList with
  |[x,y],[t,tx]=>match e x,e y with
   |some u,some v=>pm P t tx h u v
   |_,_=>none
  |_,_=>none
def EZ (P:Program)(Γ:Glo P)(args:Array Operand)(ts:Array TypeId)(e:Operand→Option Val)(h:Heap)(i:Nat):Option (Val×Heap):=match args.toList,ts.toList with
  |[x],[t]=>match e x with
   |some u=>(zZ P t h u).map (·,h)
   |_=>none
  |_,_=>none
def EY (P:Program)(Γ:Glo P)(args:Array Operand)(ts:Array TypeId)(e:Operand→Option Val)(h:Heap)(i:Nat):Option (Val×Heap):=match args.toList,ts.toList with
  |[x],[t]=>match e x with
   |some u=>(zW P t u).map (·,h)
   |_=>none
  |_,_=>none
def E0 (P:Program)(Γ:Glo P)(args:Array Operand)(ts:Array TypeId)(e:Operand→Option Val)(h:Heap)(i:Nat):Option (Val×Heap):=match args.toList with
  |[x,y]=>match e x,e y with
   |some u,some v=>(u0 u v).map (·,h)
   |_,_=>none
  |_=>none
def E1 (P:Program)(Γ:Glo P)(args:Array Operand)(ts:Array TypeId)(e:Operand→Option Val)(h:Heap)(i:Nat):Option (Val×Heap):=match args.toList with
  |[x,y]=>match e x,e y with
   |some u,some v=>(wd u v).map (·,h)
   |_,_=>none
  |_=>none
def zn (P:Program)(Γ:Glo P)(args:Array Operand)(ts:Array TypeId)(e:Operand→Option Val)(h:Heap)(i:Nat):Option (Val×Heap):=match args.toList,ts.toList with
  |[x,y],[t,_]=>match e x,e y with
   |some u,some v=>(jg P t h u v).map fun h'=>(uv,h')
   |_,_=>none
  |_,_=>none
def BR (P:Program)(Γ:Glo P)(args:Array Operand)(ts:Array TypeId)(e:Operand→Option Val)(h:Heap)(i:Nat):Option (Val×Heap):=match args.toList,ts.toList with
  |[x],[t]=>match e x with
   |some u=>(pk P t h u).map fun h'=>(uv,h')
   |_=>none
  |_,_=>none
def zp (P:Program)(Γ:Glo P)(x:Operand)(args:Array Operand)(e:Operand→Option Val)(h:Heap)(i:Nat):Option (Val×Heap):=match x with
 |.func f=>match exL e args.toList with
  |some vs=>Γ.x f vs h i
  |none=>none
 |_=>none
def Fy (P:Program)(Γ:Glo P)(b:Builtin)(args:Array Operand)(ts:Array TypeId)(e:Operand→Option Val)(h:Heap)(i:Nat):Option (Val×Heap):=match b with
 |.append=>zm P Γ args ts e h i
 |.copy=>Ch P Γ args ts e h i
 |.len=>EZ P Γ args ts e h i
 |.cap=>EY P Γ args ts e h i
 |.max=>E0 P Γ args ts e h i
 |.min=>E1 P Γ args ts e h i
 |.delete=>zn P Γ args ts e h i
 |.clear=>BR P Γ args ts e h i
 |_=>none
def Bm (P:Program)(Γ:Glo P)(c:Call)(e:Operand→Option Val)(h:Heap)(i:Nat):Option (Val×Heap):=match c.callee with
 |.builtin b=>Fy P Γ b c.args c.argTypes e h i
 |.value x=>zp P Γ x c.args e h i
 |_=>none
def nX (P:Program)(Γ:Glo P)(op:Op)(e:Operand→Option Val)(h:Heap)(i:Nat):Option (Val×Heap):=match op with
 |.move x=>Bn P Γ x e h i
 |.assign x=>Bn P Γ x e h i
 |.pick c x y=>E3 P Γ c x y e h i
 |.alloc t=>Cg P Γ t e h i
 |.box t x=>Fz P Γ t x e h i
 |.build t ps=>zo P Γ t ps e h i
 |.buildSlice t n ps=>nz P Γ t n ps e h i
 |.load t p=>E2 P Γ t p e h i
 |.store t p x=>Cl P Γ t p x e h i
 |.nilCheck x=>x6 P Γ x e h i
 |.binOp op t x y _=>Ci P Γ op t x y e h i
 |.unOp op _ x=>E4 P Γ op x e h i
 |.convert s d x=>zq P Γ s d x e h i
 |.makeInterface t x=>qH P Γ t x e h i
 |.makeFunc fn first cap=>r9 P Γ fn first cap e h i
 |.makeMap _ r=>zt P Γ r h i
 |.makeSlice t l c=>vZ P Γ t l c e h i
 |.slice t x lo hi mx=>zu P Γ t x lo hi mx e h i
 |.fieldAddr t x f=>vX P Γ t x f e h i
 |.field t x f=>Cj P Γ t x f e h i
 |.indexAddr t x y=>vY P Γ t x y e h i
 |.index t x y=>Ck P Γ t x y e h i
 |.lookup t x y ok=>BS P Γ t x y ok e h i
 |.mapUpdate t x y z=>v7 P Γ t x y z e h i
 |.extract x k=>zr P Γ x k e h i
 |.call c=>Bm P Γ c e h i
 |_=>none
theorem tU (P:Program)(Γ:Glo P)(o:Oper)(a:List Val)(h:Heap)(i:Nat):nX P Γ o.op (ev Γ a) h i=bW P Γ o a h i:=by
 obtain⟨d,op,t,p,af,g⟩:=o
 cases op with
 |call c=>
  obtain⟨ce,args,ts⟩:=c
  cases ce with
  |builtin b=>cases b<;>rfl
  |value x=>cases x<;>first|rfl|(simp only[nX,Bm,zp,ry];rfl)
  |invoke r m=>rfl
 |makeFunc f az cs=>cases f<;>first|rfl|(simp only[nX,r9,ry];rfl)
 |makeMap t r=>cases r<;>rfl
 |_=>first|rfl|(simp only[nX,zo,nz,zu,yC,CF];rfl)
end
end Go.V
