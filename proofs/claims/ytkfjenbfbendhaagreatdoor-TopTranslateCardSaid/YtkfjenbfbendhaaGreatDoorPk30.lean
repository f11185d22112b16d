/-
  A part of a proof: V22.
-/
import Derived.Test.YtkfjenbfbendhaaGreatDoorPk29
set_option linter.unusedSimpArgs false
set_option linter.unusedVariables false
section
namespace Go.V
open Go
section
def exL (e:Operand→Option Val):List Operand→Option (List Val)
 |[]=>some []
 |x::xs=>match e x,exL e xs with
  |some v,some vs=>some (v::vs)
  |_,_=>none
def exP (e:Operand→Option Val):List (Nat×Operand)→Option (List (Nat×Val))
 |[]=>some []
 |(i,x)::xs=>match e x,exP e xs with
  |some v,some vs=>some ((i,v)::vs)
  |_,_=>none
def exO (e:Operand→Option Val):Option Operand→Option (Option Val)
 |none=>some none
 |some x=>(e x).map some
theorem vI {P:Program}(Γ:Glo P)(a:List Val):∀l,exL (ev Γ a) l=evL Γ a l
 |[]=>rfl
 |x::xs=>by rw[exL,evL,vI Γ a xs];cases ev Γ a x<;>cases evL Γ a xs<;>rfl
theorem Bf {P:Program}(Γ:Glo P)(a:List Val):∀l,exP (ev Γ a) l=evP Γ a l
 |[]=>rfl
 |(i,x)::xs=>by rw[exP,evP,Bf Γ a xs];cases ev Γ a x<;>cases evP Γ a xs<;>rfl
theorem F9 {P:Program}(Γ:Glo P)(a:List Val):∀l,exO (ev Γ a) l=evO Γ a l
 |none=>rfl
 |some x=>rfl
def FM (P:Program)(Γ:Glo P)(x:Operand)(e:Operand→Option Val)(h:Heap)(i:Nat):Option (Val×Heap):=(e x).map (·,h)
def Il (P:Program)(Γ:Glo P)(c:Operand)(x:Operand)(y:Operand)(e:Operand→Option Val)(h:Heap)(i:Nat):Option (Val×Heap):=
 match e c with
  |some (.bool b)=>(e (if b then x else y)).map (·,h)
  |_=>none
def GS (P:Program)(Γ:Glo P)(t:TypeId)(e:Operand→Option Val)(h:Heap)(i:Nat):Option (Val×Heap):=
 sH P t h i
def Ke (P:Program)(Γ:Glo P)(t:TypeId)(x:Operand)(e:Operand→Option Val)(h:Heap)(i:Nat):Option (Val×Heap):=
 (e x).map fun v=>BG t v h i
def DI (P:Program)(Γ:Glo P)(t:TypeId)(ps:Array (Nat×Operand))(e:Operand→Option Val)(h:Heap)(i:Nat):Option (Val×Heap):=
 match exP e ps.toList with
  |some l=>(cU P t l).map fun cs=>(.ag cs,h)
  |none=>none
def qD (P:Program)(Γ:Glo P)(t:TypeId)(n:Nat)(ps:Array (Nat×Operand))(e:Operand→Option Val)(h:Heap)(i:Nat):Option (Val×Heap):=
 match exP e ps.toList with
  |some l=>av P t n l h i
  |none=>none
def Ik (P:Program)(Γ:Glo P)(t:TypeId)(p:Operand)(e:Operand→Option Val)(h:Heap)(i:Nat):Option (Val×Heap):=
 match e p with
  |some u=>(px P t h u).map (·,h)
  |none=>none
def GX (P:Program)(Γ:Glo P)(t:TypeId)(p:Operand)(x:Operand)(e:Operand→Option Val)(h:Heap)(i:Nat):Option (Val×Heap):=
 match e p,e x with
  |some u,some v=>(sZ P t h u v).map fun h'=>(uv,h')
  |_,_=>none
def BK (P:Program)(Γ:Glo P)(x:Operand)(e:Operand→Option Val)(h:Heap)(i:Nat):Option (Val×Heap):=
 match e x with
  |some u=>(xw u).map (·,h)
  |none=>none
def GU (P:Program)(Γ:Glo P)(op:BinOp)(t:TypeId)(x:Operand)(y:Operand)(e:Operand→Option Val)(h:Heap)(i:Nat):Option (Val×Heap):=
 match e x,e y with
  |some u,some v=>(Cn P op t y u v).map (·,h)
  |_,_=>none
def Im (P:Program)(Γ:Glo P)(op:UnOp)(x:Operand)(e:Operand→Option Val)(h:Heap)(i:Nat):Option (Val×Heap):=
 match e x with
  |some u=>(vun op u).map (·,h)
  |none=>none
def DK (P:Program)(Γ:Glo P)(s:TypeId)(d:TypeId)(x:Operand)(e:Operand→Option Val)(h:Heap)(i:Nat):Option (Val×Heap):=
 match e x with
  |some u=>(xt P s d u).map (·,h)
  |none=>none
def sh (P:Program)(Γ:Glo P)(t:TypeId)(x:Operand)(e:Operand→Option Val)(h:Heap)(i:Nat):Option (Val×Heap):=
 match e x,qQ P t with
  |some u,some false=>some (.ifc t u,h)
  |_,_=>none
def uk (P:Program)(Γ:Glo P)(fn:Fn)(first cap:Array Operand)(e:Operand→Option Val)(h:Heap)(i:Nat):Option (Val×Heap):=match fn with
 |.func f=>match exL e first.toList,exL e cap.toList with
  |some us,some vs=>some (.fn f us vs,h)
  |_,_=>none
 |_=>none
def DM (P:Program)(Γ:Glo P)(r:Option Operand)(h:Heap)(i:Nat):Option (Val×Heap):=match r with
 |none=>some (.mp i,put h i (.map []))
 |_=>none
def zP (P:Program)(Γ:Glo P)(t:TypeId)(l:Operand)(c:Operand)(e:Operand→Option Val)(h:Heap)(i:Nat):Option (Val×Heap):=
 match e l,e c with
  |some u,some v=>oa P t u v h i
  |_,_=>none
def DN (P:Program)(Γ:Glo P)(t:TypeId)(x:Operand)(lo:Option Operand)(hi:Option Operand)(mx:Option Operand)(e:Operand→Option Val)(h:Heap)(i:Nat):Option (Val×Heap):=
 match e x,exO e lo,exO e hi,exO e mx with
  |some u,some l,some k,some m=>(jE P t h u l k m).map (·,h)
  |_,_,_,_=>none
def zN (P:Program)(Γ:Glo P)(t:TypeId)(x:Operand)(f:Nat)(e:Operand→Option Val)(h:Heap)(i:Nat):Option (Val×Heap):=
 match e x with
  |some u=>(sO P t u f).map (·,h)
  |none=>none
def GV (P:Program)(Γ:Glo P)(t:TypeId)(x:Operand)(f:Nat)(e:Operand→Option Val)(h:Heap)(i:Nat):Option (Val×Heap):=
 match e x with
  |some u=>(sP P t u f).map (·,h)
  |none=>none
def zO (P:Program)(Γ:Glo P)(t:TypeId)(x:Operand)(y:Operand)(e:Operand→Option Val)(h:Heap)(i:Nat):Option (Val×Heap):=
 match e x,e y with
  |some u,some v=>(sT P t u v).map (·,h)
  |_,_=>none
def GW (P:Program)(Γ:Glo P)(t:TypeId)(x:Operand)(y:Operand)(e:Operand→Option Val)(h:Heap)(i:Nat):Option (Val×Heap):=
 match e x,e y with
  |some u,some v=>(pO P t u v).map (·,h)
  |_,_=>none
def Eh (P:Program)(Γ:Glo P)(t:TypeId)(x:Operand)(y:Operand)(ok:Bool)(e:Operand→Option Val)(h:Heap)(i:Nat):Option (Val×Heap):=
 match e x,e y with
  |some u,some v=>(iy P t h u v ok).map (·,h)
  |_,_=>none
def zQ (P:Program)(Γ:Glo P)(t:TypeId)(x:Operand)(y:Operand)(z:Operand)(e:Operand→Option Val)(h:Heap)(i:Nat):Option (Val×Heap):=
 match e x,e y,e z with
  |some u,some k,some v=>(gj P t h u k v).map fun h'=>(uv,h')
  |_,_,_=>none
def DL (P:Program)(Γ:Glo P)(x:Operand)(k:Nat)(e:Operand→Option Val)(h:Heap)(i:Nat):Option (Val×Heap):=
 match e x with
  |some u=>(ee u k).map (·,h)
  |none=>none
def DG (P:Program)(Γ:Glo P)(args:Array Operand)(ts:Array TypeId)(e:Operand→Option Val)(h:Heap)(i:Nat):Option (Val×Heap):=match args.toList,ts.toList with
  |[x,y],[t,tx]=>match e x,e y with
   |some u,some v=>xp P t tx h u v i
   |_,_=>none
  |_,_=>none
def GT (P:Program)(Γ:Glo P)(args:Array Operand)(ts:Array TypeId)(e:Operand→Option Val)(h:Heap)(i:Nat):Option (Val×Heap):=match args.toList,ts.toList with
  |[x,y],[t,tx]=>match e x,e y with
   |some u,some v=>sM P t tx h u v
   |_,_=>none
  |_,_=>none
def Ih (P:Program)(Γ:Glo P)(args:Array Operand)(ts:Array TypeId)(e:Operand→Option Val)(h:Heap)(i:Nat):Option (Val×Heap):=match args.toList,ts.toList with
  |[x],[t]=>match e x with
   |some u=>(Cr P t h u).map (·,h)
   |_=>none
  |_,_=>none
def Ig (P:Program)(Γ:Glo P)(args:Array Operand)(ts:Array TypeId)(e:Operand→Option Val)(h:Heap)(i:Nat):Option (Val×Heap):=match args.toList,ts.toList with
  |[x],[t]=>match e x with
   |some u=>(Co P t u).map (·,h)
   |_=>none
  |_,_=>none
def Ii (P:Program)(Γ:Glo P)(args:Array Operand)(ts:Array TypeId)(e:Operand→Option Val)(h:Heap)(i:Nat):Option (Val×Heap):=match args.toList with
  |[x,y]=>match e x,e y with
   |some u,some v=>(xu u v).map (·,h)
   |_,_=>none
  |_=>none
def Ij (P:Program)(Γ:Glo P)(args:Array Operand)(ts:Array TypeId)(e:Operand→Option Val)(h:Heap)(i:Nat):Option (Val×Heap):=match args.toList with
  |[x,y]=>match e x,e y with
   |some u,some v=>(AS u v).map (·,h)
   |_,_=>none
  |_=>none
def DH (P:Program)(Γ:Glo P)(args:Array Operand)(ts:Array TypeId)(e:Operand→Option Val)(h:Heap)(i:Nat):Option (Val×Heap):=match args.toList,ts.toList with
  |[x,y],[t,_]=>match e x,e y with
   |some u,some v=>(lJ P t h u v).map fun h'=>(uv,h')
   |_,_=>none
  |_,_=>none
def Eg (P:Program)(Γ:Glo P)(args:Array Operand)(ts:Array TypeId)(e:Operand→Option Val)(h:Heap)(i:Nat):Option (Val×Heap):=match args.toList,ts.toList with
  |[x],[t]=>match e x with
   |some u=>(sK P t h u).map fun h'=>(uv,h')
   |_=>none
  |_,_=>none
def DJ (P:Program)(Γ:Glo P)(x:Operand)(args:Array Operand)(e:Operand→Option Val)(h:Heap)(i:Nat):Option (Val×Heap):=match x with
 |.func f=>match exL e args.toList with
  |some vs=>Γ.x f vs h i
  |none=>none
 |_=>none
def Kd (P:Program)(Γ:Glo P)(b:Builtin)(args:Array Operand)(ts:Array TypeId)(e:Operand→Option Val)(h:Heap)(i:Nat):Option (Val×Heap):=match b with
 |.append=>DG P Γ args ts e h i
 |.copy=>GT P Γ args ts e h i
 |.len=>Ih P Γ args ts e h i
 |.cap=>Ig P Γ args ts e h i
 |.max=>Ii P Γ args ts e h i
 |.min=>Ij P Γ args ts e h i
 |.delete=>DH P Γ args ts e h i
 |.clear=>Eg P Γ args ts e h i
 |_=>none
def FL (P:Program)(Γ:Glo P)(c:Call)(e:Operand→Option Val)(h:Heap)(i:Nat):Option (Val×Heap):=match c.callee with
 |.builtin b=>Kd P Γ b c.args c.argTypes e h i
 |.value x=>DJ P Γ x c.args e h i
 |_=>none
def p8 (P:Program)(Γ:Glo P)(op:Op)(e:Operand→Option Val)(h:Heap)(i:Nat):Option (Val×Heap):=match op with
 |.move x=>FM P Γ x e h i
 |.assign x=>FM P Γ x e h i
 |.pick c x y=>Il P Γ c x y e h i
 |.alloc t=>GS P Γ t e h i
 |.box t x=>Ke P Γ t x e h i
 |.build t ps=>DI P Γ t ps e h i
 |.buildSlice t n ps=>qD P Γ t n ps e h i
 |.load t p=>Ik P Γ t p e h i
 |.store t p x=>GX P Γ t p x e h i
 |.nilCheck x=>BK P Γ x e h i
 |.binOp op t x y _=>GU P Γ op t x y e h i
 |.unOp op _ x=>Im P Γ op x e h i
 |.convert s d x=>DK P Γ s d x e h i
 |.makeInterface t x=>sh P Γ t x e h i
 |.makeFunc fn first cap=>uk P Γ fn first cap e h i
 |.makeMap _ r=>DM P Γ r h i
 |.makeSlice t l c=>zP P Γ t l c e h i
 |.slice t x lo hi mx=>DN P Γ t x lo hi mx e h i
 |.fieldAddr t x f=>zN P Γ t x f e h i
 |.field t x f=>GV P Γ t x f e h i
 |.indexAddr t x y=>zO P Γ t x y e h i
 |.index t x y=>GW P Γ t x y e h i
 |.lookup t x y ok=>Eh P Γ t x y ok e h i
 |.mapUpdate t x y z=>zQ P Γ t x y z e h i
 |.extract x k=>DL P Γ x k e h i
 |.call c=>FL P Γ c e h i
 |_=>none
theorem wq (P:Program)(Γ:Glo P)(o:Oper)(a:List Val)(h:Heap)(i:Nat):p8 P Γ o.op (ev Γ a) h i=bU P Γ o a h i:=by
 obtain⟨d,op,t,p,af,g⟩:=o;cases op with
 |call c=>
  obtain⟨ce,args,ts⟩:=c;cases ce with
  |builtin b=>cases b<;>rfl
  |value x=>cases x<;>first|rfl|(simp only[p8,FL,DJ,vI];rfl)
  |invoke r m=>rfl
 |makeFunc f az cs=>cases f<;>first|rfl|(simp only[p8,uk,vI];rfl)
 |makeMap t r=>cases r<;>rfl
 |_=>first|rfl|(simp only[p8,DI,qD,DN,Bf,F9];rfl)
end
end Go.V
end
