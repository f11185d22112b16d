/-
  A part of a proof: K1 V0 V1.
-/
import Derived.Test.YtkfjenbfbendhaaGreatDoorProg
import Derived.Shelf.SlSortCmp.WholeK
import Derived.Shelf.Small.Strs
import Derived.Shelf.SlIter.Nil
import Derived.Shelf.SortM.Plain
import Derived.Shelf.SortM.SortNone
import Derived.Shelf.Strconv.Itoa3
import Derived.Shelf.Strconv.ParseIntPublic10
import Derived.Ground.SlsfProg
import Derived.Ground.GgzProg
import Derived.Ground.SlgmProg
import Derived.Ground.NamesProg
import Derived.Calls
import Derived.Orders
import Derived.Laws.Cells
import Derived.Below
import Derived.Laws.Tables
import Derived.Laws.IdiomRangeMap
set_option linter.unusedSimpArgs false
set_option linter.unusedVariables false
section
namespace Go.Proofs
open Go.Shelf
def Tryz.sortFld_ren:Go.Shelf.Ren:=⟨fun|6=>256|15=>307|14=>306|28=>339|29=>302|20=>331|21=>332|22=>333|23=>334|24=>335|25=>336|26=>337|27=>338|46=>359|47=>360|48=>361|49=>362|50=>363|57=>372|n=>n,fun|22=>23|24=>112|25=>286|3=>3|39=>188|0=>0|53=>315|55=>280|4=>4|46=>332|45=>331|50=>274|5=>5|9=>9|66=>354|70=>358|76=>371|77=>372|n=>n,fun|n=>n⟩
theorem Tryz.sortFld:Go.Proofs.SlLaysF0.n6 Tryz.prog Tryz.sortFld_ren:={
 mixed:=by kernel_rfl
 f6:=⟨Tryz.f256.name,by decide,Tryz.func256.trans (congrArg some (by kernel_rfl))⟩
 f14:=⟨Tryz.f306.name,by decide,Tryz.func306.trans (congrArg some (by kernel_rfl))⟩
 f15:=Tryz.func307.trans (congrArg some (by kernel_rfl))
 f20:=⟨Tryz.f331.name,by decide,Tryz.func331.trans (congrArg some (by kernel_rfl))⟩
 f21:=⟨Tryz.f332.name,by decide,Tryz.func332.trans (congrArg some (by kernel_rfl))⟩
 f22:=⟨Tryz.f333.name,by decide,Tryz.func333.trans (congrArg some (by kernel_rfl))⟩
 f23:=⟨Tryz.f334.name,by decide,Tryz.func334.trans (congrArg some (by kernel_rfl))⟩
 f24:=⟨Tryz.f335.name,by decide,Tryz.func335.trans (congrArg some (by kernel_rfl))⟩
 f25:=⟨Tryz.f336.name,by decide,Tryz.func336.trans (congrArg some (by kernel_rfl))⟩
 f26:=⟨Tryz.f337.name,by decide,Tryz.func337.trans (congrArg some (by kernel_rfl))⟩
 f27:=⟨Tryz.f338.name,by decide,Tryz.func338.trans (congrArg some (by kernel_rfl))⟩
 f28:=Tryz.func339.trans (congrArg some (by kernel_rfl))
 f29:=Tryz.func302.trans (congrArg some (by kernel_rfl))
 f46:=⟨Tryz.f359.name,by decide,Tryz.func359.trans (congrArg some (by kernel_rfl))⟩
 f47:=Tryz.func360.trans (congrArg some (by kernel_rfl))
 f48:=Tryz.func361.trans (congrArg some (by kernel_rfl))
 f49:=⟨Tryz.f362.name,by decide,Tryz.func362.trans (congrArg some (by kernel_rfl))⟩
 f50:=⟨Tryz.f363.name,by decide,Tryz.func363.trans (congrArg some (by kernel_rfl))⟩
 f57:=⟨Tryz.f372.name,by decide,Tryz.func372.trans (congrArg some (by kernel_rfl))⟩
 t0:=Tryz.underlying0
 a0:=Tryz.isAgg0
 z0:=Tryz.sizeOf0
 v0:=Tryz.zeroValue0
 t3:=Tryz.underlying3
 a3:=Tryz.isAgg3
 z3:=Tryz.sizeOf3
 v3:=Tryz.zeroValue3
 t4:=Tryz.underlying4
 a4:=Tryz.isAgg4
 z4:=Tryz.sizeOf4
 v4:=Tryz.zeroValue4
 t5:=Tryz.underlying5
 a5:=Tryz.isAgg5
 z5:=Tryz.sizeOf5
 v5:=Tryz.zeroValue5
 t9:=Tryz.underlying9
 a9:=Tryz.isAgg9
 z9:=Tryz.sizeOf9
 v9:=Tryz.zeroValue9
 t22:=Tryz.underlying23
 a22:=Tryz.isAgg23
 z22:=Tryz.sizeOf23
 v22:=Tryz.zeroValue23
 t25:=Tryz.underlying286
 a25:=Tryz.isAgg286
 z25:=Tryz.sizeOf286
 v25:=Tryz.zeroValue286
 t39:=Tryz.underlying188
 a39:=Tryz.isAgg188
 z39:=Tryz.sizeOf188
 v39:=Tryz.zeroValue188
 t45:=Tryz.underlying331
 a45:=Tryz.isAgg331
 z45:=Tryz.sizeOf331
 v45:=Tryz.zeroValue331
 t46:=Tryz.underlying332
 a46:=Tryz.isAgg332
 z46:=Tryz.sizeOf332
 v46:=Tryz.zeroValue332
 t50:=Tryz.underlying274
 a50:=Tryz.isAgg274
 z50:=Tryz.sizeOf274
 v50:=Tryz.zeroValue274
 t53:=Tryz.underlying315
 a53:=Tryz.isAgg315
 z53:=Tryz.sizeOf315
 v53:=Tryz.zeroValue315
 t55:=Tryz.underlying280
 a55:=Tryz.isAgg280
 z55:=Tryz.sizeOf280
 v55:=Tryz.zeroValue280
 t66:=Tryz.underlying354
 a66:=Tryz.isAgg354
 z66:=Tryz.sizeOf354
 v66:=Tryz.zeroValue354
 t70:=Tryz.underlying358
 a70:=Tryz.isAgg358
 z70:=Tryz.sizeOf358
 v70:=Tryz.zeroValue358
 t76:=Tryz.underlying371
 a76:=Tryz.isAgg371
 z76:=Tryz.sizeOf371
 v76:=Tryz.zeroValue371
 t77:=Tryz.underlying372
 a77:=Tryz.isAgg372
 z77:=Tryz.sizeOf372
 v77:=Tryz.zeroValue372}
def Tryz.strCmp_ren:Go.Shelf.Ren:=⟨fun|106=>258|213=>308|265=>340|n=>n,fun|9=>9|3=>3|n=>n,fun|n=>n⟩
theorem Tryz.strCmp:Go.Proofs.Lays.n106 Tryz.prog Tryz.strCmp_ren:={
 mixed:=by kernel_rfl
 f106:=Tryz.func258.trans (congrArg some (by kernel_rfl))
 f213:=Tryz.func308.trans (congrArg some (by kernel_rfl))
 f265:=Tryz.func340.trans (congrArg some (by kernel_rfl))
 t3:=Tryz.underlying3
 a3:=Tryz.isAgg3
 z3:=Tryz.sizeOf3
 v3:=Tryz.zeroValue3
 t9:=Tryz.underlying9
 a9:=Tryz.isAgg9
 z9:=Tryz.sizeOf9
 v9:=Tryz.zeroValue9}
def Tryz.keys201_ren:Go.Shelf.Ren:=⟨fun|7=>201|10=>271|n=>n,fun|23=>203|26=>9|3=>30|28=>251|0=>0|27=>250|33=>176|4=>4|n=>n,fun|n=>n⟩
theorem Tryz.keys201:Go.Proofs.SlLaysZ.n7 Tryz.prog Tryz.keys201_ren:={
 mixed:=by kernel_rfl
 f7:=⟨Tryz.f201.name,by decide,Tryz.func201.trans (congrArg some (by kernel_rfl))⟩
 f10:=⟨Tryz.f271.name,by decide,Tryz.func271.trans (congrArg some (by kernel_rfl))⟩
 t0:=Tryz.underlying0
 a0:=Tryz.isAgg0
 z0:=Tryz.sizeOf0
 v0:=Tryz.zeroValue0
 t4:=Tryz.underlying4
 a4:=Tryz.isAgg4
 z4:=Tryz.sizeOf4
 v4:=Tryz.zeroValue4
 t23:=Tryz.underlying203
 a23:=Tryz.isAgg203
 z23:=Tryz.sizeOf203
 v23:=Tryz.zeroValue203
 t26:=Tryz.underlying9
 a26:=Tryz.isAgg9
 z26:=Tryz.sizeOf9
 v26:=Tryz.zeroValue9
 t27:=Tryz.underlying250
 a27:=Tryz.isAgg250
 z27:=Tryz.sizeOf250
 v27:=Tryz.zeroValue250
 t28:=Tryz.underlying251
 a28:=Tryz.isAgg251
 z28:=Tryz.sizeOf251
 v28:=Tryz.zeroValue251
 t33:=Tryz.underlying176
 a33:=Tryz.isAgg176
 z33:=Tryz.sizeOf176
 v33:=Tryz.zeroValue176}
def Tryz.keys272_ren:Go.Shelf.Ren:=⟨fun|7=>272|10=>314|n=>n,fun|23=>202|26=>9|3=>30|28=>251|0=>0|27=>250|33=>176|4=>4|n=>n,fun|n=>n⟩
theorem Tryz.keys272:Go.Proofs.SlLaysZ.n7 Tryz.prog Tryz.keys272_ren:={
 mixed:=by kernel_rfl
 f7:=⟨Tryz.f272.name,by decide,Tryz.func272.trans (congrArg some (by kernel_rfl))⟩
 f10:=⟨Tryz.f314.name,by decide,Tryz.func314.trans (congrArg some (by kernel_rfl))⟩
 t0:=Tryz.underlying0
 a0:=Tryz.isAgg0
 z0:=Tryz.sizeOf0
 v0:=Tryz.zeroValue0
 t4:=Tryz.underlying4
 a4:=Tryz.isAgg4
 z4:=Tryz.sizeOf4
 v4:=Tryz.zeroValue4
 t23:=Tryz.underlying202
 a23:=Tryz.isAgg202
 z23:=Tryz.sizeOf202
 v23:=Tryz.zeroValue202
 t26:=Tryz.underlying9
 a26:=Tryz.isAgg9
 z26:=Tryz.sizeOf9
 v26:=Tryz.zeroValue9
 t27:=Tryz.underlying250
 a27:=Tryz.isAgg250
 z27:=Tryz.sizeOf250
 v27:=Tryz.zeroValue250
 t28:=Tryz.underlying251
 a28:=Tryz.isAgg251
 z28:=Tryz.sizeOf251
 v28:=Tryz.zeroValue251
 t33:=Tryz.underlying176
 a33:=Tryz.isAgg176
 z33:=Tryz.sizeOf176
 v33:=Tryz.zeroValue176}
def Tryz.sorted200_ren:Go.Shelf.Ren:=⟨fun|6=>200|8=>269|9=>270|11=>312|13=>307|12=>313|23=>339|24=>302|14=>341|15=>342|16=>343|17=>344|18=>345|19=>346|20=>347|21=>348|22=>349|25=>364|26=>360|27=>361|28=>365|29=>366|30=>144|31=>373|n=>n,fun|26=>9|28=>251|24=>22|0=>0|3=>3|37=>188|48=>315|50=>280|4=>4|40=>332|39=>331|45=>274|5=>5|9=>9|51=>354|55=>358|57=>371|58=>372|33=>176|n=>n,fun|n=>n⟩
theorem Tryz.sorted200:Go.Proofs.SlLaysZ.n6 Tryz.prog Tryz.sorted200_ren:={
 mixed:=by kernel_rfl
 f6:=⟨Tryz.f200.name,by decide,Tryz.func200.trans (congrArg some (by kernel_rfl))⟩
 f8:=⟨Tryz.f269.name,by decide,Tryz.func269.trans (congrArg some (by kernel_rfl))⟩
 f11:=⟨Tryz.f312.name,by decide,Tryz.func312.trans (congrArg some (by kernel_rfl))⟩
 t0:=Tryz.underlying0
 a0:=Tryz.isAgg0
 z0:=Tryz.sizeOf0
 v0:=Tryz.zeroValue0
 t24:=Tryz.underlying22
 a24:=Tryz.isAgg22
 z24:=Tryz.sizeOf22
 v24:=Tryz.zeroValue22
 t26:=Tryz.underlying9
 a26:=Tryz.isAgg9
 z26:=Tryz.sizeOf9
 v26:=Tryz.zeroValue9
 t28:=Tryz.underlying251
 a28:=Tryz.isAgg251
 z28:=Tryz.sizeOf251
 v28:=Tryz.zeroValue251
 i26:=by kernel_rfl}
def Tryz.sort270_ren:Go.Shelf.Ren:=⟨fun|6=>270|8=>307|9=>313|19=>339|20=>302|21=>341|22=>342|23=>343|24=>344|25=>345|26=>346|27=>347|28=>348|29=>349|36=>364|31=>360|32=>361|37=>365|38=>366|39=>144|41=>373|n=>n,fun|27=>22|29=>9|3=>3|32=>188|26=>22|0=>0|44=>315|46=>280|4=>4|36=>332|35=>331|41=>274|5=>5|9=>9|53=>354|57=>358|63=>371|64=>372|n=>n,fun|n=>n⟩
theorem Tryz.sort270:Go.Proofs.SlLaysM.n6 Tryz.prog Tryz.sort270_ren:={
 mixed:=by kernel_rfl
 f6:=⟨Tryz.f270.name,by decide,Tryz.func270.trans (congrArg some (by kernel_rfl))⟩
 f8:=Tryz.func307.trans (congrArg some (by kernel_rfl))
 f9:=⟨Tryz.f313.name,by decide,Tryz.func313.trans (congrArg some (by kernel_rfl))⟩
 f19:=Tryz.func339.trans (congrArg some (by kernel_rfl))
 f20:=Tryz.func302.trans (congrArg some (by kernel_rfl))
 f21:=⟨Tryz.f341.name,by decide,Tryz.func341.trans (congrArg some (by kernel_rfl))⟩
 f22:=⟨Tryz.f342.name,by decide,Tryz.func342.trans (congrArg some (by kernel_rfl))⟩
 f23:=⟨Tryz.f343.name,by decide,Tryz.func343.trans (congrArg some (by kernel_rfl))⟩
 f24:=⟨Tryz.f344.name,by decide,Tryz.func344.trans (congrArg some (by kernel_rfl))⟩
 f25:=⟨Tryz.f345.name,by decide,Tryz.func345.trans (congrArg some (by kernel_rfl))⟩
 f26:=⟨Tryz.f346.name,by decide,Tryz.func346.trans (congrArg some (by kernel_rfl))⟩
 f27:=⟨Tryz.f347.name,by decide,Tryz.func347.trans (congrArg some (by kernel_rfl))⟩
 f28:=⟨Tryz.f348.name,by decide,Tryz.func348.trans (congrArg some (by kernel_rfl))⟩
 f29:=⟨Tryz.f349.name,by decide,Tryz.func349.trans (congrArg some (by kernel_rfl))⟩
 f31:=Tryz.func360.trans (congrArg some (by kernel_rfl))
 f32:=Tryz.func361.trans (congrArg some (by kernel_rfl))
 f36:=⟨Tryz.f364.name,by decide,Tryz.func364.trans (congrArg some (by kernel_rfl))⟩
 f37:=⟨Tryz.f365.name,by decide,Tryz.func365.trans (congrArg some (by kernel_rfl))⟩
 f38:=⟨Tryz.f366.name,by decide,Tryz.func366.trans (congrArg some (by kernel_rfl))⟩
 f39:=⟨Tryz.f144.name,by decide,Tryz.func144.trans (congrArg some (by kernel_rfl))⟩
 f41:=⟨Tryz.f373.name,by decide,Tryz.func373.trans (congrArg some (by kernel_rfl))⟩
 t0:=Tryz.underlying0
 a0:=Tryz.isAgg0
 z0:=Tryz.sizeOf0
 v0:=Tryz.zeroValue0
 t3:=Tryz.underlying3
 a3:=Tryz.isAgg3
 z3:=Tryz.sizeOf3
 v3:=Tryz.zeroValue3
 t4:=Tryz.underlying4
 a4:=Tryz.isAgg4
 z4:=Tryz.sizeOf4
 v4:=Tryz.zeroValue4
 t5:=Tryz.underlying5
 a5:=Tryz.isAgg5
 z5:=Tryz.sizeOf5
 v5:=Tryz.zeroValue5
 t9:=Tryz.underlying9
 a9:=Tryz.isAgg9
 z9:=Tryz.sizeOf9
 v9:=Tryz.zeroValue9
 t26:=Tryz.underlying22
 a26:=Tryz.isAgg22
 z26:=Tryz.sizeOf22
 v26:=Tryz.zeroValue22
 t27:=Tryz.underlying22
 a27:=Tryz.isAgg22
 z27:=Tryz.sizeOf22
 v27:=Tryz.zeroValue22
 t29:=Tryz.underlying9
 a29:=Tryz.isAgg9
 z29:=Tryz.sizeOf9
 v29:=Tryz.zeroValue9
 t32:=Tryz.underlying188
 a32:=Tryz.isAgg188
 z32:=Tryz.sizeOf188
 v32:=Tryz.zeroValue188
 t35:=Tryz.underlying331
 a35:=Tryz.isAgg331
 z35:=Tryz.sizeOf331
 v35:=Tryz.zeroValue331
 t36:=Tryz.underlying332
 a36:=Tryz.isAgg332
 z36:=Tryz.sizeOf332
 v36:=Tryz.zeroValue332
 t41:=Tryz.underlying274
 a41:=Tryz.isAgg274
 z41:=Tryz.sizeOf274
 v41:=Tryz.zeroValue274
 t44:=Tryz.underlying315
 a44:=Tryz.isAgg315
 z44:=Tryz.sizeOf315
 v44:=Tryz.zeroValue315
 t46:=Tryz.underlying280
 a46:=Tryz.isAgg280
 z46:=Tryz.sizeOf280
 v46:=Tryz.zeroValue280
 t53:=Tryz.underlying354
 a53:=Tryz.isAgg354
 z53:=Tryz.sizeOf354
 v53:=Tryz.zeroValue354
 t57:=Tryz.underlying358
 a57:=Tryz.isAgg358
 z57:=Tryz.sizeOf358
 v57:=Tryz.zeroValue358
 t63:=Tryz.underlying371
 a63:=Tryz.isAgg371
 z63:=Tryz.sizeOf371
 v63:=Tryz.zeroValue371
 t64:=Tryz.underlying372
 a64:=Tryz.isAgg372
 z64:=Tryz.sizeOf372
 v64:=Tryz.zeroValue372}
def Tryz.keys285_ren:Go.Shelf.Ren:=⟨fun|7=>285|10=>319|n=>n,fun|23=>305|26=>9|3=>112|28=>251|0=>0|27=>250|33=>176|4=>4|n=>n,fun|n=>n⟩
theorem Tryz.keys285:Go.Proofs.SlLaysZ.n7 Tryz.prog Tryz.keys285_ren:={
 mixed:=by kernel_rfl
 f7:=⟨Tryz.f285.name,by decide,Tryz.func285.trans (congrArg some (by kernel_rfl))⟩
 f10:=⟨Tryz.f319.name,by decide,Tryz.func319.trans (congrArg some (by kernel_rfl))⟩
 t0:=Tryz.underlying0
 a0:=Tryz.isAgg0
 z0:=Tryz.sizeOf0
 v0:=Tryz.zeroValue0
 t4:=Tryz.underlying4
 a4:=Tryz.isAgg4
 z4:=Tryz.sizeOf4
 v4:=Tryz.zeroValue4
 t23:=Tryz.underlying305
 a23:=Tryz.isAgg305
 z23:=Tryz.sizeOf305
 v23:=Tryz.zeroValue305
 t26:=Tryz.underlying9
 a26:=Tryz.isAgg9
 z26:=Tryz.sizeOf9
 v26:=Tryz.zeroValue9
 t27:=Tryz.underlying250
 a27:=Tryz.isAgg250
 z27:=Tryz.sizeOf250
 v27:=Tryz.zeroValue250
 t28:=Tryz.underlying251
 a28:=Tryz.isAgg251
 z28:=Tryz.sizeOf251
 v28:=Tryz.zeroValue251
 t33:=Tryz.underlying176
 a33:=Tryz.isAgg176
 z33:=Tryz.sizeOf176
 v33:=Tryz.zeroValue176}
def Tryz.itoaL_ren:Go.Shelf.Ren:=⟨fun|171=>65|243=>117|246=>176|283=>252|284=>253|285=>254|286=>255|129=>302|317=>301|318=>303|319=>304|320=>305|337=>329|338=>330|n=>n,fun|3=>3|9=>9|2=>2|4=>4|171=>279|0=>0|53=>280|37=>182|5=>5|173=>283|212=>314|51=>315|20=>20|213=>316|46=>188|232=>352|233=>353|n=>n,fun|17=>1|18=>3|19=>4|n=>n⟩
theorem Tryz.itoaL:Go.Proofs.LaysM.n171 Tryz.prog Tryz.itoaL_ren:={
 mixed:=by kernel_rfl
 f129:=Tryz.func302.trans (congrArg some (by kernel_rfl))
 f171:=Tryz.func65.trans (congrArg some (by kernel_rfl))
 f243:=Tryz.func117.trans (congrArg some (by kernel_rfl))
 f246:=Tryz.func176.trans (congrArg some (by kernel_rfl))
 f283:=Tryz.func252.trans (congrArg some (by kernel_rfl))
 f284:=Tryz.func253.trans (congrArg some (by kernel_rfl))
 f285:=Tryz.func254.trans (congrArg some (by kernel_rfl))
 f286:=Tryz.func255.trans (congrArg some (by kernel_rfl))
 f317:=Tryz.func301.trans (congrArg some (by kernel_rfl))
 f318:=Tryz.func303.trans (congrArg some (by kernel_rfl))
 f319:=Tryz.func304.trans (congrArg some (by kernel_rfl))
 f320:=Tryz.func305.trans (congrArg some (by kernel_rfl))
 f337:=Tryz.func329.trans (congrArg some (by kernel_rfl))
 f338:=Tryz.func330.trans (congrArg some (by kernel_rfl))
 t0:=Tryz.underlying0
 a0:=Tryz.isAgg0
 z0:=Tryz.sizeOf0
 v0:=Tryz.zeroValue0
 t2:=Tryz.underlying2
 a2:=Tryz.isAgg2
 z2:=Tryz.sizeOf2
 v2:=Tryz.zeroValue2
 t3:=Tryz.underlying3
 a3:=Tryz.isAgg3
 z3:=Tryz.sizeOf3
 v3:=Tryz.zeroValue3
 t4:=Tryz.underlying4
 a4:=Tryz.isAgg4
 z4:=Tryz.sizeOf4
 v4:=Tryz.zeroValue4
 t5:=Tryz.underlying5
 a5:=Tryz.isAgg5
 z5:=Tryz.sizeOf5
 v5:=Tryz.zeroValue5
 t9:=Tryz.underlying9
 a9:=Tryz.isAgg9
 z9:=Tryz.sizeOf9
 v9:=Tryz.zeroValue9
 t20:=Tryz.underlying20
 a20:=Tryz.isAgg20
 z20:=Tryz.sizeOf20
 v20:=Tryz.zeroValue20
 t37:=Tryz.underlying182
 a37:=Tryz.isAgg182
 z37:=Tryz.sizeOf182
 v37:=Tryz.zeroValue182
 t46:=Tryz.underlying188
 a46:=Tryz.isAgg188
 z46:=Tryz.sizeOf188
 v46:=Tryz.zeroValue188
 t51:=Tryz.underlying315
 a51:=Tryz.isAgg315
 z51:=Tryz.sizeOf315
 v51:=Tryz.zeroValue315
 t53:=Tryz.underlying280
 a53:=Tryz.isAgg280
 z53:=Tryz.sizeOf280
 v53:=Tryz.zeroValue280
 t171:=Tryz.underlying279
 a171:=Tryz.isAgg279
 z171:=Tryz.sizeOf279
 v171:=Tryz.zeroValue279
 t173:=Tryz.underlying283
 a173:=Tryz.isAgg283
 z173:=Tryz.sizeOf283
 v173:=Tryz.zeroValue283
 t212:=Tryz.underlying314
 a212:=Tryz.isAgg314
 z212:=Tryz.sizeOf314
 v212:=Tryz.zeroValue314
 t213:=Tryz.underlying316
 a213:=Tryz.isAgg316
 z213:=Tryz.sizeOf316
 t232:=Tryz.underlying352
 a232:=Tryz.isAgg352
 z232:=Tryz.sizeOf352
 v232:=Tryz.zeroValue352
 t233:=Tryz.underlying353
 a233:=Tryz.isAgg353
 z233:=Tryz.sizeOf353
 v233:=Tryz.zeroValue353
 g17:=by kernel_rfl
 g18:=by kernel_rfl
 g19:=by kernel_rfl
 i0:=by kernel_rfl
 i2:=by kernel_rfl
 i3:=by kernel_rfl
 i4:=by kernel_rfl
 i5:=by kernel_rfl
 i9:=by kernel_rfl
 i20:=by kernel_rfl
 i37:=by kernel_rfl
 i46:=by kernel_rfl
 i51:=by kernel_rfl
 i53:=by kernel_rfl
 i171:=by kernel_rfl
 i173:=by kernel_rfl
 i212:=by kernel_rfl
 i232:=by kernel_rfl
 i233:=by kernel_rfl
 m17:=by kernel_rfl
 m18:=by kernel_rfl
 m19:=by kernel_rfl}
def Tryz.pintL_ren:Go.Shelf.Ren:=⟨fun|174=>299|247=>327|245=>328|287=>354|279=>355|280=>356|281=>357|282=>358|321=>368|322=>369|316=>370|171=>65|205=>371|243=>117|246=>176|283=>252|284=>253|285=>254|286=>255|129=>302|317=>301|318=>303|319=>304|320=>305|337=>329|338=>330|n=>n,fun|9=>9|3=>3|2=>2|75=>186|85=>311|4=>4|167=>346|5=>5|53=>280|175=>347|46=>188|168=>349|37=>182|0=>0|210=>369|21=>21|127=>244|145=>388|143=>386|171=>279|173=>283|212=>314|51=>315|20=>20|213=>316|232=>352|233=>353|80=>189|n=>n,fun|15=>6|16=>7|17=>1|18=>3|19=>4|n=>n⟩
theorem Tryz.pintL:Go.Proofs.LaysC.n174 Tryz.prog Tryz.pintL_ren:={
 mixed:=by kernel_rfl
 f129:=Tryz.func302.trans (congrArg some (by kernel_rfl))
 f171:=Tryz.func65.trans (congrArg some (by kernel_rfl))
 f174:=Tryz.func299.trans (congrArg some (by kernel_rfl))
 f205:=Tryz.func371.trans (congrArg some (by kernel_rfl))
 f243:=Tryz.func117.trans (congrArg some (by kernel_rfl))
 f245:=Tryz.func328.trans (congrArg some (by kernel_rfl))
 f246:=Tryz.func176.trans (congrArg some (by kernel_rfl))
 f247:=Tryz.func327.trans (congrArg some (by kernel_rfl))
 f279:=Tryz.func355.trans (congrArg some (by kernel_rfl))
 f280:=Tryz.func356.trans (congrArg some (by kernel_rfl))
 f281:=Tryz.func357.trans (congrArg some (by kernel_rfl))
 f282:=Tryz.func358.trans (congrArg some (by kernel_rfl))
 f283:=Tryz.func252.trans (congrArg some (by kernel_rfl))
 f284:=Tryz.func253.trans (congrArg some (by kernel_rfl))
 f285:=Tryz.func254.trans (congrArg some (by kernel_rfl))
 f286:=Tryz.func255.trans (congrArg some (by kernel_rfl))
 f287:=Tryz.func354.trans (congrArg some (by kernel_rfl))
 f316:=Tryz.func370.trans (congrArg some (by kernel_rfl))
 f317:=Tryz.func301.trans (congrArg some (by kernel_rfl))
 f318:=Tryz.func303.trans (congrArg some (by kernel_rfl))
 f319:=Tryz.func304.trans (congrArg some (by kernel_rfl))
 f320:=Tryz.func305.trans (congrArg some (by kernel_rfl))
 f321:=Tryz.func368.trans (congrArg some (by kernel_rfl))
 f322:=Tryz.func369.trans (congrArg some (by kernel_rfl))
 f337:=Tryz.func329.trans (congrArg some (by kernel_rfl))
 f338:=Tryz.func330.trans (congrArg some (by kernel_rfl))
 t0:=Tryz.underlying0
 a0:=Tryz.isAgg0
 z0:=Tryz.sizeOf0
 v0:=Tryz.zeroValue0
 t2:=Tryz.underlying2
 a2:=Tryz.isAgg2
 z2:=Tryz.sizeOf2
 v2:=Tryz.zeroValue2
 t3:=Tryz.underlying3
 a3:=Tryz.isAgg3
 z3:=Tryz.sizeOf3
 v3:=Tryz.zeroValue3
 t4:=Tryz.underlying4
 a4:=Tryz.isAgg4
 z4:=Tryz.sizeOf4
 v4:=Tryz.zeroValue4
 t5:=Tryz.underlying5
 a5:=Tryz.isAgg5
 z5:=Tryz.sizeOf5
 v5:=Tryz.zeroValue5
 t9:=Tryz.underlying9
 a9:=Tryz.isAgg9
 z9:=Tryz.sizeOf9
 v9:=Tryz.zeroValue9
 t20:=Tryz.underlying20
 a20:=Tryz.isAgg20
 z20:=Tryz.sizeOf20
 v20:=Tryz.zeroValue20
 t21:=Tryz.underlying21
 a21:=Tryz.isAgg21
 z21:=Tryz.sizeOf21
 v21:=Tryz.zeroValue21
 t37:=Tryz.underlying182
 a37:=Tryz.isAgg182
 z37:=Tryz.sizeOf182
 v37:=Tryz.zeroValue182
 t46:=Tryz.underlying188
 a46:=Tryz.isAgg188
 z46:=Tryz.sizeOf188
 v46:=Tryz.zeroValue188
 t51:=Tryz.underlying315
 a51:=Tryz.isAgg315
 z51:=Tryz.sizeOf315
 v51:=Tryz.zeroValue315
 t53:=Tryz.underlying280
 a53:=Tryz.isAgg280
 z53:=Tryz.sizeOf280
 v53:=Tryz.zeroValue280
 t75:=Tryz.underlying186
 a75:=Tryz.isAgg186
 z75:=Tryz.sizeOf186
 v75:=Tryz.zeroValue186
 t85:=Tryz.underlying311
 a85:=Tryz.isAgg311
 z85:=Tryz.sizeOf311
 v85:=Tryz.zeroValue311
 t127:=Tryz.underlying244
 a127:=Tryz.isAgg244
 z127:=Tryz.sizeOf244
 v127:=Tryz.zeroValue244
 t143:=Tryz.underlying386
 a143:=Tryz.isAgg386
 z143:=Tryz.sizeOf386
 v143:=Tryz.zeroValue386
 t145:=Tryz.underlying388
 a145:=Tryz.isAgg388
 z145:=Tryz.sizeOf388
 v145:=Tryz.zeroValue388
 t167:=Tryz.underlying346
 a167:=Tryz.isAgg346
 z167:=Tryz.sizeOf346
 v167:=Tryz.zeroValue346
 t168:=Tryz.underlying349
 a168:=Tryz.isAgg349
 z168:=Tryz.sizeOf349
 v168:=Tryz.zeroValue349
 t171:=Tryz.underlying279
 a171:=Tryz.isAgg279
 z171:=Tryz.sizeOf279
 v171:=Tryz.zeroValue279
 t173:=Tryz.underlying283
 a173:=Tryz.isAgg283
 z173:=Tryz.sizeOf283
 v173:=Tryz.zeroValue283
 t175:=Tryz.underlying347
 a175:=Tryz.isAgg347
 z175:=Tryz.sizeOf347
 v175:=Tryz.zeroValue347
 t210:=Tryz.underlying369
 a210:=Tryz.isAgg369
 z210:=Tryz.sizeOf369
 v210:=Tryz.zeroValue369
 t212:=Tryz.underlying314
 a212:=Tryz.isAgg314
 z212:=Tryz.sizeOf314
 v212:=Tryz.zeroValue314
 t213:=Tryz.underlying316
 a213:=Tryz.isAgg316
 z213:=Tryz.sizeOf316
 t232:=Tryz.underlying352
 a232:=Tryz.isAgg352
 z232:=Tryz.sizeOf352
 v232:=Tryz.zeroValue352
 t233:=Tryz.underlying353
 a233:=Tryz.isAgg353
 z233:=Tryz.sizeOf353
 v233:=Tryz.zeroValue353
 g15:=by kernel_rfl
 g16:=by kernel_rfl
 g17:=by kernel_rfl
 g18:=by kernel_rfl
 g19:=by kernel_rfl
 t80:=Tryz.underlying189
 a80:=Tryz.isAgg189
 z80:=Tryz.sizeOf189
 v80:=Tryz.zeroValue189
 i0:=by kernel_rfl
 i2:=by kernel_rfl
 i3:=by kernel_rfl
 i4:=by kernel_rfl
 i5:=by kernel_rfl
 i9:=by kernel_rfl
 i20:=by kernel_rfl
 i21:=by kernel_rfl
 i37:=by kernel_rfl
 i46:=by kernel_rfl
 i51:=by kernel_rfl
 i53:=by kernel_rfl
 i75:=by kernel_rfl
 i80:=by kernel_rfl
 i85:=by kernel_rfl
 i127:=by kernel_rfl
 i143:=by kernel_rfl
 i145:=by kernel_rfl
 i167:=by kernel_rfl
 i168:=by kernel_rfl
 i171:=by kernel_rfl
 i173:=by kernel_rfl
 i175:=by kernel_rfl
 i210:=by kernel_rfl
 i212:=by kernel_rfl
 i232:=by kernel_rfl
 i233:=by kernel_rfl
 m15:=by kernel_rfl
 m16:=by kernel_rfl
 m17:=by kernel_rfl
 m18:=by kernel_rfl
 m19:=by kernel_rfl
 c0:=by kernel_rfl
 c2:=by kernel_rfl
 c3:=by kernel_rfl
 c4:=by kernel_rfl
 c5:=by kernel_rfl
 c9:=by kernel_rfl
 c20:=by kernel_rfl
 c21:=by kernel_rfl
 c37:=by kernel_rfl
 c46:=by kernel_rfl
 c51:=by kernel_rfl
 c53:=by kernel_rfl
 c75:=by kernel_rfl
 c80:=by kernel_rfl
 c85:=by kernel_rfl
 c127:=by kernel_rfl
 c143:=by kernel_rfl
 c145:=by kernel_rfl
 c167:=by kernel_rfl
 c168:=by kernel_rfl
 c171:=by kernel_rfl
 c173:=by kernel_rfl
 c175:=by kernel_rfl
 c210:=by kernel_rfl
 c212:=by kernel_rfl
 c213:=by kernel_rfl
 c232:=by kernel_rfl
 c233:=by kernel_rfl}
end Go.Proofs
end
section
namespace Go.V
open Go
inductive Val where
 |bool (b:Bool)
 |int (k:IntKind) (n:Int)
 |str (l:List UInt8)
 |nilp
 |nils
 |nilm
 |nilf
 |nili
 |pp (cs:List Val)
 |pr (id off:Nat)
 |sl (cs:List Val) (n:Nat) (cap:Option Nat)
 |jk (x:Value)
 |sle
 |so (id off n:Nat) (cap:Option Nat)
 |mp (id:Nat)
 |fn (f:FuncId) (first captured:List Val)
 |ifc (t:TypeId) (v:Val)
 |ag (cs:List Val)
 |tp (cs:List Val)
 deriving Inhabited
structure Loc where
 b:Nat
 K:Nat
 e:Nat
abbrev Fro:=Nat→Option (Array Value)
abbrev Pl:=Nat→Option Loc
def str (l:List UInt8):Value:=.string ⟨l.toArray⟩
mutual
def Rel (F:Fro)(ρ:Pl):Val→Value→Prop
 |.bool b,x=>x=.bool b
 |.int k n,x=>x=.int k n
 |.str l,x=>x=str l
 |.nilp,x=>x=.pointer none
 |.nils,x=>x=.slice none 0 0
 |.nilm,x=>x=.map none
 |.nilf,x=>x=.nilFunc
 |.nili,x=>x=.nilIface
 |.pp cs,x=>∃b o c,x=.pointer (some ⟨b,o,none⟩)∧F b=some c∧RelL F ρ cs ((c.toList.drop o).take cs.length)
 |.pr id off,x=>∃L,ρ id=some L∧x=.pointer (some ⟨L.b,off,none⟩)
 |.sl cs n cap,x=>((x=.slice none 0 0∨∃p,x=.slice (some p) 0 0)∧n=0∧cs=[]∧∀k',cap=some k'→k'=0)∨∃b o c k,x=.slice (some ⟨b,o,none⟩) n k∧n≤k∧(∀k',cap=some k'→k=k')∧F b=some c∧RelL F ρ cs ((c.toList.drop o).take cs.length)
 |.jk y,x=>x=y
 |.sle,x=>∃p k,x=.slice (some p) 0 k
 |.so id off n cap,x=>∃L k,ρ id=some L∧x=.slice (some ⟨L.b,off,none⟩) n k∧n≤k∧(∀k',cap=some k'→k=k')∧(cap=none→off+k*L.e=L.K)
 |.mp id,x=>∃L,ρ id=some L∧x=.map (some L.b)
 |.fn f first cs,x=>∃us vs,x=.func (.func f) us vs∧RelL F ρ first us.toList∧RelL F ρ cs vs.toList
 |.ifc t v,x=>∃y,x=.iface t y∧Rel F ρ v y
 |.ag cs,x=>∃vs,x=.agg vs∧RelL F ρ cs vs.toList
 |.tp cs,x=>∃vs,x=.tuple vs∧RelL F ρ cs vs.toList
def RelL (F:Fro)(ρ:Pl):List Val→List Value→Prop
 |[],xs=>xs=[]
 |v::vs,xs=>∃y ys,xs=y::ys∧Rel F ρ v y∧RelL F ρ vs ys
end
def FLe (F F':Fro):Prop:=∀b c,F b=some c→F' b=some c
def PLe (ρ ρ':Pl):Prop:=∀i L,ρ i=some L→ρ' i=some L
theorem FLe.refl (F:Fro):FLe F F:=fun _ _ h=>h
theorem PLe.refl (ρ:Pl):PLe ρ ρ:=fun _ _ h=>h
theorem FLe.trans {F G H:Fro}(h:FLe F G)(h':FLe G H):FLe F H:=fun b c x=>h' b c (h b c x)
theorem PLe.trans {F G H:Pl}(h:PLe F G)(h':PLe G H):PLe F H:=fun b c x=>h' b c (h b c x)
mutual
theorem Rel.mono {F F':Fro}{ρ ρ':Pl}(hF:FLe F F')(hρ:PLe ρ ρ'):∀(v:Val)(x:Value),Rel F ρ v x→Rel F' ρ' v x
 |.bool _,_,h|.int _ _,_,h|.str _,_,h|.nilp,_,h|.nils,_,h|.nilm,_,h|.nilf,_,h|.nili,_,h|.sle,_,h|.jk _,_,h=>by simpa[Rel] using h
 |.pp cs,x,h=>by
  simp only[Rel] at *
  obtain⟨b,o,c,h1,h2,h3⟩:=h
  exact⟨b,o,c,h1,hF _ _ h2,RelL.mono hF hρ _ _ h3⟩
 |.pr id off,x,h=>by
  simp only[Rel] at *
  obtain⟨L,h1,h2⟩:=h
  exact⟨L,hρ _ _ h1,h2⟩
 |.sl cs n cap,x,h=>by
  simp only[Rel] at *
  rcases h with h|⟨b,o,c,k,h1,h2,h3,h4,h5⟩
  ·
   exact .inl h
  ·
   exact .inr ⟨b,o,c,k,h1,h2,h3,hF _ _ h4,RelL.mono hF hρ _ _ h5⟩
 |.so id off n cap,x,h=>by
  simp only[Rel] at *
  obtain⟨L,k,h1,h2⟩:=h
  exact⟨L,k,hρ _ _ h1,h2⟩
 |.mp id,x,h=>by
  simp only[Rel] at *
  obtain⟨L,h1,h2⟩:=h
  exact⟨L,hρ _ _ h1,h2⟩
 |.fn f az cs,x,h=>by
  simp only[Rel] at *
  obtain⟨us,vs,h1,h2,h3⟩:=h
  exact⟨us,vs,h1,RelL.mono hF hρ _ _ h2,RelL.mono hF hρ _ _ h3⟩
 |.ifc t v,x,h=>by
  simp only[Rel] at *
  obtain⟨y,h1,h2⟩:=h
  exact⟨y,h1,Rel.mono hF hρ _ _ h2⟩
 |.ag cs,x,h=>by
  simp only[Rel] at *
  obtain⟨vs,h1,h2⟩:=h
  exact⟨vs,h1,RelL.mono hF hρ _ _ h2⟩
 |.tp cs,x,h=>by
  simp only[Rel] at *
  obtain⟨vs,h1,h2⟩:=h
  exact⟨vs,h1,RelL.mono hF hρ _ _ h2⟩
theorem RelL.mono {F F':Fro}{ρ ρ':Pl}(hF:FLe F F')(hρ:PLe ρ ρ'):∀(vs:List Val)(xs:List Value),RelL F ρ vs xs→RelL F' ρ' vs xs
 |[],_,h=>by simpa[RelL] using h
 |v::vs,xs,h=>by
  simp only[RelL] at *
  obtain⟨y,ys,h1,h2,h3⟩:=h
  exact⟨y,ys,h1,Rel.mono hF hρ _ _ h2,RelL.mono hF hρ _ _ h3⟩
end
section
variable {F:Fro} {ρ:Pl}
theorem RelL.length:∀{vs:List Val}{xs:List Value},RelL F ρ vs xs→xs.length=vs.length
 |[],_,h=>by simp only[RelL] at h;subst h;rfl
 |v::vs,xs,h=>by
  simp only[RelL] at h
  obtain⟨y,ys,rfl,_,h3⟩:=h
  simp[RelL.length h3]
theorem RelL.get:∀{vs:List Val}{xs:List Value},RelL F ρ vs xs→∀{i:Nat}{v:Val},vs[i]?=some v→∃x,xs[i]?=some x∧Rel F ρ v x
 |[],_,_,i,v,hv=>by simp at hv
 |u::vs,xs,h,i,v,hv=>by
  simp only[RelL] at h
  obtain⟨y,ys,rfl,h2,h3⟩:=h
  cases i with
  |zero=>simp at hv;subst hv;exact⟨y,rfl,h2⟩
  |succ i=>simp at hv;simpa using RelL.get h3 hv
theorem RelL.append:∀{vs us:List Val}{xs ys:List Value},RelL F ρ vs xs→RelL F ρ us ys→RelL F ρ (vs++us) (xs++ys)
 |[],_,_,_,h,h'=>by simp only[RelL] at h;subst h;exact h'
 |v::vs,us,xs,ys,h,h'=>by
  simp only[RelL] at h
  obtain⟨y,ys',rfl,h2,h3⟩:=h
  simp only[List.cons_append,RelL]
  exact⟨y,_,rfl,h2,RelL.append h3 h'⟩
theorem RelL.take:∀{vs:List Val}{xs:List Value}(n:Nat),RelL F ρ vs xs→RelL F ρ (vs.take n) (xs.take n)
 |_,_,0,_=>by simp[RelL]
 |[],_,n+1,h=>by simp only[RelL] at h;subst h;simp[RelL]
 |v::vs,xs,n+1,h=>by
  simp only[RelL] at h
  obtain⟨y,ys',rfl,h2,h3⟩:=h
  simp only[List.take_succ_cons,RelL]
  exact⟨y,_,rfl,h2,RelL.take n h3⟩
theorem RelL.drop:∀{vs:List Val}{xs:List Value}(n:Nat),RelL F ρ vs xs→RelL F ρ (vs.drop n) (xs.drop n)
 |_,_,0,h=>by simpa using h
 |[],_,n+1,h=>by simp only[RelL] at h;subst h;simp[RelL]
 |v::vs,xs,n+1,h=>by
  simp only[RelL] at h
  obtain⟨y,ys',rfl,h2,h3⟩:=h
  simpa using RelL.drop n h3
theorem RelL.set:∀{vs:List Val}{xs:List Value},RelL F ρ vs xs→∀(i:Nat){v:Val}{x:Value},Rel F ρ v x→RelL F ρ (vs.set i v) (xs.set i x)
 |[],_,h,i,v,x,_=>by simp only[RelL] at h;subst h;simp[RelL]
 |u::vs,xs,h,i,v,x,hv=>by
  simp only[RelL] at h
  obtain⟨y,ys',rfl,h2,h3⟩:=h
  cases i with
  |zero=>simp only[List.set_cons_zero,RelL];exact⟨x,_,rfl,hv,h3⟩
  |succ i=>simp only[List.set_cons_succ,RelL];exact⟨y,_,rfl,h2,RelL.set h3 i hv⟩
theorem RelL.nil:RelL F ρ [] []:=by simp[RelL]
theorem RelL.cons {v:Val}{vs:List Val}{x:Value}{xs:List Value}(h:Rel F ρ v x)(h':RelL F ρ vs xs):RelL F ρ (v::vs) (x::xs):=by
 simp only[RelL]
 exact⟨x,xs,rfl,h,h'⟩
theorem RelL.one {v:Val}{x:Value}(h:Rel F ρ v x):RelL F ρ [v] [x]:=.cons h .nil
theorem RelL.replicate {v:Val}{x:Value}(h:Rel F ρ v x):∀n,RelL F ρ (List.replicate n v) (List.replicate n x)
 |0=>.nil
 |n+1=>by simp only[List.replicate_succ];exact .cons h (RelL.replicate h n)
theorem RelL.reverse:∀{vs:List Val}{xs:List Value},RelL F ρ vs xs→RelL F ρ vs.reverse xs.reverse
 |[],_,h=>by simp only[RelL] at h;subst h;exact .nil
 |v::vs,xs,h=>by
  simp only[RelL] at h
  obtain⟨y,ys',rfl,h2,h3⟩:=h
  simp only[List.reverse_cons]
  exact .append (RelL.reverse h3) (.one h2)
end
mutual
def Val.closed:Val→Bool
 |.pr _ _|.so _ _ _ _|.mp _=>false
 |.pp cs|.sl cs _ _|.ag cs|.tp cs=>aE cs
 |.fn _ az cs=>aE az&&aE cs
 |.ifc _ v=>v.closed
 |_=>true
def aE:List Val→Bool
 |[]=>true
 |v::vs=>v.closed&&aE vs
end
mutual
def Val.flat:Val→Bool
 |.pp _|.sl _ _ _|.pr _ _|.so _ _ _ _|.mp _=>false
 |.ag cs|.tp cs=>kA cs
 |.fn _ az cs=>kA az&&kA cs
 |.ifc _ v=>v.flat
 |_=>true
def kA:List Val→Bool
 |[]=>true
 |v::vs=>v.flat&&kA vs
end
mutual
theorem Rel.of_closed {F:Fro}{ρ ρ':Pl}:∀(v:Val)(x:Value),v.closed=true→Rel F ρ v x→Rel F ρ' v x
 |.bool _,_,_,h|.int _ _,_,_,h|.str _,_,_,h|.nilp,_,_,h|.nils,_,_,h|.nilm,_,_,h|.nilf,_,_,h|.nili,_,_,h|.sle,_,_,h|.jk _,_,_,h=>by simpa[Rel] using h
 |.pp cs,x,hc,h=>by
  simp only[Rel,Val.closed] at *
  obtain⟨b,o,c,h1,h2,h3⟩:=h
  exact⟨b,o,c,h1,h2,RelL.of_closed _ _ hc h3⟩
 |.pr id off,x,hc,h=>by simp[Val.closed] at hc
 |.so id off n cap,x,hc,h=>by simp[Val.closed] at hc
 |.mp id,x,hc,h=>by simp[Val.closed] at hc
 |.sl cs n cap,x,hc,h=>by
  simp only[Rel,Val.closed] at *
  rcases h with h|⟨b,o,c,k,h1,h2,h3,h4,h5⟩
  ·
   exact .inl h
  ·
   exact .inr ⟨b,o,c,k,h1,h2,h3,h4,RelL.of_closed _ _ hc h5⟩
 |.fn f az cs,x,hc,h=>by
  simp only[Rel,Val.closed,Bool.and_eq_true] at *
  obtain⟨us,vs,h1,h2,h3⟩:=h
  exact⟨us,vs,h1,RelL.of_closed _ _ hc.1 h2,RelL.of_closed _ _ hc.2 h3⟩
 |.ifc t v,x,hc,h=>by
  simp only[Rel,Val.closed] at *
  obtain⟨y,h1,h2⟩:=h
  exact⟨y,h1,Rel.of_closed _ _ hc h2⟩
 |.ag cs,x,hc,h=>by
  simp only[Rel,Val.closed] at *
  obtain⟨vs,h1,h2⟩:=h
  exact⟨vs,h1,RelL.of_closed _ _ hc h2⟩
 |.tp cs,x,hc,h=>by
  simp only[Rel,Val.closed] at *
  obtain⟨vs,h1,h2⟩:=h
  exact⟨vs,h1,RelL.of_closed _ _ hc h2⟩
theorem RelL.of_closed {F:Fro}{ρ ρ':Pl}:∀(vs:List Val)(xs:List Value),aE vs=true→RelL F ρ vs xs→RelL F ρ' vs xs
 |[],_,_,h=>by simpa[RelL] using h
 |v::vs,xs,hc,h=>by
  simp only[RelL,aE,Bool.and_eq_true] at *
  obtain⟨y,ys,h1,h2,h3⟩:=h
  exact⟨y,ys,h1,Rel.of_closed _ _ hc.1 h2,RelL.of_closed _ _ hc.2 h3⟩
end
mutual
theorem Rel.of_flat {F F':Fro}{ρ ρ':Pl}:∀(v:Val)(x:Value),v.flat=true→Rel F ρ v x→Rel F' ρ' v x
 |.bool _,_,_,h|.int _ _,_,_,h|.str _,_,_,h|.nilp,_,_,h|.nils,_,_,h|.nilm,_,_,h|.nilf,_,_,h|.nili,_,_,h|.sle,_,_,h|.jk _,_,_,h=>by simpa[Rel] using h
 |.pp cs,x,hc,h=>by simp[Val.flat] at hc
 |.pr id off,x,hc,h=>by simp[Val.flat] at hc
 |.so id off n cap,x,hc,h=>by simp[Val.flat] at hc
 |.mp id,x,hc,h=>by simp[Val.flat] at hc
 |.sl cs n cap,x,hc,h=>by simp[Val.flat] at hc
 |.fn f az cs,x,hc,h=>by
  simp only[Rel,Val.flat,Bool.and_eq_true] at *
  obtain⟨us,vs,h1,h2,h3⟩:=h
  exact⟨us,vs,h1,RelL.of_flat _ _ hc.1 h2,RelL.of_flat _ _ hc.2 h3⟩
 |.ifc t v,x,hc,h=>by
  simp only[Rel,Val.flat] at *
  obtain⟨y,h1,h2⟩:=h
  exact⟨y,h1,Rel.of_flat _ _ hc h2⟩
 |.ag cs,x,hc,h=>by
  simp only[Rel,Val.flat] at *
  obtain⟨vs,h1,h2⟩:=h
  exact⟨vs,h1,RelL.of_flat _ _ hc h2⟩
 |.tp cs,x,hc,h=>by
  simp only[Rel,Val.flat] at *
  obtain⟨vs,h1,h2⟩:=h
  exact⟨vs,h1,RelL.of_flat _ _ hc h2⟩
theorem RelL.of_flat {F F':Fro}{ρ ρ':Pl}:∀(vs:List Val)(xs:List Value),kA vs=true→RelL F ρ vs xs→RelL F' ρ' vs xs
 |[],_,_,h=>by simpa[RelL] using h
 |v::vs,xs,hc,h=>by
  simp only[RelL,kA,Bool.and_eq_true] at *
  obtain⟨y,ys,h1,h2,h3⟩:=h
  exact⟨y,ys,h1,Rel.of_flat _ _ hc.1 h2,RelL.of_flat _ _ hc.2 h3⟩
end
end Go.V
end
section
namespace Go.V
open Go
inductive Blk where
 |cells (cs:List Val) (t:TypeId) (opn:Bool)
 |map (es:List (Val×Val))
 deriving Inhabited
abbrev Heap:=List (Nat×Blk)
def get:Heap→Nat→Option Blk
 |[],_=>none
 |(i,b)::r,j=>if i=j then some b else get r j
def put:Heap→Nat→Blk→Heap
 |[],i,b=>[(i,b)]
 |(k,c)::r,i,b=>if k=i then (i,b)::r else (k,c)::put r i b
def del:Heap→Nat→Heap
 |[],_=>[]
 |(k,c)::r,i=>if k=i then del r i else (k,c)::del r i
theorem eb (h:Heap)(i:Nat)(b:Blk)(j:Nat):get (put h i b) j=if i=j then some b else get h j:=by
 induction h with
 |nil=>simp[put,get]
 |cons x r ih=>
  obtain⟨k,c⟩:=x
  by_cases hk:k=i
  ·
   subst hk;simp only[put,if_true,get];by_cases hj:k=j<;>simp[hj]
  ·
   simp only[put,hk,if_false,get,ih]
   by_cases hj:k=j
   ·
    subst hj;have:¬i=k:=fun e=>hk e.symm;simp[this]
   ·
    simp[hj]
theorem mM (h:Heap)(i j:Nat):get (del h i) j=if i=j then none else get h j:=by
 induction h with
 |nil=>simp[del,get]
 |cons x r ih=>
  obtain⟨k,c⟩:=x
  by_cases hk:k=i
  ·
   subst hk;simp only[del,if_true,ih,get];by_cases hj:k=j<;>simp[hj]
  ·
   simp only[del,hk,if_false,get,ih]
   by_cases hj:k=j
   ·
    subst hj;have:¬i=k:=fun e=>hk e.symm;simp[this]
   ·
    simp[hj]
section
variable (P:Program)
def MapRel (F:Fro)(ρ:Pl):List (Val×Val)→List MapEntry→Prop
 |[],xs=>xs=[]
 |(k,v)::es,xs=>∃y ys,xs=y::ys∧Rel F ρ k y.key∧k.flat=true∧Rel F ρ v y.val∧MapRel F ρ es ys
def Born (ents:Array MapEntry)(clock:Nat):Prop:=(∀x∈ents.toList,x.born<clock)∧(ents.toList.map (·.born)).Nodup
theorem Born.empty:Born #[] 0:=⟨by simp,by simp⟩
theorem Born.push {ents:Array MapEntry}{clock:Nat}(h:Born ents clock)(k v:Value):Born (ents.push {key:=k,val:=v,born:=clock}) (clock+1):=by
 obtain⟨h1,h2⟩:=h
 refine⟨fun x hx=>?_,?_⟩
 ·
  rw[Array.toList_push,List.mem_append] at hx
  rcases hx with hx|hx
  ·
   have:=h1 x hx;omega
  ·
   simp at hx;subst hx;simp
 ·
  rw[Array.toList_push,List.map_append,List.nodup_append]
  refine⟨h2,by simp,?_⟩
  intro a ha b hb
  simp at hb
  subst hb
  obtain⟨x,hx,rfl⟩:=List.mem_map.1 ha
  have:=h1 x hx
  omega
theorem Born.same {ents ents':Array MapEntry}{clock:Nat}(h:Born ents clock)(he:ents'.toList.map (·.born)=ents.toList.map (·.born)):Born ents' clock:=by
 obtain⟨h1,h2⟩:=h
 refine⟨fun x hx=>?_,by rw[he];exact h2⟩
 have:x.born∈ents'.toList.map (·.born):=List.mem_map.2 ⟨x,hx,rfl⟩
 rw[he] at this
 obtain⟨y,hy,e⟩:=List.mem_map.1 this
 rw[←e]
 exact h1 y hy
theorem Born.sub {ents ents':Array MapEntry}{clock:Nat}(h:Born ents clock)(he:List.Sublist ents'.toList ents.toList):Born ents' clock:=by
 obtain⟨h1,h2⟩:=h
 exact⟨fun x hx=>h1 x (he.subset hx),(he.map _).nodup h2⟩
def BRel (F:Fro)(ρ:Pl)(L:Loc):Blk→Obj→Prop
 |.cells cs t o,x=>∃c,x=.cells c t (0,0)∧c.size=L.K∧P.cellsOf t=L.e∧RelL F ρ cs (c.toList.take cs.length)∧(o=false→cs.length=L.K)
 |.map es,x=>∃ents clock,x=.map ents clock∧MapRel F ρ es ents.toList∧Born ents clock
theorem MapRel.mono {F F':Fro}{ρ ρ':Pl}(hF:FLe F F')(hρ:PLe ρ ρ'):∀(es:List (Val×Val))(xs:List MapEntry),MapRel F ρ es xs→MapRel F' ρ' es xs
 |[],_,h=>h
 |(k,v)::es,xs,h=>by
  obtain⟨y,ys,h1,h2,h3,h4,h5⟩:=h
  exact⟨y,ys,h1,Rel.mono hF hρ _ _ h2,h3,Rel.mono hF hρ _ _ h4,MapRel.mono hF hρ _ _ h5⟩
theorem BRel.mono {F F':Fro}{ρ ρ':Pl}(hF:FLe F F')(hρ:PLe ρ ρ'){L:Loc}{b:Blk}{x:Obj}(h:BRel P F ρ L b x):BRel P F' ρ' L b x:=by
 cases b with
 |cells cs t o=>
  obtain⟨c,h1,h2,h3,h4,h5⟩:=h
  exact⟨c,h1,h2,h3,RelL.mono hF hρ _ _ h4,h5⟩
 |map es=>
  obtain⟨ents,clock,h1,h2,hborn⟩:=h
  exact⟨ents,clock,h1,MapRel.mono hF hρ _ _ h2,hborn⟩
def FOk (F:Fro)(w:World):Prop:=∀b c,F b=some c→∃e fr,w.heap[b]?=some (.cells c e fr)
structure Fr (w0:World)(O:Nat→Prop)(w:World):Prop where
 os:w.os=w0.os
 tape:w.tape=w0.tape
 output:w.output=w0.output
 size:w0.heap.size≤w.heap.size
 block:∀k,k<w0.heap.size→¬O k→w.heap[k]?=w0.heap[k]?
structure Mem (F:Fro)(ρ:Pl)(h:Heap)(w0:World)(O:Nat→Prop)(w:World):Prop where
 fro:FOk F w
 own:∀i blk,get h i=some blk→∃L x,ρ i=some L∧F L.b=none∧w.heap[L.b]?=some x∧BRel P F ρ L blk x
 inj:∀i j Li Lj,(get h i).isSome→(get h j).isSome→ρ i=some Li→ρ j=some Lj→Li.b=Lj.b→i=j
 ours:∀i L,(get h i).isSome→ρ i=some L→O L.b∨w0.heap.size≤L.b
 fr:Fr w0 O w
end
theorem Fr.refl (w:World)(O:Nat→Prop):Fr w O w:=⟨rfl,rfl,rfl,Nat.le_refl _,fun _ _ _=>rfl⟩
theorem Fr.trans {a b c:World}{O O':Nat→Prop}(h:Fr a O b)(k:Fr b O' c)(hO:∀x,O' x→O x∨a.heap.size≤x):Fr a O c:=
 ⟨k.os.trans h.os,k.tape.trans h.tape,k.output.trans h.output,Nat.le_trans h.size k.size,fun i hi ho=>by
  rw[k.block i (Nat.lt_of_lt_of_le hi h.size) (fun hx=>(hO i hx).elim ho (by omega)),h.block i hi ho]⟩
theorem Fr.below {a b:World}(h:Fr a (fun _=>False) b):Go.RowKit.Below a.heap.size a b:=⟨h.os,h.tape,h.output,h.size,fun k hk=>h.block k hk id⟩
section
variable {P:Program} {F:Fro} {ρ:Pl} {h:Heap} {w0 w:World} {O:Nat→Prop}
theorem dN {w:World}{b:Nat}{x:Obj}(h:w.heap[b]?=some x):b<w.heap.size:=by
 rcases Nat.lt_or_ge b w.heap.size with h'|h'
 ·
  exact h'
 ·
  simp[Array.getElem?_eq_none h'] at h
theorem Mem.lt (m:Mem P F ρ h w0 O w){i:Nat}{L:Loc}(hi:(get h i).isSome)(hL:ρ i=some L):L.b<w.heap.size:=by
 cases hb:get h i with
 |none=>simp[hb] at hi
 |some blk=>
  obtain⟨L',x,h1,_,h3,_⟩:=m.own i blk hb
  rw[hL] at h1;cases h1
  exact dN h3
theorem Mem.same {w':World}(m:Mem P F ρ h w0 O w)(hh:w'.heap=w.heap)(ho:w'.os=w.os)(ht:w'.tape=w.tape)(hu:w'.output=w.output):Mem P F ρ h w0 O w':=
 ⟨fun b c hb=>by rw[hh];exact m.fro b c hb,fun i blk hi=>by rw[hh];exact m.own i blk hi,m.inj,m.ours,
  ⟨ho.trans m.fr.os,ht.trans m.fr.tape,hu.trans m.fr.output,by rw[hh];exact m.fr.size,fun k hk hO=>by rw[hh];exact m.fr.block k hk hO⟩⟩
def upd (ρ:Pl)(i:Nat)(L:Loc):Pl:=fun j=>if i=j then some L else ρ j
theorem pg {ρ:Pl}{i:Nat}(L:Loc)(hi:ρ i=none):PLe ρ (upd ρ i L):=fun j M hj=>by
 unfold upd
 by_cases e:i=j
 ·
  subst e;rw[hi] at hj;cases hj
 ·
  rw[if_neg e];exact hj
theorem Mem.alloc (m:Mem P F ρ h w0 O w){i:Nat}(hi:ρ i=none){K e:Nat}{blk:Blk}{x:Obj}{w':World}
  (hb:BRel P F (upd ρ i ⟨w.heap.size,K,e⟩) ⟨w.heap.size,K,e⟩ blk x) (hh:w'.heap=w.heap.push x) (ho:w'.os=w.os) (ht:w'.tape=w.tape) (hu:w'.output=w.output) :
  Mem P F (upd ρ i ⟨w.heap.size,K,e⟩) (put h i blk) w0 O w'∧PLe ρ (upd ρ i ⟨w.heap.size,K,e⟩):=by
 have hle:=pg (⟨w.heap.size,K,e⟩:Loc) hi
 have hni:get h i=none:=by
  cases hg:get h i with
  |none=>rfl
  |some b=>obtain⟨L,_,hL,_⟩:=m.own i b hg;rw[hi] at hL;cases hL
 have old:∀k,k<w.heap.size→w'.heap[k]?=w.heap[k]?:=fun k hk=>by rw[hh];simp[Array.getElem?_push,Nat.ne_of_lt hk]
 have new:w'.heap[w.heap.size]?=some x:=by rw[hh];simp
 have key:∀j L,(get (put h i blk) j).isSome→upd ρ i ⟨w.heap.size,K,e⟩ j=some L→(j=i∧L=⟨w.heap.size,K,e⟩)∨(j≠i∧(get h j).isSome∧ρ j=some L):=by
  intro j L hj hL
  rw[eb] at hj
  unfold upd at hL
  by_cases e:i=j
  ·
   rw[if_pos e] at hL;cases hL;exact .inl ⟨e.symm,rfl⟩
  ·
   rw[if_neg e] at hL hj;exact .inr ⟨fun h=>e h.symm,hj,hL⟩
 refine⟨⟨fun b c hb=>?_,fun j b hj=>?_,fun j k Lj Lk hj hk hLj hLk hbb=>?_,fun j L hj hL=>?_,?_⟩,hle⟩
 ·
  obtain⟨e,fr,h1⟩:=m.fro b c hb
  exact⟨e,fr,by rw[old b (dN h1)];exact h1⟩
 ·
  rw[eb] at hj
  by_cases e:i=j
  ·
   subst e
   rw[if_pos rfl] at hj
   cases hj
   refine⟨_,x,by unfold upd;rw[if_pos rfl],?_,new,hb⟩
   cases hF:F w.heap.size with
   |none=>rfl
   |some c=>obtain⟨_,_,h1⟩:=m.fro _ _ hF;have:=dN h1;omega
  ·
   rw[if_neg e] at hj
   obtain⟨L,y,h1,h2,h3,h4⟩:=m.own j b hj
   exact⟨L,y,hle _ _ h1,h2,by rw[old _ (dN h3)];exact h3,h4.mono P (FLe.refl F) hle⟩
 ·
  rcases key j Lj hj hLj with ⟨rfl,rfl⟩|⟨h1,h2,h3⟩<;>rcases key k Lk hk hLk with ⟨rfl,rfl⟩|⟨h4,h5,h6⟩
  ·
   rfl
  ·
   have:=m.lt h5 h6;simp at hbb;omega
  ·
   have:=m.lt h2 h3;simp at hbb;omega
  ·
   exact m.inj j k Lj Lk h2 h5 h3 h6 hbb
 ·
  rcases key j L hj hL with ⟨rfl,rfl⟩|⟨h1,h2,h3⟩
  ·
   exact .inr m.fr.size
  ·
   exact m.ours j L h2 h3
 ·
  exact⟨ho.trans m.fr.os,ht.trans m.fr.tape,hu.trans m.fr.output,by rw[hh];simp;have:=m.fr.size;omega,fun k hk hO=>by rw[old k (Nat.lt_of_lt_of_le hk m.fr.size)];exact m.fr.block k hk hO⟩
theorem Mem.set (m:Mem P F ρ h w0 O w){i:Nat}{L:Loc}(hi:(get h i).isSome)(hL:ρ i=some L){blk:Blk}{x:Obj}{w':World}
  (hb:BRel P F ρ L blk x) (hx:w'.heap[L.b]?=some x) (hs:w'.heap.size=w.heap.size) (hk:∀k,k≠L.b→w'.heap[k]?=w.heap[k]?) (ho:w'.os=w.os) (ht:w'.tape=w.tape) (hu:w'.output=w.output) :
  Mem P F ρ (put h i blk) w0 O w':=by
 have hFi:F L.b=none:=by
  cases hg:get h i with
  |none=>simp[hg] at hi
  |some b=>obtain⟨M,_,h1,h2,_⟩:=m.own i b hg;rw[hL] at h1;cases h1;exact h2
 have some':∀j,(get (put h i blk) j).isSome→(get h j).isSome:=by
  intro j hj
  rw[eb] at hj
  by_cases e:i=j
  ·
   subst e;exact hi
  ·
   rw[if_neg e] at hj;exact hj
 refine⟨fun b c hb=>?_,fun j b hj=>?_,fun j k Lj Lk hj hk'=>m.inj j k Lj Lk (some' j hj) (some' k hk'),fun j M hj=>m.ours j M (some' j hj),?_⟩
 ·
  obtain⟨e,fr,h1⟩:=m.fro b c hb
  have:b≠L.b:=fun e=>by subst e;rw[hFi] at hb;cases hb
  exact⟨e,fr,by rw[hk b this];exact h1⟩
 ·
  rw[eb] at hj
  by_cases e:i=j
  ·
   subst e
   rw[if_pos rfl] at hj
   cases hj
   exact⟨L,x,hL,hFi,hx,hb⟩
  ·
   rw[if_neg e] at hj
   obtain⟨M,y,h1,h2,h3,h4⟩:=m.own j b hj
   have hne:M.b≠L.b:=fun he=>e (m.inj i j L M hi (by simp[hj]) hL h1 he.symm)
   exact⟨M,y,h1,h2,by rw[hk _ hne];exact h3,h4⟩
 ·
  refine⟨ho.trans m.fr.os,ht.trans m.fr.tape,hu.trans m.fr.output,by rw[hs];exact m.fr.size,fun k hk' hO=>?_⟩
  by_cases e:k=L.b
  ·
   subst e
   rcases m.ours i L hi hL with h1|h1
   ·
    exact(hO h1).elim
   ·
    omega
  ·
   rw[hk k e];exact m.fr.block k hk' hO
theorem Mem.sub (m:Mem P F ρ h w0 O w){h':Heap}(hs:∀i b,get h' i=some b→get h i=some b):Mem P F ρ h' w0 O w:=by
 have some':∀j,(get h' j).isSome→(get h j).isSome:=by
  intro j hj
  cases hg:get h' j with
  |none=>simp[hg] at hj
  |some b=>rw[hs j b hg];rfl
 exact⟨m.fro,fun i b hi=>m.own i b (hs i b hi),fun i j Li Lj hi hj=>m.inj i j Li Lj (some' i hi) (some' j hj),fun i L hi=>m.ours i L (some' i hi),m.fr⟩
theorem vB {h:Heap}{i j:Nat}{b:Blk}(hg:get (del h i) j=some b):get h j=some b:=by
 rw[mM] at hg
 by_cases e:i=j
 ·
  rw[if_pos e] at hg;cases hg
 ·
  rw[if_neg e] at hg;exact hg
def iW (h:Heap):Val→Option (List Val)
 |.pp cs=>some cs
 |.pr id off=>match get h id with
  |some (.cells cs _ _)=>if off≤cs.length then some (cs.drop off) else none
  |_=>none
 |_=>none
theorem bp (b o j:Nat):(⟨b,o,none⟩:Addr).add j=⟨b,o+j,none⟩:=by unfold Addr.add;split<;>simp_all
theorem gY {w:World}{b:Nat}{c:Array Value}{e:TypeId}{fr:Nat×Nat}(hb:w.heap[b]?=some (.cells c e fr))(j:Nat):w.cell? ⟨b,j,none⟩=c[j]?:=by
 simp[World.cell?,hb]
theorem Mem.ptr (m:Mem P F ρ h w0 O w){p:Val}{x:Value}{cs:List Val}(hr:Rel F ρ p x)(hc:iW h p=some cs) :
  ∃b o xs,x=.pointer (some ⟨b,o,none⟩)∧RelL F ρ cs xs∧∀j v,xs[j]?=some v→w.cell? ⟨b,o+j,none⟩=some v:=by
 cases p with
 |pp cs'=>
  simp only[iW,Option.some.injEq] at hc
  subst hc
  simp only[Rel] at hr
  obtain⟨b,o,c,h1,h2,h3⟩:=hr
  obtain⟨e,fr,hb⟩:=m.fro b c h2
  refine⟨b,o,_,h1,h3,fun j v hj=>?_⟩
  rw[gY hb]
  rw[List.getElem?_take] at hj
  split at hj
  ·
   rw[List.getElem?_drop] at hj;simpa using hj
  ·
   cases hj
 |pr id off=>
  simp only[iW] at hc
  cases hg:get h id with
  |none=>simp[hg] at hc
  |some blk=>
   cases blk with
   |map es=>simp[hg] at hc
   |cells cs' t o=>
    simp only[hg] at hc
    split at hc
    ·
     simp only[Option.some.injEq] at hc
     subst hc
     simp only[Rel] at hr
     obtain⟨L,h1,h2⟩:=hr
     obtain⟨L',y,h3,h4,h5,c,h6,h7,h8,h9,h10⟩:=m.own id _ hg
     rw[h1] at h3;cases h3
     subst h6
     refine⟨L.b,off,_,h2,h9.drop off,fun j v hj=>?_⟩
     rw[gY h5]
     rw[List.getElem?_drop,List.getElem?_take] at hj
     split at hj
     ·
      simpa using hj
     ·
      cases hj
    ·
     cases hc
 |_=>simp[iW] at hc
end
end Go.V
end
