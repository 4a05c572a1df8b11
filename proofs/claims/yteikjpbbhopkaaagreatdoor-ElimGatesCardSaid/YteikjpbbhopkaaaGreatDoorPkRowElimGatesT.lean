/- Lemmas and contracts for the row. -/
import Derived.Test.YteikjpbbhopkaaaGreatDoorPkRowElimGatesQQ
import Derived.Shelf.SlIterI.Nil
import Derived.Shelf.SortM.Plain
import Derived.Shelf.SortM.SortNone
import Derived.Shelf.Small.Wraps
import Derived.Test.YteikjpbbhopkaaaGreatDoorProg
set_option linter.unusedVariables false
set_option linter.unusedSimpArgs false
set_option linter.unnecessarySimpa false
namespace Go.Proofs
open Go.Shelf
def Tryz.shKeys_ren:Go.Shelf.Ren:=⟨fun|7=>76|10=>104|n=>n,fun|23=>116|26=>3|3=>118|28=>126|0=>0|27=>125|33=>60|4=>4|n=>n,fun|n=>n⟩
theorem Tryz.shKeys:Go.Proofs.SlLaysZI.n7 Tryz.prog Tryz.shKeys_ren:={
 mixed:=by kernel_rfl
 f7:=⟨Tryz.f76.name,by decide,Tryz.func76.trans (congrArg some (by kernel_rfl))⟩
 f10:=⟨Tryz.f104.name,by decide,Tryz.func104.trans (congrArg some (by kernel_rfl))⟩
 t0:=Tryz.underlying0
 a0:=Tryz.isAgg0
 z0:=Tryz.sizeOf0
 v0:=Tryz.zeroValue0
 t4:=Tryz.underlying4
 a4:=Tryz.isAgg4
 z4:=Tryz.sizeOf4
 v4:=Tryz.zeroValue4
 t23:=Tryz.underlying116
 a23:=Tryz.isAgg116
 z23:=Tryz.sizeOf116
 v23:=Tryz.zeroValue116
 t26:=Tryz.underlying3
 a26:=Tryz.isAgg3
 z26:=Tryz.sizeOf3
 v26:=Tryz.zeroValue3
 t27:=Tryz.underlying125
 a27:=Tryz.isAgg125
 z27:=Tryz.sizeOf125
 v27:=Tryz.zeroValue125
 t28:=Tryz.underlying126
 a28:=Tryz.isAgg126
 z28:=Tryz.sizeOf126
 v28:=Tryz.zeroValue126
 t33:=Tryz.underlying60
 a33:=Tryz.isAgg60
 z33:=Tryz.sizeOf60
 v33:=Tryz.zeroValue60}
def Tryz.shSorted_ren:Go.Shelf.Ren:=⟨fun|6=>75|8=>102|9=>103|11=>115|13=>114|12=>116|23=>137|24=>138|14=>139|15=>140|16=>141|17=>142|18=>143|19=>144|20=>145|21=>146|22=>147|25=>163|26=>159|27=>160|28=>164|29=>165|30=>105|31=>169|n=>n,fun|26=>3|28=>126|24=>34|0=>0|3=>3|37=>151|48=>174|50=>176|4=>4|40=>168|39=>167|45=>132|5=>5|9=>9|51=>186|55=>190|57=>196|58=>164|33=>60|n=>n,fun|n=>n⟩
theorem Tryz.shSorted:Go.Proofs.SlLaysZI.n6 Tryz.prog Tryz.shSorted_ren:={
 mixed:=by kernel_rfl
 f6:=⟨Tryz.f75.name,by decide,Tryz.func75.trans (congrArg some (by kernel_rfl))⟩
 f8:=⟨Tryz.f102.name,by decide,Tryz.func102.trans (congrArg some (by kernel_rfl))⟩
 f11:=⟨Tryz.f115.name,by decide,Tryz.func115.trans (congrArg some (by kernel_rfl))⟩
 t0:=Tryz.underlying0
 a0:=Tryz.isAgg0
 z0:=Tryz.sizeOf0
 v0:=Tryz.zeroValue0
 t24:=Tryz.underlying34
 a24:=Tryz.isAgg34
 z24:=Tryz.sizeOf34
 v24:=Tryz.zeroValue34
 t26:=Tryz.underlying3
 a26:=Tryz.isAgg3
 z26:=Tryz.sizeOf3
 v26:=Tryz.zeroValue3
 t28:=Tryz.underlying126
 a28:=Tryz.isAgg126
 z28:=Tryz.sizeOf126
 v28:=Tryz.zeroValue126
 i26:=by kernel_rfl}
def Tryz.shSort_ren:Go.Shelf.Ren:=⟨fun|5=>103|8=>114|7=>116|19=>137|20=>138|10=>139|11=>140|12=>141|13=>142|14=>143|15=>144|16=>145|17=>146|18=>147|30=>163|31=>159|32=>160|33=>164|34=>165|35=>105|40=>169|n=>n,fun|23=>34|25=>3|3=>3|32=>151|22=>34|0=>0|44=>174|46=>176|4=>4|36=>168|35=>167|41=>132|5=>5|9=>9|53=>186|57=>190|63=>196|64=>164|n=>n,fun|n=>n⟩
theorem Tryz.shSort:Go.Proofs.SlLaysM.n5 Tryz.prog Tryz.shSort_ren:={
 mixed:=by kernel_rfl
 f5:=⟨Tryz.f103.name,by decide,Tryz.func103.trans (congrArg some (by kernel_rfl))⟩
 f7:=⟨Tryz.f116.name,by decide,Tryz.func116.trans (congrArg some (by kernel_rfl))⟩
 f8:=Tryz.func114.trans (congrArg some (by kernel_rfl))
 f10:=⟨Tryz.f139.name,by decide,Tryz.func139.trans (congrArg some (by kernel_rfl))⟩
 f11:=⟨Tryz.f140.name,by decide,Tryz.func140.trans (congrArg some (by kernel_rfl))⟩
 f12:=⟨Tryz.f141.name,by decide,Tryz.func141.trans (congrArg some (by kernel_rfl))⟩
 f13:=⟨Tryz.f142.name,by decide,Tryz.func142.trans (congrArg some (by kernel_rfl))⟩
 f14:=⟨Tryz.f143.name,by decide,Tryz.func143.trans (congrArg some (by kernel_rfl))⟩
 f15:=⟨Tryz.f144.name,by decide,Tryz.func144.trans (congrArg some (by kernel_rfl))⟩
 f16:=⟨Tryz.f145.name,by decide,Tryz.func145.trans (congrArg some (by kernel_rfl))⟩
 f17:=⟨Tryz.f146.name,by decide,Tryz.func146.trans (congrArg some (by kernel_rfl))⟩
 f18:=⟨Tryz.f147.name,by decide,Tryz.func147.trans (congrArg some (by kernel_rfl))⟩
 f19:=Tryz.func137.trans (congrArg some (by kernel_rfl))
 f20:=Tryz.func138.trans (congrArg some (by kernel_rfl))
 f30:=⟨Tryz.f163.name,by decide,Tryz.func163.trans (congrArg some (by kernel_rfl))⟩
 f31:=Tryz.func159.trans (congrArg some (by kernel_rfl))
 f32:=Tryz.func160.trans (congrArg some (by kernel_rfl))
 f33:=⟨Tryz.f164.name,by decide,Tryz.func164.trans (congrArg some (by kernel_rfl))⟩
 f34:=⟨Tryz.f165.name,by decide,Tryz.func165.trans (congrArg some (by kernel_rfl))⟩
 f35:=⟨Tryz.f105.name,by decide,Tryz.func105.trans (congrArg some (by kernel_rfl))⟩
 f40:=⟨Tryz.f169.name,by decide,Tryz.func169.trans (congrArg some (by kernel_rfl))⟩
 t0:=Tryz.underlying0
 a0:=Tryz.isAgg0
 z0:=Tryz.sizeOf0
 v0:=Tryz.zeroValue0
 t3:=Tryz.underlying3
 a3:=Tryz.isAgg3
 z3:=Tryz.sizeOf3
 v3:=Tryz.zeroValue3
 t4:=Tryz.underlying4
 a4:=Tryz.isAgg4
 z4:=Tryz.sizeOf4
 v4:=Tryz.zeroValue4
 t5:=Tryz.underlying5
 a5:=Tryz.isAgg5
 z5:=Tryz.sizeOf5
 v5:=Tryz.zeroValue5
 t9:=Tryz.underlying9
 a9:=Tryz.isAgg9
 z9:=Tryz.sizeOf9
 v9:=Tryz.zeroValue9
 t22:=Tryz.underlying34
 a22:=Tryz.isAgg34
 z22:=Tryz.sizeOf34
 v22:=Tryz.zeroValue34
 t23:=Tryz.underlying34
 a23:=Tryz.isAgg34
 z23:=Tryz.sizeOf34
 v23:=Tryz.zeroValue34
 t25:=Tryz.underlying3
 a25:=Tryz.isAgg3
 z25:=Tryz.sizeOf3
 v25:=Tryz.zeroValue3
 t32:=Tryz.underlying151
 a32:=Tryz.isAgg151
 z32:=Tryz.sizeOf151
 v32:=Tryz.zeroValue151
 t35:=Tryz.underlying167
 a35:=Tryz.isAgg167
 z35:=Tryz.sizeOf167
 v35:=Tryz.zeroValue167
 t36:=Tryz.underlying168
 a36:=Tryz.isAgg168
 z36:=Tryz.sizeOf168
 v36:=Tryz.zeroValue168
 t41:=Tryz.underlying132
 a41:=Tryz.isAgg132
 z41:=Tryz.sizeOf132
 v41:=Tryz.zeroValue132
 t44:=Tryz.underlying174
 a44:=Tryz.isAgg174
 z44:=Tryz.sizeOf174
 v44:=Tryz.zeroValue174
 t46:=Tryz.underlying176
 a46:=Tryz.isAgg176
 z46:=Tryz.sizeOf176
 v46:=Tryz.zeroValue176
 t53:=Tryz.underlying186
 a53:=Tryz.isAgg186
 z53:=Tryz.sizeOf186
 v53:=Tryz.zeroValue186
 t57:=Tryz.underlying190
 a57:=Tryz.isAgg190
 z57:=Tryz.sizeOf190
 v57:=Tryz.zeroValue190
 t63:=Tryz.underlying196
 a63:=Tryz.isAgg196
 z63:=Tryz.sizeOf196
 v63:=Tryz.zeroValue196
 t64:=Tryz.underlying164
 a64:=Tryz.isAgg164
 z64:=Tryz.sizeOf164
 v64:=Tryz.zeroValue164}
end Go.Proofs
