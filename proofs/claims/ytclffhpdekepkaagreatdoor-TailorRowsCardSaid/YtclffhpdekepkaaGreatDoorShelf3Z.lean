/- A part of the proof that the statement holds for every input that it names. No other condition. -/
import Derived.Test.YtclffhpdekepkaaGreatDoorProg
import Derived.Shelf.SlGeneric
import Derived.Shelf.SlSortCmp.WholeK
import Derived.Shelf.SlSortCmp.NoneTotal
set_option linter.unusedVariables false
set_option linter.unusedSimpArgs false
namespace Go.Proofs
open Go.Shelf
def Tryz.sortT_ren:Go.Shelf.Ren:=⟨fun|6=>44|15=>85|14=>84|28=>129|29=>130|20=>121|21=>122|22=>123|23=>124|24=>125|25=>126|26=>127|27=>128|46=>159|47=>160|48=>161|49=>162|50=>163|57=>182|n=>n,fun|22=>41|24=>45|25=>115|3=>3|39=>132|0=>0|53=>46|55=>119|4=>4|46=>214|45=>213|50=>205|5=>5|9=>9|66=>247|70=>251|76=>266|77=>117|n=>n,fun|n=>n⟩
theorem Tryz.sortT:Go.Proofs.SlLaysF0.n6 Tryz.prog Tryz.sortT_ren:= {
 mixed:=by kernel_rfl
 f6:=⟨Tryz.f44.name,by decide,Tryz.func44.trans (congrArg some (by kernel_rfl))⟩
 f14:=⟨Tryz.f84.name,by decide,Tryz.func84.trans (congrArg some (by kernel_rfl))⟩
 f15:=Tryz.func85.trans (congrArg some (by kernel_rfl))
 f20:=⟨Tryz.f121.name,by decide,Tryz.func121.trans (congrArg some (by kernel_rfl))⟩
 f21:=⟨Tryz.f122.name,by decide,Tryz.func122.trans (congrArg some (by kernel_rfl))⟩
 f22:=⟨Tryz.f123.name,by decide,Tryz.func123.trans (congrArg some (by kernel_rfl))⟩
 f23:=⟨Tryz.f124.name,by decide,Tryz.func124.trans (congrArg some (by kernel_rfl))⟩
 f24:=⟨Tryz.f125.name,by decide,Tryz.func125.trans (congrArg some (by kernel_rfl))⟩
 f25:=⟨Tryz.f126.name,by decide,Tryz.func126.trans (congrArg some (by kernel_rfl))⟩
 f26:=⟨Tryz.f127.name,by decide,Tryz.func127.trans (congrArg some (by kernel_rfl))⟩
 f27:=⟨Tryz.f128.name,by decide,Tryz.func128.trans (congrArg some (by kernel_rfl))⟩
 f28:=Tryz.func129.trans (congrArg some (by kernel_rfl))
 f29:=Tryz.func130.trans (congrArg some (by kernel_rfl))
 f46:=⟨Tryz.f159.name,by decide,Tryz.func159.trans (congrArg some (by kernel_rfl))⟩
 f47:=Tryz.func160.trans (congrArg some (by kernel_rfl))
 f48:=Tryz.func161.trans (congrArg some (by kernel_rfl))
 f49:=⟨Tryz.f162.name,by decide,Tryz.func162.trans (congrArg some (by kernel_rfl))⟩
 f50:=⟨Tryz.f163.name,by decide,Tryz.func163.trans (congrArg some (by kernel_rfl))⟩
 f57:=⟨Tryz.f182.name,by decide,Tryz.func182.trans (congrArg some (by kernel_rfl))⟩
 t0:=Tryz.underlying0
 a0:=Tryz.isAgg0
 z0:=Tryz.sizeOf0
 v0:=Tryz.zeroValue0
 t3:=Tryz.underlying3
 a3:=Tryz.isAgg3
 z3:=Tryz.sizeOf3
 v3:=Tryz.zeroValue3
 t4:=Tryz.underlying4
 a4:=Tryz.isAgg4
 z4:=Tryz.sizeOf4
 v4:=Tryz.zeroValue4
 t5:=Tryz.underlying5
 a5:=Tryz.isAgg5
 z5:=Tryz.sizeOf5
 v5:=Tryz.zeroValue5
 t9:=Tryz.underlying9
 a9:=Tryz.isAgg9
 z9:=Tryz.sizeOf9
 v9:=Tryz.zeroValue9
 t22:=Tryz.underlying41
 a22:=Tryz.isAgg41
 z22:=Tryz.sizeOf41
 v22:=Tryz.zeroValue41
 t25:=Tryz.underlying115
 a25:=Tryz.isAgg115
 z25:=Tryz.sizeOf115
 v25:=Tryz.zeroValue115
 t39:=Tryz.underlying132
 a39:=Tryz.isAgg132
 z39:=Tryz.sizeOf132
 v39:=Tryz.zeroValue132
 t45:=Tryz.underlying213
 a45:=Tryz.isAgg213
 z45:=Tryz.sizeOf213
 v45:=Tryz.zeroValue213
 t46:=Tryz.underlying214
 a46:=Tryz.isAgg214
 z46:=Tryz.sizeOf214
 v46:=Tryz.zeroValue214
 t50:=Tryz.underlying205
 a50:=Tryz.isAgg205
 z50:=Tryz.sizeOf205
 v50:=Tryz.zeroValue205
 t53:=Tryz.underlying46
 a53:=Tryz.isAgg46
 z53:=Tryz.sizeOf46
 v53:=Tryz.zeroValue46
 t55:=Tryz.underlying119
 a55:=Tryz.isAgg119
 z55:=Tryz.sizeOf119
 v55:=Tryz.zeroValue119
 t66:=Tryz.underlying247
 a66:=Tryz.isAgg247
 z66:=Tryz.sizeOf247
 v66:=Tryz.zeroValue247
 t70:=Tryz.underlying251
 a70:=Tryz.isAgg251
 z70:=Tryz.sizeOf251
 v70:=Tryz.zeroValue251
 t76:=Tryz.underlying266
 a76:=Tryz.isAgg266
 z76:=Tryz.sizeOf266
 v76:=Tryz.zeroValue266
 t77:=Tryz.underlying117
 a77:=Tryz.isAgg117
 z77:=Tryz.sizeOf117
 v77:=Tryz.zeroValue117 }
end Go.Proofs
