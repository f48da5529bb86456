/- A part of the proof that the statement holds for every input that it names. No other condition. -/
import Derived.Test.YtikmdhhbamggfaaGreatDoorProg
import Derived.Shelf.SlGeneric
import Derived.Shelf.SlMaps.Clone
set_option linter.unusedVariables false
set_option linter.unusedSimpArgs false
namespace Go.Proofs
open Go.Shelf
def Tryz.cloneT_ren:Go.Shelf.Ren:=⟨fun|5=>106|7=>154|n=>n,fun|23=>149|25=>154|3=>93|4=>4|20=>20|n=>n,fun|n=>n⟩
theorem Tryz.cloneT:Go.Proofs.SlLaysW.n5 Tryz.prog Tryz.cloneT_ren:= {
 mixed:=by kernel_rfl
 f5:=⟨Tryz.f106.name,by decide,Tryz.func106.trans (congrArg some (by kernel_rfl))⟩
 f7:=Tryz.func154.trans (congrArg some (by kernel_rfl))
 t4:=Tryz.underlying4
 a4:=Tryz.isAgg4
 z4:=Tryz.sizeOf4
 v4:=Tryz.zeroValue4
 t20:=Tryz.underlying20
 a20:=Tryz.isAgg20
 z20:=Tryz.sizeOf20
 v20:=Tryz.zeroValue20
 t23:=Tryz.underlying149
 a23:=Tryz.isAgg149
 z23:=Tryz.sizeOf149
 v23:=Tryz.zeroValue149 }
end Go.Proofs
