/- A part of the proof that the statement holds for every input that it names. No other condition. -/
import Derived.Test.YtfccjaboicpohaaGreatDoorProg
import Derived.Shelf.SlGeneric
import Derived.Shelf.SlMaps.Clone
set_option linter.unusedVariables false
set_option linter.unusedSimpArgs false
namespace Go.Proofs
open Go.Shelf
def Tryz.cloneT_ren:Go.Shelf.Ren:=⟨fun|5=>62|7=>118|n=>n,fun|23=>103|25=>105|3=>49|4=>4|20=>20|n=>n,fun|n=>n⟩
theorem Tryz.cloneT:Go.Proofs.SlLaysW.n5 Tryz.prog Tryz.cloneT_ren:= {
 mixed:=by kernel_rfl
 f5:=⟨Tryz.f62.name,by decide,Tryz.func62.trans (congrArg some (by kernel_rfl))⟩
 f7:=Tryz.func118.trans (congrArg some (by kernel_rfl))
 t4:=Tryz.underlying4
 a4:=Tryz.isAgg4
 z4:=Tryz.sizeOf4
 v4:=Tryz.zeroValue4
 t20:=Tryz.underlying20
 a20:=Tryz.isAgg20
 z20:=Tryz.sizeOf20
 v20:=Tryz.zeroValue20
 t23:=Tryz.underlying103
 a23:=Tryz.isAgg103
 z23:=Tryz.sizeOf103
 v23:=Tryz.zeroValue103 }
end Go.Proofs
