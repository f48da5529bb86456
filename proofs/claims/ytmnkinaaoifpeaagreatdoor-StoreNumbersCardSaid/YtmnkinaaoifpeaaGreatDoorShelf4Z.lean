/- A part of the proof that the statement holds for every input that it names. No other condition. -/
import Derived.Test.YtmnkinaaoifpeaaGreatDoorProg
import Derived.Shelf.SlGeneric
import Derived.Shelf.SlMaps.Clone
set_option linter.unusedVariables false
set_option linter.unusedSimpArgs false
namespace Go.Proofs
open Go.Shelf
def Tryz.cloneR_ren:Go.Shelf.Ren:=⟨fun|5=>56|7=>93|n=>n,fun|23=>77|25=>3|3=>29|4=>4|20=>20|n=>n,fun|n=>n⟩
theorem Tryz.cloneR:Go.Proofs.SlLaysW.n5 Tryz.prog Tryz.cloneR_ren:= {
 mixed:=by kernel_rfl
 f5:=⟨Tryz.f56.name,by decide,Tryz.func56.trans (congrArg some (by kernel_rfl))⟩
 f7:=Tryz.func93.trans (congrArg some (by kernel_rfl))
 t4:=Tryz.underlying4
 a4:=Tryz.isAgg4
 z4:=Tryz.sizeOf4
 v4:=Tryz.zeroValue4
 t20:=Tryz.underlying20
 a20:=Tryz.isAgg20
 z20:=Tryz.sizeOf20
 v20:=Tryz.zeroValue20
 t23:=Tryz.underlying77
 a23:=Tryz.isAgg77
 z23:=Tryz.sizeOf77
 v23:=Tryz.zeroValue77 }
end Go.Proofs
