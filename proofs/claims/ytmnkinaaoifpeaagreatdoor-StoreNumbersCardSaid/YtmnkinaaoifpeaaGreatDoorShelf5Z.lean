/- A part of the proof that the statement holds for every input that it names. No other condition. -/
import Derived.Test.YtmnkinaaoifpeaaGreatDoorProg
import Derived.Shelf.SlGeneric
import Derived.Shelf.SlIterI.Nil
set_option linter.unusedVariables false
set_option linter.unusedSimpArgs false
namespace Go.Proofs
open Go.Shelf
def Tryz.keysR_ren:Go.Shelf.Ren:=⟨fun|7=>39|10=>86|n=>n,fun|23=>77|26=>3|3=>29|28=>110|0=>0|27=>109|33=>160|4=>4|n=>n,fun|n=>n⟩
theorem Tryz.keysR:Go.Proofs.SlLaysZI.n7 Tryz.prog Tryz.keysR_ren:= {
 mixed:=by kernel_rfl
 f7:=⟨Tryz.f39.name,by decide,Tryz.func39.trans (congrArg some (by kernel_rfl))⟩
 f10:=⟨Tryz.f86.name,by decide,Tryz.func86.trans (congrArg some (by kernel_rfl))⟩
 t0:=Tryz.underlying0
 a0:=Tryz.isAgg0
 z0:=Tryz.sizeOf0
 v0:=Tryz.zeroValue0
 t4:=Tryz.underlying4
 a4:=Tryz.isAgg4
 z4:=Tryz.sizeOf4
 v4:=Tryz.zeroValue4
 t23:=Tryz.underlying77
 a23:=Tryz.isAgg77
 z23:=Tryz.sizeOf77
 v23:=Tryz.zeroValue77
 t26:=Tryz.underlying3
 a26:=Tryz.isAgg3
 z26:=Tryz.sizeOf3
 v26:=Tryz.zeroValue3
 t27:=Tryz.underlying109
 a27:=Tryz.isAgg109
 z27:=Tryz.sizeOf109
 v27:=Tryz.zeroValue109
 t28:=Tryz.underlying110
 a28:=Tryz.isAgg110
 z28:=Tryz.sizeOf110
 v28:=Tryz.zeroValue110
 t33:=Tryz.underlying160
 a33:=Tryz.isAgg160
 z33:=Tryz.sizeOf160
 v33:=Tryz.zeroValue160 }
end Go.Proofs
