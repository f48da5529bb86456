/- A part of the proof that the statement holds for every input that it names. No other condition. -/
import Derived.Shelf.SlGeneric
import Derived.Shelf.SlIterI.Nil
import Derived.Shelf.Strings.Builder1
import Derived.Shelf.Strings.Builder2
import Derived.Shelf.Small.Bits
import Derived.Shelf.Small.Wraps
import Derived.Shelf.Strings.BuilderF
import Derived.Shelf.Strings.BuilderK
import Derived.Shelf.Utf8.RuneCount
import Derived.Shelf.Strings.Builder2Cap
import Derived.Shelf.Strings.Search1
import Derived.Shelf.Strings.Search2
import Derived.Shelf.Strings.Search3
import Derived.Shelf.Strings.Count
import Derived.Shelf.Strings.Shaped
import Derived.Shelf.Sort.Plain
import Derived.Shelf.Unicode.Decode
import Derived.Shelf.Unicode.DecodeSlow
import Derived.Shelf.Unicode.DecodeAny
import Derived.Shelf.Strings.BuilderCap
import Derived.Shelf.Slices.Reverse
import Derived.Ground.Names2Prog
import Derived.Shelf.Slices.ReverseS
import Derived.Shelf.Slices.SearchI
import Derived.Shelf.Slices.Delete
import Derived.Shelf.Slices.Cells
import Derived.Shelf.Slices.In.SortNone
import Derived.Test.YtmnkinaaoifpeaaGreatDoorProg
set_option linter.unusedVariables false
set_option linter.unusedSimpArgs false
namespace Go.Proofs
open Go.Shelf
def Tryz.lays189_ren:Go.Shelf.Ren:=⟨fun|189=>85|125=>89|257=>123|128=>132|129=>133|294=>162|295=>163|296=>164|297=>165|298=>166|299=>167|216=>168|300=>169|301=>170|328=>212|329=>172|330=>173|331=>213|332=>214|215=>215|343=>242|n=>n,fun|28=>22|3=>3|46=>164|0=>0|51=>201|53=>227|4=>4|183=>220|182=>219|131=>96|5=>5|9=>9|218=>282|222=>286|228=>326|229=>293|n=>n,fun|n=>n⟩
theorem Tryz.lays189:Go.Proofs.Lays.n189 Tryz.prog Tryz.lays189_ren:= {
 mixed:=by kernel_rfl
 f125:=Tryz.func89.trans (congrArg some (by kernel_rfl))
 f128:=Tryz.func132.trans (congrArg some (by kernel_rfl))
 f129:=Tryz.func133.trans (congrArg some (by kernel_rfl))
 f189:=Tryz.func85.trans (congrArg some (by kernel_rfl))
 f215:=Tryz.func215.trans (congrArg some (by kernel_rfl))
 f216:=Tryz.func168.trans (congrArg some (by kernel_rfl))
 f257:=Tryz.func123.trans (congrArg some (by kernel_rfl))
 f294:=Tryz.func162.trans (congrArg some (by kernel_rfl))
 f295:=Tryz.func163.trans (congrArg some (by kernel_rfl))
 f296:=Tryz.func164.trans (congrArg some (by kernel_rfl))
 f297:=Tryz.func165.trans (congrArg some (by kernel_rfl))
 f298:=Tryz.func166.trans (congrArg some (by kernel_rfl))
 f299:=Tryz.func167.trans (congrArg some (by kernel_rfl))
 f300:=Tryz.func169.trans (congrArg some (by kernel_rfl))
 f301:=Tryz.func170.trans (congrArg some (by kernel_rfl))
 f328:=Tryz.func212.trans (congrArg some (by kernel_rfl))
 f329:=Tryz.func172.trans (congrArg some (by kernel_rfl))
 f330:=Tryz.func173.trans (congrArg some (by kernel_rfl))
 f331:=Tryz.func213.trans (congrArg some (by kernel_rfl))
 f332:=Tryz.func214.trans (congrArg some (by kernel_rfl))
 f343:=Tryz.func242.trans (congrArg some (by kernel_rfl))
 t0:=Tryz.underlying0
 a0:=Tryz.isAgg0
 z0:=Tryz.sizeOf0
 v0:=Tryz.zeroValue0
 t3:=Tryz.underlying3
 a3:=Tryz.isAgg3
 z3:=Tryz.sizeOf3
 v3:=Tryz.zeroValue3
 t4:=Tryz.underlying4
 a4:=Tryz.isAgg4
 z4:=Tryz.sizeOf4
 v4:=Tryz.zeroValue4
 t5:=Tryz.underlying5
 a5:=Tryz.isAgg5
 z5:=Tryz.sizeOf5
 v5:=Tryz.zeroValue5
 t9:=Tryz.underlying9
 a9:=Tryz.isAgg9
 z9:=Tryz.sizeOf9
 v9:=Tryz.zeroValue9
 t28:=Tryz.underlying22
 a28:=Tryz.isAgg22
 z28:=Tryz.sizeOf22
 v28:=Tryz.zeroValue22
 t46:=Tryz.underlying164
 a46:=Tryz.isAgg164
 z46:=Tryz.sizeOf164
 v46:=Tryz.zeroValue164
 t51:=Tryz.underlying201
 a51:=Tryz.isAgg201
 z51:=Tryz.sizeOf201
 v51:=Tryz.zeroValue201
 t53:=Tryz.underlying227
 a53:=Tryz.isAgg227
 z53:=Tryz.sizeOf227
 v53:=Tryz.zeroValue227
 t131:=Tryz.underlying96
 a131:=Tryz.isAgg96
 z131:=Tryz.sizeOf96
 v131:=Tryz.zeroValue96
 t182:=Tryz.underlying219
 a182:=Tryz.isAgg219
 z182:=Tryz.sizeOf219
 v182:=Tryz.zeroValue219
 t183:=Tryz.underlying220
 a183:=Tryz.isAgg220
 z183:=Tryz.sizeOf220
 v183:=Tryz.zeroValue220
 t218:=Tryz.underlying282
 a218:=Tryz.isAgg282
 z218:=Tryz.sizeOf282
 v218:=Tryz.zeroValue282
 t222:=Tryz.underlying286
 a222:=Tryz.isAgg286
 z222:=Tryz.sizeOf286
 v222:=Tryz.zeroValue286
 t228:=Tryz.underlying326
 a228:=Tryz.isAgg326
 z228:=Tryz.sizeOf326
 v228:=Tryz.zeroValue326
 t229:=Tryz.underlying293
 a229:=Tryz.isAgg293
 z229:=Tryz.sizeOf293
 v229:=Tryz.zeroValue293 }
open Go.Sort Go.RowKit in
theorem Tryz.slices_Sort_int (blk off cap:Nat) (zs:List Int) (w:World) (hH:Holds (Value.int .i64) w blk off zs.toArray) (hblk:blk<w.heap.size) (hsz:zs.length<4611686018427387904):
 Calls Tryz.prog 85 #[.slice (some ⟨blk,off,none⟩) zs.length cap] w fun e w'=>
  e= .returned (.tuple #[])∧∃n os,w'=grow (putRow (Value.int .i64) (Sort.ahead w n) blk off (zs.mergeSort fun x y=>decide (x≤y)).toArray) os:=Any.slices_Sort_int Tryz.lays189 blk off cap zs w hH hblk hsz
def Tryz.lays197_ren:Go.Shelf.Ren:=⟨fun|197=>221|260=>248|n=>n,fun|9=>9|21=>21|3=>3|4=>4|5=>5|105=>335|119=>367|0=>0|46=>164|139=>370|138=>369|n=>n,fun|3=>0|4=>1|n=>n⟩
theorem Tryz.lays197:Go.Proofs.Lays.n197 Tryz.prog Tryz.lays197_ren:= {
 mixed:=by kernel_rfl
 f197:=Tryz.func221.trans (congrArg some (by kernel_rfl))
 f260:=Tryz.func248.trans (congrArg some (by kernel_rfl))
 t0:=Tryz.underlying0
 a0:=Tryz.isAgg0
 z0:=Tryz.sizeOf0
 v0:=Tryz.zeroValue0
 t3:=Tryz.underlying3
 a3:=Tryz.isAgg3
 z3:=Tryz.sizeOf3
 v3:=Tryz.zeroValue3
 t4:=Tryz.underlying4
 a4:=Tryz.isAgg4
 z4:=Tryz.sizeOf4
 v4:=Tryz.zeroValue4
 t5:=Tryz.underlying5
 a5:=Tryz.isAgg5
 z5:=Tryz.sizeOf5
 v5:=Tryz.zeroValue5
 t9:=Tryz.underlying9
 a9:=Tryz.isAgg9
 z9:=Tryz.sizeOf9
 v9:=Tryz.zeroValue9
 t21:=Tryz.underlying21
 a21:=Tryz.isAgg21
 z21:=Tryz.sizeOf21
 v21:=Tryz.zeroValue21
 t46:=Tryz.underlying164
 a46:=Tryz.isAgg164
 z46:=Tryz.sizeOf164
 v46:=Tryz.zeroValue164
 t105:=Tryz.underlying335
 a105:=Tryz.isAgg335
 z105:=Tryz.sizeOf335
 v105:=Tryz.zeroValue335
 t119:=Tryz.underlying367
 a119:=Tryz.isAgg367
 z119:=Tryz.sizeOf367
 t138:=Tryz.underlying369
 a138:=Tryz.isAgg369
 z138:=Tryz.sizeOf369
 v138:=Tryz.zeroValue369
 t139:=Tryz.underlying370
 a139:=Tryz.isAgg370
 z139:=Tryz.sizeOf370
 v139:=Tryz.zeroValue370
 g3:=by kernel_rfl
 g4:=by kernel_rfl }
def Tryz.lays260_ren:Go.Shelf.Ren:=⟨fun|260=>248|n=>n,fun|9=>9|21=>21|3=>3|4=>4|5=>5|119=>367|0=>0|46=>164|139=>370|138=>369|n=>n,fun|3=>0|4=>1|n=>n⟩
theorem Tryz.lays260:Go.Proofs.Lays.n260 Tryz.prog Tryz.lays260_ren:= {
 mixed:=by kernel_rfl
 f260:=Tryz.func248.trans (congrArg some (by kernel_rfl))
 t0:=Tryz.underlying0
 a0:=Tryz.isAgg0
 z0:=Tryz.sizeOf0
 v0:=Tryz.zeroValue0
 t3:=Tryz.underlying3
 a3:=Tryz.isAgg3
 z3:=Tryz.sizeOf3
 v3:=Tryz.zeroValue3
 t4:=Tryz.underlying4
 a4:=Tryz.isAgg4
 z4:=Tryz.sizeOf4
 v4:=Tryz.zeroValue4
 t5:=Tryz.underlying5
 a5:=Tryz.isAgg5
 z5:=Tryz.sizeOf5
 v5:=Tryz.zeroValue5
 t9:=Tryz.underlying9
 a9:=Tryz.isAgg9
 z9:=Tryz.sizeOf9
 v9:=Tryz.zeroValue9
 t21:=Tryz.underlying21
 a21:=Tryz.isAgg21
 z21:=Tryz.sizeOf21
 v21:=Tryz.zeroValue21
 t46:=Tryz.underlying164
 a46:=Tryz.isAgg164
 z46:=Tryz.sizeOf164
 v46:=Tryz.zeroValue164
 t119:=Tryz.underlying367
 a119:=Tryz.isAgg367
 z119:=Tryz.sizeOf367
 t138:=Tryz.underlying369
 a138:=Tryz.isAgg369
 z138:=Tryz.sizeOf369
 v138:=Tryz.zeroValue369
 t139:=Tryz.underlying370
 a139:=Tryz.isAgg370
 z139:=Tryz.sizeOf370
 v139:=Tryz.zeroValue370
 g3:=by kernel_rfl
 g4:=by kernel_rfl }
open Go.RowKit Go.Lib in
theorem Tryz.utf8_DecodeRuneInString (s:ByteArray) (w:World) (hT:Lib.Utf8Tabs 0 1 w):
 Calls Tryz.prog 221 #[.string s] w fun e w'=>e= .returned (.tuple #[.int .i32 (Lib.decodeGo s).1,.int .i64 (Lib.decodeGo s).2])∧Below w.heap.size w w':=Any.utf8_DecodeRuneInString Tryz.lays197 s w hT
open Go.RowKit Go.Sort in
theorem Tryz.slices_Sort_int_none (p:Option Addr) (cap:Nat) (w:World):
 Calls Tryz.prog 85 #[.slice p 0 cap] w fun e w'=>e= .returned (.tuple #[])∧w'=w:=Any.slices_Sort_int_none Tryz.lays189 p cap w
def Tryz.keysA_ren:Go.Shelf.Ren:=⟨fun|7=>211|10=>241|n=>n,fun|23=>316|26=>3|3=>318|28=>110|0=>0|27=>109|33=>160|4=>4|n=>n,fun|n=>n⟩
theorem Tryz.keysA:Go.Proofs.SlLaysZI.n7 Tryz.prog Tryz.keysA_ren:= {
 mixed:=by kernel_rfl
 f7:=⟨Tryz.f211.name,by decide,Tryz.func211.trans (congrArg some (by kernel_rfl))⟩
 f10:=⟨Tryz.f241.name,by decide,Tryz.func241.trans (congrArg some (by kernel_rfl))⟩
 t0:=Tryz.underlying0
 a0:=Tryz.isAgg0
 z0:=Tryz.sizeOf0
 v0:=Tryz.zeroValue0
 t4:=Tryz.underlying4
 a4:=Tryz.isAgg4
 z4:=Tryz.sizeOf4
 v4:=Tryz.zeroValue4
 t23:=Tryz.underlying316
 a23:=Tryz.isAgg316
 z23:=Tryz.sizeOf316
 v23:=Tryz.zeroValue316
 t26:=Tryz.underlying3
 a26:=Tryz.isAgg3
 z26:=Tryz.sizeOf3
 v26:=Tryz.zeroValue3
 t27:=Tryz.underlying109
 a27:=Tryz.isAgg109
 z27:=Tryz.sizeOf109
 v27:=Tryz.zeroValue109
 t28:=Tryz.underlying110
 a28:=Tryz.isAgg110
 z28:=Tryz.sizeOf110
 v28:=Tryz.zeroValue110
 t33:=Tryz.underlying160
 a33:=Tryz.isAgg160
 z33:=Tryz.sizeOf160
 v33:=Tryz.zeroValue160 }
def Tryz.sortedA_ren:Go.Shelf.Ren:=⟨fun|6=>38|8=>84|9=>85|11=>122|13=>89|12=>123|23=>132|24=>133|14=>162|15=>163|16=>164|17=>165|18=>166|19=>167|20=>168|21=>169|22=>170|25=>212|26=>172|27=>173|28=>213|29=>214|30=>215|31=>242|n=>n,fun|26=>3|28=>110|24=>22|0=>0|3=>3|37=>164|48=>201|50=>227|4=>4|40=>220|39=>219|45=>96|5=>5|9=>9|51=>282|55=>286|57=>326|58=>293|33=>160|n=>n,fun|n=>n⟩
theorem Tryz.sortedA:Go.Proofs.SlLaysZI.n6 Tryz.prog Tryz.sortedA_ren:= {
 mixed:=by kernel_rfl
 f6:=⟨Tryz.f38.name,by decide,Tryz.func38.trans (congrArg some (by kernel_rfl))⟩
 f8:=⟨Tryz.f84.name,by decide,Tryz.func84.trans (congrArg some (by kernel_rfl))⟩
 f11:=⟨Tryz.f122.name,by decide,Tryz.func122.trans (congrArg some (by kernel_rfl))⟩
 t0:=Tryz.underlying0
 a0:=Tryz.isAgg0
 z0:=Tryz.sizeOf0
 v0:=Tryz.zeroValue0
 t24:=Tryz.underlying22
 a24:=Tryz.isAgg22
 z24:=Tryz.sizeOf22
 v24:=Tryz.zeroValue22
 t26:=Tryz.underlying3
 a26:=Tryz.isAgg3
 z26:=Tryz.sizeOf3
 v26:=Tryz.zeroValue3
 t28:=Tryz.underlying110
 a28:=Tryz.isAgg110
 z28:=Tryz.sizeOf110
 v28:=Tryz.zeroValue110
 i26:=by kernel_rfl }
end Go.Proofs
