/- A part of the proof that the statement holds for every input that it names. No other condition. -/
import Derived.Shelf.SlGeneric
import Derived.Shelf.SlIterI.Nil
import Derived.Shelf.Strings.Builder1
import Derived.Shelf.Strings.Builder2
import Derived.Shelf.Small.Bits
import Derived.Shelf.Small.Wraps
import Derived.Shelf.Strings.BuilderF
import Derived.Shelf.Strings.BuilderK
import Derived.Shelf.Utf8.RuneCount
import Derived.Shelf.Strings.Builder2Cap
import Derived.Shelf.Strconv.Itoa1
import Derived.Shelf.Strconv.Itoa2
import Derived.Shelf.Strconv.Itoa3
import Derived.Shelf.Strconv.Itoa4
import Derived.Shelf.Strings.Search1
import Derived.Shelf.Strings.Search2
import Derived.Shelf.Strings.Search3
import Derived.Shelf.Strings.Count
import Derived.Shelf.Strings.Shaped
import Derived.Shelf.Sort.Plain
import Derived.Shelf.Strings.Split
import Derived.Shelf.Strings.Replace
import Derived.Shelf.Unicode.Decode
import Derived.Shelf.Bits.Mul64
import Derived.Shelf.Strings.Repeat
import Derived.Shelf.Unicode.DecodeSlow
import Derived.Shelf.Unicode.DecodeAny
import Derived.Shelf.Strings.BuilderCap
import Derived.Shelf.Slices.Reverse
import Derived.Ground.Names2Prog
import Derived.Shelf.Slices.SearchI
import Derived.Shelf.Slices.Cells
import Derived.Shelf.Slices.In.SortNone
import Derived.Ground.SlsfProg
import Derived.Shelf.SlSortCmp.Insertion
import Derived.Shelf.SlSortCmp.Insertion1
import Derived.Shelf.SlSortCmp.NoneTotal
import Derived.Test.YtfccjaboicpohaaGreatDoorProg
set_option linter.unusedVariables false
set_option linter.unusedSimpArgs false
namespace Go.Proofs
open Go.Shelf
def Tryz.lays189_ren:Go.Shelf.Ren:=⟨fun|189=>189|125=>160|257=>217|128=>200|129=>201|294=>236|295=>237|296=>238|297=>239|298=>240|299=>241|216=>242|300=>243|301=>244|328=>255|329=>219|330=>220|331=>256|332=>257|215=>161|343=>262|n=>n,fun|28=>23|3=>3|46=>164|0=>0|51=>55|53=>163|4=>4|183=>282|182=>281|131=>245|5=>5|9=>9|218=>294|222=>298|228=>319|229=>177|n=>n,fun|n=>n⟩
theorem Tryz.lays189:Go.Proofs.Lays.n189 Tryz.prog Tryz.lays189_ren:= {
 mixed:=by kernel_rfl
 f125:=Tryz.func160.trans (congrArg some (by kernel_rfl))
 f128:=Tryz.func200.trans (congrArg some (by kernel_rfl))
 f129:=Tryz.func201.trans (congrArg some (by kernel_rfl))
 f189:=Tryz.func189.trans (congrArg some (by kernel_rfl))
 f215:=Tryz.func161.trans (congrArg some (by kernel_rfl))
 f216:=Tryz.func242.trans (congrArg some (by kernel_rfl))
 f257:=Tryz.func217.trans (congrArg some (by kernel_rfl))
 f294:=Tryz.func236.trans (congrArg some (by kernel_rfl))
 f295:=Tryz.func237.trans (congrArg some (by kernel_rfl))
 f296:=Tryz.func238.trans (congrArg some (by kernel_rfl))
 f297:=Tryz.func239.trans (congrArg some (by kernel_rfl))
 f298:=Tryz.func240.trans (congrArg some (by kernel_rfl))
 f299:=Tryz.func241.trans (congrArg some (by kernel_rfl))
 f300:=Tryz.func243.trans (congrArg some (by kernel_rfl))
 f301:=Tryz.func244.trans (congrArg some (by kernel_rfl))
 f328:=Tryz.func255.trans (congrArg some (by kernel_rfl))
 f329:=Tryz.func219.trans (congrArg some (by kernel_rfl))
 f330:=Tryz.func220.trans (congrArg some (by kernel_rfl))
 f331:=Tryz.func256.trans (congrArg some (by kernel_rfl))
 f332:=Tryz.func257.trans (congrArg some (by kernel_rfl))
 f343:=Tryz.func262.trans (congrArg some (by kernel_rfl))
 t0:=Tryz.underlying0
 a0:=Tryz.isAgg0
 z0:=Tryz.sizeOf0
 v0:=Tryz.zeroValue0
 t3:=Tryz.underlying3
 a3:=Tryz.isAgg3
 z3:=Tryz.sizeOf3
 v3:=Tryz.zeroValue3
 t4:=Tryz.underlying4
 a4:=Tryz.isAgg4
 z4:=Tryz.sizeOf4
 v4:=Tryz.zeroValue4
 t5:=Tryz.underlying5
 a5:=Tryz.isAgg5
 z5:=Tryz.sizeOf5
 v5:=Tryz.zeroValue5
 t9:=Tryz.underlying9
 a9:=Tryz.isAgg9
 z9:=Tryz.sizeOf9
 v9:=Tryz.zeroValue9
 t28:=Tryz.underlying23
 a28:=Tryz.isAgg23
 z28:=Tryz.sizeOf23
 v28:=Tryz.zeroValue23
 t46:=Tryz.underlying164
 a46:=Tryz.isAgg164
 z46:=Tryz.sizeOf164
 v46:=Tryz.zeroValue164
 t51:=Tryz.underlying55
 a51:=Tryz.isAgg55
 z51:=Tryz.sizeOf55
 v51:=Tryz.zeroValue55
 t53:=Tryz.underlying163
 a53:=Tryz.isAgg163
 z53:=Tryz.sizeOf163
 v53:=Tryz.zeroValue163
 t131:=Tryz.underlying245
 a131:=Tryz.isAgg245
 z131:=Tryz.sizeOf245
 v131:=Tryz.zeroValue245
 t182:=Tryz.underlying281
 a182:=Tryz.isAgg281
 z182:=Tryz.sizeOf281
 v182:=Tryz.zeroValue281
 t183:=Tryz.underlying282
 a183:=Tryz.isAgg282
 z183:=Tryz.sizeOf282
 v183:=Tryz.zeroValue282
 t218:=Tryz.underlying294
 a218:=Tryz.isAgg294
 z218:=Tryz.sizeOf294
 v218:=Tryz.zeroValue294
 t222:=Tryz.underlying298
 a222:=Tryz.isAgg298
 z222:=Tryz.sizeOf298
 v222:=Tryz.zeroValue298
 t228:=Tryz.underlying319
 a228:=Tryz.isAgg319
 z228:=Tryz.sizeOf319
 v228:=Tryz.zeroValue319
 t229:=Tryz.underlying177
 a229:=Tryz.isAgg177
 z229:=Tryz.sizeOf177
 v229:=Tryz.zeroValue177 }
open Go.Sort Go.RowKit in
theorem Tryz.slices_Sort_int (blk off cap:Nat) (zs:List Int) (w:World) (hH:Holds (Value.int .i64) w blk off zs.toArray) (hblk:blk<w.heap.size) (hsz:zs.length<4611686018427387904):
 Calls Tryz.prog 189 #[.slice (some ⟨blk,off,none⟩) zs.length cap] w fun e w'=>
  e= .returned (.tuple #[])∧∃n os,w'=grow (putRow (Value.int .i64) (Sort.ahead w n) blk off (zs.mergeSort fun x y=>decide (x≤y)).toArray) os:=Any.slices_Sort_int Tryz.lays189 blk off cap zs w hH hblk hsz
def Tryz.lays197_ren:Go.Shelf.Ren:=⟨fun|197=>185|260=>215|n=>n,fun|9=>9|21=>21|3=>3|4=>4|5=>5|105=>274|119=>310|0=>0|46=>164|139=>313|138=>312|n=>n,fun|3=>0|4=>1|n=>n⟩
theorem Tryz.lays197:Go.Proofs.Lays.n197 Tryz.prog Tryz.lays197_ren:= {
 mixed:=by kernel_rfl
 f197:=Tryz.func185.trans (congrArg some (by kernel_rfl))
 f260:=Tryz.func215.trans (congrArg some (by kernel_rfl))
 t0:=Tryz.underlying0
 a0:=Tryz.isAgg0
 z0:=Tryz.sizeOf0
 v0:=Tryz.zeroValue0
 t3:=Tryz.underlying3
 a3:=Tryz.isAgg3
 z3:=Tryz.sizeOf3
 v3:=Tryz.zeroValue3
 t4:=Tryz.underlying4
 a4:=Tryz.isAgg4
 z4:=Tryz.sizeOf4
 v4:=Tryz.zeroValue4
 t5:=Tryz.underlying5
 a5:=Tryz.isAgg5
 z5:=Tryz.sizeOf5
 v5:=Tryz.zeroValue5
 t9:=Tryz.underlying9
 a9:=Tryz.isAgg9
 z9:=Tryz.sizeOf9
 v9:=Tryz.zeroValue9
 t21:=Tryz.underlying21
 a21:=Tryz.isAgg21
 z21:=Tryz.sizeOf21
 v21:=Tryz.zeroValue21
 t46:=Tryz.underlying164
 a46:=Tryz.isAgg164
 z46:=Tryz.sizeOf164
 v46:=Tryz.zeroValue164
 t105:=Tryz.underlying274
 a105:=Tryz.isAgg274
 z105:=Tryz.sizeOf274
 v105:=Tryz.zeroValue274
 t119:=Tryz.underlying310
 a119:=Tryz.isAgg310
 z119:=Tryz.sizeOf310
 t138:=Tryz.underlying312
 a138:=Tryz.isAgg312
 z138:=Tryz.sizeOf312
 v138:=Tryz.zeroValue312
 t139:=Tryz.underlying313
 a139:=Tryz.isAgg313
 z139:=Tryz.sizeOf313
 v139:=Tryz.zeroValue313
 g3:=by kernel_rfl
 g4:=by kernel_rfl }
def Tryz.lays260_ren:Go.Shelf.Ren:=⟨fun|260=>215|n=>n,fun|9=>9|21=>21|3=>3|4=>4|5=>5|119=>310|0=>0|46=>164|139=>313|138=>312|n=>n,fun|3=>0|4=>1|n=>n⟩
theorem Tryz.lays260:Go.Proofs.Lays.n260 Tryz.prog Tryz.lays260_ren:= {
 mixed:=by kernel_rfl
 f260:=Tryz.func215.trans (congrArg some (by kernel_rfl))
 t0:=Tryz.underlying0
 a0:=Tryz.isAgg0
 z0:=Tryz.sizeOf0
 v0:=Tryz.zeroValue0
 t3:=Tryz.underlying3
 a3:=Tryz.isAgg3
 z3:=Tryz.sizeOf3
 v3:=Tryz.zeroValue3
 t4:=Tryz.underlying4
 a4:=Tryz.isAgg4
 z4:=Tryz.sizeOf4
 v4:=Tryz.zeroValue4
 t5:=Tryz.underlying5
 a5:=Tryz.isAgg5
 z5:=Tryz.sizeOf5
 v5:=Tryz.zeroValue5
 t9:=Tryz.underlying9
 a9:=Tryz.isAgg9
 z9:=Tryz.sizeOf9
 v9:=Tryz.zeroValue9
 t21:=Tryz.underlying21
 a21:=Tryz.isAgg21
 z21:=Tryz.sizeOf21
 v21:=Tryz.zeroValue21
 t46:=Tryz.underlying164
 a46:=Tryz.isAgg164
 z46:=Tryz.sizeOf164
 v46:=Tryz.zeroValue164
 t119:=Tryz.underlying310
 a119:=Tryz.isAgg310
 z119:=Tryz.sizeOf310
 t138:=Tryz.underlying312
 a138:=Tryz.isAgg312
 z138:=Tryz.sizeOf312
 v138:=Tryz.zeroValue312
 t139:=Tryz.underlying313
 a139:=Tryz.isAgg313
 z139:=Tryz.sizeOf313
 v139:=Tryz.zeroValue313
 g3:=by kernel_rfl
 g4:=by kernel_rfl }
open Go.RowKit Go.Lib in
theorem Tryz.utf8_DecodeRuneInString (s:ByteArray) (w:World) (hT:Lib.Utf8Tabs 0 1 w):
 Calls Tryz.prog 185 #[.string s] w fun e w'=>e= .returned (.tuple #[.int .i32 (Lib.decodeGo s).1,.int .i64 (Lib.decodeGo s).2])∧Below w.heap.size w w':=Any.utf8_DecodeRuneInString Tryz.lays197 s w hT
open Go.RowKit Go.Sort in
theorem Tryz.slices_Sort_int_none (p:Option Addr) (cap:Nat) (w:World):
 Calls Tryz.prog 189 #[.slice p 0 cap] w fun e w'=>e= .returned (.tuple #[])∧w'=w:=Any.slices_Sort_int_none Tryz.lays189 p cap w
def Tryz.keysA_ren:Go.Shelf.Ren:=⟨fun|7=>151|10=>190|n=>n,fun|23=>234|26=>3|3=>236|28=>243|0=>0|27=>242|33=>143|4=>4|n=>n,fun|n=>n⟩
theorem Tryz.keysA:Go.Proofs.SlLaysZI.n7 Tryz.prog Tryz.keysA_ren:= {
 mixed:=by kernel_rfl
 f7:=⟨Tryz.f151.name,by decide,Tryz.func151.trans (congrArg some (by kernel_rfl))⟩
 f10:=⟨Tryz.f190.name,by decide,Tryz.func190.trans (congrArg some (by kernel_rfl))⟩
 t0:=Tryz.underlying0
 a0:=Tryz.isAgg0
 z0:=Tryz.sizeOf0
 v0:=Tryz.zeroValue0
 t4:=Tryz.underlying4
 a4:=Tryz.isAgg4
 z4:=Tryz.sizeOf4
 v4:=Tryz.zeroValue4
 t23:=Tryz.underlying234
 a23:=Tryz.isAgg234
 z23:=Tryz.sizeOf234
 v23:=Tryz.zeroValue234
 t26:=Tryz.underlying3
 a26:=Tryz.isAgg3
 z26:=Tryz.sizeOf3
 v26:=Tryz.zeroValue3
 t27:=Tryz.underlying242
 a27:=Tryz.isAgg242
 z27:=Tryz.sizeOf242
 v27:=Tryz.zeroValue242
 t28:=Tryz.underlying243
 a28:=Tryz.isAgg243
 z28:=Tryz.sizeOf243
 v28:=Tryz.zeroValue243
 t33:=Tryz.underlying143
 a33:=Tryz.isAgg143
 z33:=Tryz.sizeOf143
 v33:=Tryz.zeroValue143 }
def Tryz.sortedA_ren:Go.Shelf.Ren:=⟨fun|6=>150|8=>188|9=>189|11=>216|13=>160|12=>217|23=>200|24=>201|14=>236|15=>237|16=>238|17=>239|18=>240|19=>241|20=>242|21=>243|22=>244|25=>255|26=>219|27=>220|28=>256|29=>257|30=>161|31=>262|n=>n,fun|26=>3|28=>243|24=>23|0=>0|3=>3|37=>164|48=>55|50=>163|4=>4|40=>282|39=>281|45=>245|5=>5|9=>9|51=>294|55=>298|57=>319|58=>177|33=>143|n=>n,fun|n=>n⟩
theorem Tryz.sortedA:Go.Proofs.SlLaysZI.n6 Tryz.prog Tryz.sortedA_ren:= {
 mixed:=by kernel_rfl
 f6:=⟨Tryz.f150.name,by decide,Tryz.func150.trans (congrArg some (by kernel_rfl))⟩
 f8:=⟨Tryz.f188.name,by decide,Tryz.func188.trans (congrArg some (by kernel_rfl))⟩
 f11:=⟨Tryz.f216.name,by decide,Tryz.func216.trans (congrArg some (by kernel_rfl))⟩
 t0:=Tryz.underlying0
 a0:=Tryz.isAgg0
 z0:=Tryz.sizeOf0
 v0:=Tryz.zeroValue0
 t24:=Tryz.underlying23
 a24:=Tryz.isAgg23
 z24:=Tryz.sizeOf23
 v24:=Tryz.zeroValue23
 t26:=Tryz.underlying3
 a26:=Tryz.isAgg3
 z26:=Tryz.sizeOf3
 v26:=Tryz.zeroValue3
 t28:=Tryz.underlying243
 a28:=Tryz.isAgg243
 z28:=Tryz.sizeOf243
 v28:=Tryz.zeroValue243
 i26:=by kernel_rfl }
end Go.Proofs
