/- A part of the proof that the statement holds for every input that it names. No other condition. -/
import Derived.Shelf.SlGeneric
import Derived.Shelf.SlIterI.Nil
import Derived.Shelf.Strings.Builder1
import Derived.Shelf.Strings.Builder2
import Derived.Shelf.Small.Bits
import Derived.Shelf.Small.Wraps
import Derived.Shelf.Strings.BuilderF
import Derived.Shelf.Strings.BuilderK
import Derived.Shelf.Strings.Builder2Cap
import Derived.Shelf.Strconv.Itoa1
import Derived.Shelf.Strconv.Itoa2
import Derived.Shelf.Strconv.Itoa3
import Derived.Shelf.Strconv.Itoa4
import Derived.Shelf.Sort.Plain
import Derived.Shelf.Unicode.Decode
import Derived.Shelf.Bits.Mul64
import Derived.Shelf.Strings.Repeat
import Derived.Shelf.Unicode.DecodeSlow
import Derived.Shelf.Unicode.DecodeAny
import Derived.Shelf.Strings.BuilderCap
import Derived.Ground.Names2Prog
import Derived.Shelf.Slices.SearchI
import Derived.Shelf.Slices.In.SortNone
import Derived.Test.YtclffhpdekepkaaDoorProg
set_option linter.unusedVariables false
set_option linter.unusedSimpArgs false
namespace Go.Proofs
open Go.Shelf
def Tryd.lays189_ren:Go.Shelf.Ren:=⟨fun|189=>51|125=>64|257=>63|128=>83|129=>84|294=>74|295=>75|296=>76|297=>77|298=>78|299=>79|216=>80|300=>81|301=>82|328=>91|329=>92|330=>93|331=>94|332=>95|215=>96|343=>99|n=>n,fun|28=>25|3=>3|46=>108|0=>0|51=>31|53=>51|4=>4|183=>140|182=>139|131=>95|5=>5|9=>9|218=>153|222=>157|228=>159|229=>49|n=>n,fun|n=>n⟩
theorem Tryd.lays189:Go.Proofs.Lays.n189 Tryd.prog Tryd.lays189_ren:= {
 mixed:=by kernel_rfl
 f125:=Tryd.func64.trans (congrArg some (by kernel_rfl))
 f128:=Tryd.func83.trans (congrArg some (by kernel_rfl))
 f129:=Tryd.func84.trans (congrArg some (by kernel_rfl))
 f189:=Tryd.func51.trans (congrArg some (by kernel_rfl))
 f215:=Tryd.func96.trans (congrArg some (by kernel_rfl))
 f216:=Tryd.func80.trans (congrArg some (by kernel_rfl))
 f257:=Tryd.func63.trans (congrArg some (by kernel_rfl))
 f294:=Tryd.func74.trans (congrArg some (by kernel_rfl))
 f295:=Tryd.func75.trans (congrArg some (by kernel_rfl))
 f296:=Tryd.func76.trans (congrArg some (by kernel_rfl))
 f297:=Tryd.func77.trans (congrArg some (by kernel_rfl))
 f298:=Tryd.func78.trans (congrArg some (by kernel_rfl))
 f299:=Tryd.func79.trans (congrArg some (by kernel_rfl))
 f300:=Tryd.func81.trans (congrArg some (by kernel_rfl))
 f301:=Tryd.func82.trans (congrArg some (by kernel_rfl))
 f328:=Tryd.func91.trans (congrArg some (by kernel_rfl))
 f329:=Tryd.func92.trans (congrArg some (by kernel_rfl))
 f330:=Tryd.func93.trans (congrArg some (by kernel_rfl))
 f331:=Tryd.func94.trans (congrArg some (by kernel_rfl))
 f332:=Tryd.func95.trans (congrArg some (by kernel_rfl))
 f343:=Tryd.func99.trans (congrArg some (by kernel_rfl))
 t0:=Tryd.underlying0
 a0:=Tryd.isAgg0
 z0:=Tryd.sizeOf0
 v0:=Tryd.zeroValue0
 t3:=Tryd.underlying3
 a3:=Tryd.isAgg3
 z3:=Tryd.sizeOf3
 v3:=Tryd.zeroValue3
 t4:=Tryd.underlying4
 a4:=Tryd.isAgg4
 z4:=Tryd.sizeOf4
 v4:=Tryd.zeroValue4
 t5:=Tryd.underlying5
 a5:=Tryd.isAgg5
 z5:=Tryd.sizeOf5
 v5:=Tryd.zeroValue5
 t9:=Tryd.underlying9
 a9:=Tryd.isAgg9
 z9:=Tryd.sizeOf9
 v9:=Tryd.zeroValue9
 t28:=Tryd.underlying25
 a28:=Tryd.isAgg25
 z28:=Tryd.sizeOf25
 v28:=Tryd.zeroValue25
 t46:=Tryd.underlying108
 a46:=Tryd.isAgg108
 z46:=Tryd.sizeOf108
 v46:=Tryd.zeroValue108
 t51:=Tryd.underlying31
 a51:=Tryd.isAgg31
 z51:=Tryd.sizeOf31
 v51:=Tryd.zeroValue31
 t53:=Tryd.underlying51
 a53:=Tryd.isAgg51
 z53:=Tryd.sizeOf51
 v53:=Tryd.zeroValue51
 t131:=Tryd.underlying95
 a131:=Tryd.isAgg95
 z131:=Tryd.sizeOf95
 v131:=Tryd.zeroValue95
 t182:=Tryd.underlying139
 a182:=Tryd.isAgg139
 z182:=Tryd.sizeOf139
 v182:=Tryd.zeroValue139
 t183:=Tryd.underlying140
 a183:=Tryd.isAgg140
 z183:=Tryd.sizeOf140
 v183:=Tryd.zeroValue140
 t218:=Tryd.underlying153
 a218:=Tryd.isAgg153
 z218:=Tryd.sizeOf153
 v218:=Tryd.zeroValue153
 t222:=Tryd.underlying157
 a222:=Tryd.isAgg157
 z222:=Tryd.sizeOf157
 v222:=Tryd.zeroValue157
 t228:=Tryd.underlying159
 a228:=Tryd.isAgg159
 z228:=Tryd.sizeOf159
 v228:=Tryd.zeroValue159
 t229:=Tryd.underlying49
 a229:=Tryd.isAgg49
 z229:=Tryd.sizeOf49
 v229:=Tryd.zeroValue49 }
open Go.Sort Go.RowKit in
theorem Tryd.slices_Sort_int (blk off cap:Nat) (zs:List Int) (w:World) (hH:Holds (Value.int .i64) w blk off zs.toArray) (hblk:blk<w.heap.size) (hsz:zs.length<4611686018427387904):
 Calls Tryd.prog 51 #[.slice (some ⟨blk,off,none⟩) zs.length cap] w fun e w'=>
  e= .returned (.tuple #[])∧∃n os,w'=grow (putRow (Value.int .i64) (Sort.ahead w n) blk off (zs.mergeSort fun x y=>decide (x≤y)).toArray) os:=Any.slices_Sort_int Tryd.lays189 blk off cap zs w hH hblk hsz
def Tryd.lays197_ren:Go.Shelf.Ren:=⟨fun|197=>43|260=>54|n=>n,fun|9=>9|21=>21|3=>3|4=>4|5=>5|105=>99|119=>124|0=>0|46=>108|139=>127|138=>126|n=>n,fun|3=>0|4=>1|n=>n⟩
theorem Tryd.lays197:Go.Proofs.Lays.n197 Tryd.prog Tryd.lays197_ren:= {
 mixed:=by kernel_rfl
 f197:=Tryd.func43.trans (congrArg some (by kernel_rfl))
 f260:=Tryd.func54.trans (congrArg some (by kernel_rfl))
 t0:=Tryd.underlying0
 a0:=Tryd.isAgg0
 z0:=Tryd.sizeOf0
 v0:=Tryd.zeroValue0
 t3:=Tryd.underlying3
 a3:=Tryd.isAgg3
 z3:=Tryd.sizeOf3
 v3:=Tryd.zeroValue3
 t4:=Tryd.underlying4
 a4:=Tryd.isAgg4
 z4:=Tryd.sizeOf4
 v4:=Tryd.zeroValue4
 t5:=Tryd.underlying5
 a5:=Tryd.isAgg5
 z5:=Tryd.sizeOf5
 v5:=Tryd.zeroValue5
 t9:=Tryd.underlying9
 a9:=Tryd.isAgg9
 z9:=Tryd.sizeOf9
 v9:=Tryd.zeroValue9
 t21:=Tryd.underlying21
 a21:=Tryd.isAgg21
 z21:=Tryd.sizeOf21
 v21:=Tryd.zeroValue21
 t46:=Tryd.underlying108
 a46:=Tryd.isAgg108
 z46:=Tryd.sizeOf108
 v46:=Tryd.zeroValue108
 t105:=Tryd.underlying99
 a105:=Tryd.isAgg99
 z105:=Tryd.sizeOf99
 v105:=Tryd.zeroValue99
 t119:=Tryd.underlying124
 a119:=Tryd.isAgg124
 z119:=Tryd.sizeOf124
 t138:=Tryd.underlying126
 a138:=Tryd.isAgg126
 z138:=Tryd.sizeOf126
 v138:=Tryd.zeroValue126
 t139:=Tryd.underlying127
 a139:=Tryd.isAgg127
 z139:=Tryd.sizeOf127
 v139:=Tryd.zeroValue127
 g3:=by kernel_rfl
 g4:=by kernel_rfl }
def Tryd.lays105_ren:Go.Shelf.Ren:=⟨fun|105=>45|212=>56|99=>57|165=>58|166=>59|170=>60|169=>61|263=>69|264=>70|206=>71|240=>72|241=>73|276=>89|277=>90|n=>n,fun|9=>9|3=>3|4=>4|20=>20|0=>0|46=>108|109=>109|5=>5|72=>114|76=>118|51=>31|146=>133|53=>51|148=>135|70=>112|37=>27|75=>117|127=>137|164=>150|80=>53|n=>n,fun|n=>n⟩
theorem Tryd.lays105:Go.Proofs.Lays.n105 Tryd.prog Tryd.lays105_ren:= {
 mixed:=by kernel_rfl
 f99:=Tryd.func57.trans (congrArg some (by kernel_rfl))
 f105:=Tryd.func45.trans (congrArg some (by kernel_rfl))
 f165:=Tryd.func58.trans (congrArg some (by kernel_rfl))
 f166:=Tryd.func59.trans (congrArg some (by kernel_rfl))
 f169:=Tryd.func61.trans (congrArg some (by kernel_rfl))
 f170:=Tryd.func60.trans (congrArg some (by kernel_rfl))
 f206:=Tryd.func71.trans (congrArg some (by kernel_rfl))
 f212:=Tryd.func56.trans (congrArg some (by kernel_rfl))
 f240:=Tryd.func72.trans (congrArg some (by kernel_rfl))
 f241:=Tryd.func73.trans (congrArg some (by kernel_rfl))
 f263:=Tryd.func69.trans (congrArg some (by kernel_rfl))
 f264:=Tryd.func70.trans (congrArg some (by kernel_rfl))
 f276:=Tryd.func89.trans (congrArg some (by kernel_rfl))
 f277:=Tryd.func90.trans (congrArg some (by kernel_rfl))
 t0:=Tryd.underlying0
 a0:=Tryd.isAgg0
 z0:=Tryd.sizeOf0
 v0:=Tryd.zeroValue0
 t3:=Tryd.underlying3
 a3:=Tryd.isAgg3
 z3:=Tryd.sizeOf3
 v3:=Tryd.zeroValue3
 t4:=Tryd.underlying4
 a4:=Tryd.isAgg4
 z4:=Tryd.sizeOf4
 v4:=Tryd.zeroValue4
 t5:=Tryd.underlying5
 a5:=Tryd.isAgg5
 z5:=Tryd.sizeOf5
 v5:=Tryd.zeroValue5
 t9:=Tryd.underlying9
 a9:=Tryd.isAgg9
 z9:=Tryd.sizeOf9
 v9:=Tryd.zeroValue9
 t20:=Tryd.underlying20
 a20:=Tryd.isAgg20
 z20:=Tryd.sizeOf20
 v20:=Tryd.zeroValue20
 t37:=Tryd.underlying27
 a37:=Tryd.isAgg27
 z37:=Tryd.sizeOf27
 v37:=Tryd.zeroValue27
 t46:=Tryd.underlying108
 a46:=Tryd.isAgg108
 z46:=Tryd.sizeOf108
 v46:=Tryd.zeroValue108
 t51:=Tryd.underlying31
 a51:=Tryd.isAgg31
 z51:=Tryd.sizeOf31
 v51:=Tryd.zeroValue31
 t53:=Tryd.underlying51
 a53:=Tryd.isAgg51
 z53:=Tryd.sizeOf51
 v53:=Tryd.zeroValue51
 t70:=Tryd.underlying112
 a70:=Tryd.isAgg112
 z70:=Tryd.sizeOf112
 v70:=Tryd.zeroValue112
 t72:=Tryd.underlying114
 a72:=Tryd.isAgg114
 z72:=Tryd.sizeOf114
 v72:=Tryd.zeroValue114
 t75:=Tryd.underlying117
 a75:=Tryd.isAgg117
 z75:=Tryd.sizeOf117
 v75:=Tryd.zeroValue117
 t76:=Tryd.underlying118
 a76:=Tryd.isAgg118
 z76:=Tryd.sizeOf118
 v76:=Tryd.zeroValue118
 t109:=Tryd.underlying109
 a109:=Tryd.isAgg109
 z109:=Tryd.sizeOf109
 v109:=Tryd.zeroValue109
 t127:=Tryd.underlying137
 a127:=Tryd.isAgg137
 z127:=Tryd.sizeOf137
 v127:=Tryd.zeroValue137
 t146:=Tryd.underlying133
 a146:=Tryd.isAgg133
 z146:=Tryd.sizeOf133
 v146:=Tryd.zeroValue133
 t148:=Tryd.underlying135
 a148:=Tryd.isAgg135
 z148:=Tryd.sizeOf135
 v148:=Tryd.zeroValue135
 t164:=Tryd.underlying150
 a164:=Tryd.isAgg150
 z164:=Tryd.sizeOf150
 v164:=Tryd.zeroValue150 }
theorem Tryd.Builder_Extra_105:Builder.Extra Tryd.prog Tryd.lays105_ren:= {
 sizeBuilder:=by kernel_rfl
 liesBuilder:=by kernel_rfl
 t5:=Tryd.underlying5
 a5:=Tryd.isAgg5
 z5:=Tryd.sizeOf5
 v5:=Tryd.zeroValue5
 infoByte:=by kernel_rfl
 cellsByte:=by kernel_rfl
 sizeByte:=by kernel_rfl
 neB5:=by decide }
open Go.RowKit Go.Lib in
theorem Tryd.strings_Repeat (s:ByteArray) (c:Nat) (w:World) (hc:c≤9223372036854775807) (hlen:s.size*c≤140737488355328):
 Calls Tryd.prog 45 #[.string s,.int .i64 c] w fun e w'=>e= .returned (.string ⟨(Lib.repeatL s.data.toList c).toArray⟩)∧Below w.heap.size w w':=Any.strings_Repeat Tryd.lays105 Tryd.Builder_Extra_105 s c w hc hlen
def Tryd.lays260_ren:Go.Shelf.Ren:=⟨fun|260=>54|n=>n,fun|9=>9|21=>21|3=>3|4=>4|5=>5|119=>124|0=>0|46=>108|139=>127|138=>126|n=>n,fun|3=>0|4=>1|n=>n⟩
theorem Tryd.lays260:Go.Proofs.Lays.n260 Tryd.prog Tryd.lays260_ren:= {
 mixed:=by kernel_rfl
 f260:=Tryd.func54.trans (congrArg some (by kernel_rfl))
 t0:=Tryd.underlying0
 a0:=Tryd.isAgg0
 z0:=Tryd.sizeOf0
 v0:=Tryd.zeroValue0
 t3:=Tryd.underlying3
 a3:=Tryd.isAgg3
 z3:=Tryd.sizeOf3
 v3:=Tryd.zeroValue3
 t4:=Tryd.underlying4
 a4:=Tryd.isAgg4
 z4:=Tryd.sizeOf4
 v4:=Tryd.zeroValue4
 t5:=Tryd.underlying5
 a5:=Tryd.isAgg5
 z5:=Tryd.sizeOf5
 v5:=Tryd.zeroValue5
 t9:=Tryd.underlying9
 a9:=Tryd.isAgg9
 z9:=Tryd.sizeOf9
 v9:=Tryd.zeroValue9
 t21:=Tryd.underlying21
 a21:=Tryd.isAgg21
 z21:=Tryd.sizeOf21
 v21:=Tryd.zeroValue21
 t46:=Tryd.underlying108
 a46:=Tryd.isAgg108
 z46:=Tryd.sizeOf108
 v46:=Tryd.zeroValue108
 t119:=Tryd.underlying124
 a119:=Tryd.isAgg124
 z119:=Tryd.sizeOf124
 t138:=Tryd.underlying126
 a138:=Tryd.isAgg126
 z138:=Tryd.sizeOf126
 v138:=Tryd.zeroValue126
 t139:=Tryd.underlying127
 a139:=Tryd.isAgg127
 z139:=Tryd.sizeOf127
 v139:=Tryd.zeroValue127
 g3:=by kernel_rfl
 g4:=by kernel_rfl }
open Go.RowKit Go.Lib in
theorem Tryd.utf8_DecodeRuneInString (s:ByteArray) (w:World) (hT:Lib.Utf8Tabs 0 1 w):
 Calls Tryd.prog 43 #[.string s] w fun e w'=>e= .returned (.tuple #[.int .i32 (Lib.decodeGo s).1,.int .i64 (Lib.decodeGo s).2])∧Below w.heap.size w w':=Any.utf8_DecodeRuneInString Tryd.lays197 s w hT
open Go.RowKit Go.Sort in
theorem Tryd.slices_Sort_int_none (p:Option Addr) (cap:Nat) (w:World):
 Calls Tryd.prog 51 #[.slice p 0 cap] w fun e w'=>e= .returned (.tuple #[])∧w'=w:=Any.slices_Sort_int_none Tryd.lays189 p cap w
def Tryd.keysA_ren:Go.Shelf.Ren:=⟨fun|7=>39|10=>52|n=>n,fun|23=>84|26=>3|3=>86|28=>93|0=>0|27=>92|33=>107|4=>4|n=>n,fun|n=>n⟩
theorem Tryd.keysA:Go.Proofs.SlLaysZI.n7 Tryd.prog Tryd.keysA_ren:= {
 mixed:=by kernel_rfl
 f7:=⟨Tryd.f39.name,by decide,Tryd.func39.trans (congrArg some (by kernel_rfl))⟩
 f10:=⟨Tryd.f52.name,by decide,Tryd.func52.trans (congrArg some (by kernel_rfl))⟩
 t0:=Tryd.underlying0
 a0:=Tryd.isAgg0
 z0:=Tryd.sizeOf0
 v0:=Tryd.zeroValue0
 t4:=Tryd.underlying4
 a4:=Tryd.isAgg4
 z4:=Tryd.sizeOf4
 v4:=Tryd.zeroValue4
 t23:=Tryd.underlying84
 a23:=Tryd.isAgg84
 z23:=Tryd.sizeOf84
 v23:=Tryd.zeroValue84
 t26:=Tryd.underlying3
 a26:=Tryd.isAgg3
 z26:=Tryd.sizeOf3
 v26:=Tryd.zeroValue3
 t27:=Tryd.underlying92
 a27:=Tryd.isAgg92
 z27:=Tryd.sizeOf92
 v27:=Tryd.zeroValue92
 t28:=Tryd.underlying93
 a28:=Tryd.isAgg93
 z28:=Tryd.sizeOf93
 v28:=Tryd.zeroValue93
 t33:=Tryd.underlying107
 a33:=Tryd.isAgg107
 z33:=Tryd.sizeOf107
 v33:=Tryd.zeroValue107 }
def Tryd.sortedA_ren:Go.Shelf.Ren:=⟨fun|6=>38|8=>50|9=>51|11=>62|13=>64|12=>63|23=>83|24=>84|14=>74|15=>75|16=>76|17=>77|18=>78|19=>79|20=>80|21=>81|22=>82|25=>91|26=>92|27=>93|28=>94|29=>95|30=>96|31=>99|n=>n,fun|26=>3|28=>93|24=>25|0=>0|3=>3|37=>108|48=>31|50=>51|4=>4|40=>140|39=>139|45=>95|5=>5|9=>9|51=>153|55=>157|57=>159|58=>49|33=>107|n=>n,fun|n=>n⟩
theorem Tryd.sortedA:Go.Proofs.SlLaysZI.n6 Tryd.prog Tryd.sortedA_ren:= {
 mixed:=by kernel_rfl
 f6:=⟨Tryd.f38.name,by decide,Tryd.func38.trans (congrArg some (by kernel_rfl))⟩
 f8:=⟨Tryd.f50.name,by decide,Tryd.func50.trans (congrArg some (by kernel_rfl))⟩
 f11:=⟨Tryd.f62.name,by decide,Tryd.func62.trans (congrArg some (by kernel_rfl))⟩
 t0:=Tryd.underlying0
 a0:=Tryd.isAgg0
 z0:=Tryd.sizeOf0
 v0:=Tryd.zeroValue0
 t24:=Tryd.underlying25
 a24:=Tryd.isAgg25
 z24:=Tryd.sizeOf25
 v24:=Tryd.zeroValue25
 t26:=Tryd.underlying3
 a26:=Tryd.isAgg3
 z26:=Tryd.sizeOf3
 v26:=Tryd.zeroValue3
 t28:=Tryd.underlying93
 a28:=Tryd.isAgg93
 z28:=Tryd.sizeOf93
 v28:=Tryd.zeroValue93
 i26:=by kernel_rfl }
end Go.Proofs
