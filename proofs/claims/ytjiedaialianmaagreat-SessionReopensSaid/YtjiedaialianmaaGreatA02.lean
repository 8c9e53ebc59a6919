import Derived.Shelf.Strings.OnBuilder
import Derived.Shelf.Strings.BuilderK
import Derived.Shelf.Sort.Plain
import Derived.Shelf.GgClosure.StringsIndexFunc
import Derived.Shelf.Strings.Repeat
import Derived.Shelf.Slices.Clone
import Derived.Shelf.Slices.Cells
import Derived.Shelf.Slices.In.SortNone
import Derived.Shelf.Slices.Empties
import Derived.Test.YtjiedaialianmaaGreatRows
import Derived.WalkSpells
import Derived.WalkLawsBesides
import Derived.Handy
import Derived.Lib.Hide
import Derived.Deep.RegionHeld3
import Derived.Lib.IndexBytes
import Derived.Test.YtjiedaialianmaaGreatKTiny
section
namespace Go.Proofs
open Go.Shelf
def Tryz.yM :Go.Shelf.Ren:=⟨fun|169=>92|n=>n,fun|70=>134|9=>9|0=>0|72=>137|37=>135|127=>210|3=>3|5=>5|n=>n,fun|n=>n⟩
theorem Tryz.PO :Go.Proofs.Lays.n169 Tryz.prog Tryz.yM:={
 mixed:=by kernel_rfl
 f169:=Tryz.func92.trans (congrArg some (by kernel_rfl))
 t0:=Tryz.underlying0
 a0:=Tryz.isAgg0
 z0:=Tryz.sizeOf0
 v0:=Tryz.zeroValue0
 t3:=Tryz.underlying3
 a3:=Tryz.isAgg3
 z3:=Tryz.sizeOf3
 v3:=Tryz.zeroValue3
 t9:=Tryz.underlying9
 a9:=Tryz.isAgg9
 z9:=Tryz.sizeOf9
 v9:=Tryz.zeroValue9
 t37:=Tryz.underlying135
 a37:=Tryz.isAgg135
 z37:=Tryz.sizeOf135
 v37:=Tryz.zeroValue135
 t70:=Tryz.underlying134
 a70:=Tryz.isAgg134
 z70:=Tryz.sizeOf134
 v70:=Tryz.zeroValue134
 t72:=Tryz.underlying137
 a72:=Tryz.isAgg137
 z72:=Tryz.sizeOf137
 v72:=Tryz.zeroValue137
 t127:=Tryz.underlying210
 a127:=Tryz.isAgg210
 z127:=Tryz.sizeOf210
 v127:=Tryz.zeroValue210}
theorem Tryz.wG :Builder.Extra Tryz.prog Tryz.yM:={
 sizeBuilder:=by kernel_rfl
 liesBuilder:=by kernel_rfl
 t5:=Tryz.underlying5
 a5:=Tryz.isAgg5
 z5:=Tryz.sizeOf5
 v5:=Tryz.zeroValue5
 infoByte:=by kernel_rfl
 cellsByte:=by kernel_rfl
 sizeByte:=by kernel_rfl
 neB5:=by decide}
open Go.RowKit in
theorem Tryz.Builder_String_any (B b:Nat)(l:List UInt8)(w:World)(h:Lib.IsBuilder 137 5 B b (Lib.byteCells l) w)(hBw:B<=w.heap.size):
  Calls Tryz.prog 92 #[.pointer (some ⟨b,0,none⟩)] w fun e w'=>e=.returned (.string ⟨l.toArray⟩)/\Below B w w':=Any.Builder_String_any Tryz.PO Tryz.wG B b l w h hBw
def Tryz.yG :Go.Shelf.Ren:=⟨fun|156=>228|165=>226|166=>89|169=>92|240=>165|241=>257|276=>224|277=>285|n=>n,fun|31=>27|9=>9|3=>3|4=>4|0=>0|20=>20|72=>137|76=>141|70=>134|37=>135|75=>140|127=>210|164=>257|5=>5|80=>145|n=>n,fun|n=>n⟩
theorem Tryz.Oe :Go.Proofs.Lays.n156 Tryz.prog Tryz.yG:={
 mixed:=by kernel_rfl
 f156:=Tryz.func228.trans (congrArg some (by kernel_rfl))
 f165:=Tryz.func226.trans (congrArg some (by kernel_rfl))
 f166:=Tryz.func89.trans (congrArg some (by kernel_rfl))
 f169:=Tryz.func92.trans (congrArg some (by kernel_rfl))
 f240:=Tryz.func165.trans (congrArg some (by kernel_rfl))
 f241:=Tryz.func257.trans (congrArg some (by kernel_rfl))
 f276:=Tryz.func224.trans (congrArg some (by kernel_rfl))
 f277:=Tryz.func285.trans (congrArg some (by kernel_rfl))
 t0:=Tryz.underlying0
 a0:=Tryz.isAgg0
 z0:=Tryz.sizeOf0
 v0:=Tryz.zeroValue0
 t3:=Tryz.underlying3
 a3:=Tryz.isAgg3
 z3:=Tryz.sizeOf3
 v3:=Tryz.zeroValue3
 t4:=Tryz.underlying4
 a4:=Tryz.isAgg4
 z4:=Tryz.sizeOf4
 v4:=Tryz.zeroValue4
 t9:=Tryz.underlying9
 a9:=Tryz.isAgg9
 z9:=Tryz.sizeOf9
 v9:=Tryz.zeroValue9
 t20:=Tryz.underlying20
 a20:=Tryz.isAgg20
 z20:=Tryz.sizeOf20
 v20:=Tryz.zeroValue20
 t31:=Tryz.underlying27
 a31:=Tryz.isAgg27
 z31:=Tryz.sizeOf27
 v31:=Tryz.zeroValue27
 t37:=Tryz.underlying135
 a37:=Tryz.isAgg135
 z37:=Tryz.sizeOf135
 v37:=Tryz.zeroValue135
 t70:=Tryz.underlying134
 a70:=Tryz.isAgg134
 z70:=Tryz.sizeOf134
 v70:=Tryz.zeroValue134
 t72:=Tryz.underlying137
 a72:=Tryz.isAgg137
 z72:=Tryz.sizeOf137
 v72:=Tryz.zeroValue137
 t75:=Tryz.underlying140
 a75:=Tryz.isAgg140
 z75:=Tryz.sizeOf140
 v75:=Tryz.zeroValue140
 t76:=Tryz.underlying141
 a76:=Tryz.isAgg141
 z76:=Tryz.sizeOf141
 v76:=Tryz.zeroValue141
 t127:=Tryz.underlying210
 a127:=Tryz.isAgg210
 z127:=Tryz.sizeOf210
 v127:=Tryz.zeroValue210
 t164:=Tryz.underlying257
 a164:=Tryz.isAgg257
 z164:=Tryz.sizeOf257
 v164:=Tryz.zeroValue257}
theorem Tryz.vC :Builder.Extra Tryz.prog Tryz.yG:={
 sizeBuilder:=by kernel_rfl
 liesBuilder:=by kernel_rfl
 t5:=Tryz.underlying5
 a5:=Tryz.isAgg5
 z5:=Tryz.sizeOf5
 v5:=Tryz.zeroValue5
 infoByte:=by kernel_rfl
 cellsByte:=by kernel_rfl
 sizeByte:=by kernel_rfl
 neB5:=by decide}
open Go.RowKit in
theorem Tryz.strings_Join (bk o c:Nat)(xs:List ByteArray)(sep:ByteArray)(w:World)(hcells:∀(j:Nat)x,xs[j]? =some x->w.cell? ⟨bk,o+j,none⟩=some (.string x))(hbk:bk<w.heap.size)(hN:xs.length<=140737488355328)(hcap:xs.length<=c)(hlen:(Lib.join (xs.map (·.data.toList)) sep.data.toList).length<=140737488355328):
  Calls Tryz.prog 228 #[.slice (some ⟨bk,o,none⟩) xs.length c,.string sep] w fun e w'=>e=.returned (.string ⟨(Lib.join (xs.map (·.data.toList)) sep.data.toList).toArray⟩)/\Below w.heap.size w w':=Any.strings_Join Tryz.Oe Tryz.vC bk o c xs sep w hcells hbk hN hcap hlen
def Tryz.Ho :Go.Shelf.Ren:=⟨fun|190=>219|125=>252|258=>251|128=>281|129=>282|302=>272|303=>273|304=>274|305=>275|306=>276|307=>277|308=>278|309=>279|310=>280|333=>290|329=>291|330=>292|334=>293|335=>294|336=>295|344=>297|n=>n,fun|31=>27|9=>9|3=>3|46=>216|0=>0|51=>275|53=>278|4=>4|183=>303|182=>302|131=>265|5=>5|218=>314|222=>318|228=>320|229=>321|n=>n,fun|n=>n⟩
theorem Tryz.Js :Go.Proofs.Lays.n190 Tryz.prog Tryz.Ho:={
 mixed:=by kernel_rfl
 f125:=Tryz.func252.trans (congrArg some (by kernel_rfl))
 f128:=Tryz.func281.trans (congrArg some (by kernel_rfl))
 f129:=Tryz.func282.trans (congrArg some (by kernel_rfl))
 f190:=Tryz.func219.trans (congrArg some (by kernel_rfl))
 f258:=Tryz.func251.trans (congrArg some (by kernel_rfl))
 f302:=Tryz.func272.trans (congrArg some (by kernel_rfl))
 f303:=Tryz.func273.trans (congrArg some (by kernel_rfl))
 f304:=Tryz.func274.trans (congrArg some (by kernel_rfl))
 f305:=Tryz.func275.trans (congrArg some (by kernel_rfl))
 f306:=Tryz.func276.trans (congrArg some (by kernel_rfl))
 f307:=Tryz.func277.trans (congrArg some (by kernel_rfl))
 f308:=Tryz.func278.trans (congrArg some (by kernel_rfl))
 f309:=Tryz.func279.trans (congrArg some (by kernel_rfl))
 f310:=Tryz.func280.trans (congrArg some (by kernel_rfl))
 f329:=Tryz.func291.trans (congrArg some (by kernel_rfl))
 f330:=Tryz.func292.trans (congrArg some (by kernel_rfl))
 f333:=Tryz.func290.trans (congrArg some (by kernel_rfl))
 f334:=Tryz.func293.trans (congrArg some (by kernel_rfl))
 f335:=Tryz.func294.trans (congrArg some (by kernel_rfl))
 f336:=Tryz.func295.trans (congrArg some (by kernel_rfl))
 f344:=Tryz.func297.trans (congrArg some (by kernel_rfl))
 t0:=Tryz.underlying0
 a0:=Tryz.isAgg0
 z0:=Tryz.sizeOf0
 v0:=Tryz.zeroValue0
 t3:=Tryz.underlying3
 a3:=Tryz.isAgg3
 z3:=Tryz.sizeOf3
 v3:=Tryz.zeroValue3
 t4:=Tryz.underlying4
 a4:=Tryz.isAgg4
 z4:=Tryz.sizeOf4
 v4:=Tryz.zeroValue4
 t5:=Tryz.underlying5
 a5:=Tryz.isAgg5
 z5:=Tryz.sizeOf5
 v5:=Tryz.zeroValue5
 t9:=Tryz.underlying9
 a9:=Tryz.isAgg9
 z9:=Tryz.sizeOf9
 v9:=Tryz.zeroValue9
 t31:=Tryz.underlying27
 a31:=Tryz.isAgg27
 z31:=Tryz.sizeOf27
 v31:=Tryz.zeroValue27
 t46:=Tryz.underlying216
 a46:=Tryz.isAgg216
 z46:=Tryz.sizeOf216
 v46:=Tryz.zeroValue216
 t51:=Tryz.underlying275
 a51:=Tryz.isAgg275
 z51:=Tryz.sizeOf275
 v51:=Tryz.zeroValue275
 t53:=Tryz.underlying278
 a53:=Tryz.isAgg278
 z53:=Tryz.sizeOf278
 v53:=Tryz.zeroValue278
 t131:=Tryz.underlying265
 a131:=Tryz.isAgg265
 z131:=Tryz.sizeOf265
 v131:=Tryz.zeroValue265
 t182:=Tryz.underlying302
 a182:=Tryz.isAgg302
 z182:=Tryz.sizeOf302
 v182:=Tryz.zeroValue302
 t183:=Tryz.underlying303
 a183:=Tryz.isAgg303
 z183:=Tryz.sizeOf303
 v183:=Tryz.zeroValue303
 t218:=Tryz.underlying314
 a218:=Tryz.isAgg314
 z218:=Tryz.sizeOf314
 v218:=Tryz.zeroValue314
 t222:=Tryz.underlying318
 a222:=Tryz.isAgg318
 z222:=Tryz.sizeOf318
 v222:=Tryz.zeroValue318
 t228:=Tryz.underlying320
 a228:=Tryz.isAgg320
 z228:=Tryz.sizeOf320
 v228:=Tryz.zeroValue320
 t229:=Tryz.underlying321
 a229:=Tryz.isAgg321
 z229:=Tryz.sizeOf321
 v229:=Tryz.zeroValue321}
open Go.Sort Go.RowKit in
theorem Tryz.slices_Sort_string (blk off cap:Nat)(ss:List (List UInt8))(w:World)(hH:Holds encStr w blk off ss.toArray)(hblk:blk<w.heap.size)(hsz:ss.length<4611686018427387904):
  Calls Tryz.prog 219 #[.slice (some ⟨blk,off,none⟩) ss.length cap] w fun e w'=>
   e=.returned (.tuple #[])/\∃n os,w'=grow (putRow encStr (Sort.ahead w n) blk off (ss.mergeSort fun x y=>decide (x<=y)).toArray) os:=Any.slices_Sort_string Tryz.Js blk off cap ss w hH hblk hsz
def Tryz.GL :Go.Shelf.Ren:=⟨fun|212=>211|263=>244|264=>245|n=>n,fun|46=>216|51=>275|146=>276|53=>278|148=>279|n=>n,fun|n=>n⟩
theorem Tryz.Pj :Go.Proofs.Lays.n212 Tryz.prog Tryz.GL:={
 mixed:=by kernel_rfl
 f212:=Tryz.func211.trans (congrArg some (by kernel_rfl))
 f263:=Tryz.func244.trans (congrArg some (by kernel_rfl))
 f264:=Tryz.func245.trans (congrArg some (by kernel_rfl))
 t46:=Tryz.underlying216
 a46:=Tryz.isAgg216
 z46:=Tryz.sizeOf216
 v46:=Tryz.zeroValue216
 t51:=Tryz.underlying275
 a51:=Tryz.isAgg275
 z51:=Tryz.sizeOf275
 v51:=Tryz.zeroValue275
 t53:=Tryz.underlying278
 a53:=Tryz.isAgg278
 z53:=Tryz.sizeOf278
 v53:=Tryz.zeroValue278
 t146:=Tryz.underlying276
 a146:=Tryz.isAgg276
 z146:=Tryz.sizeOf276
 v146:=Tryz.zeroValue276
 t148:=Tryz.underlying279
 a148:=Tryz.isAgg279
 z148:=Tryz.sizeOf279
 v148:=Tryz.zeroValue279}
open Go.RowKit Go.Lib in
theorem Tryz.bits_Mul (x y:Nat)(hx:x<18446744073709551616)(hy:y<18446744073709551616)(w:World):
  Calls Tryz.prog 211 #[.int .u64 x,.int .u64 y] w fun e w'=>e=.returned (.tuple #[.int .u64 ((x*y / 18446744073709551616:Nat):Int),.int .u64 ((x*y % 18446744073709551616:Nat):Int)])/\w'=w:=Any.bits_Mul Tryz.Pj x y hx hy w
def Tryz.yX :Go.Shelf.Ren:=⟨fun|105=>166|212=>211|99=>225|165=>226|166=>89|170=>227|169=>92|263=>244|264=>245|206=>256|240=>165|241=>257|276=>224|277=>285|n=>n,fun|9=>9|3=>3|4=>4|20=>20|0=>0|46=>216|109=>245|5=>5|72=>137|76=>141|51=>275|146=>276|53=>278|148=>279|70=>134|37=>135|75=>140|127=>210|164=>257|80=>145|n=>n,fun|n=>n⟩
theorem Tryz.Og :Go.Proofs.Lays.n105 Tryz.prog Tryz.yX:={
 mixed:=by kernel_rfl
 f99:=Tryz.func225.trans (congrArg some (by kernel_rfl))
 f105:=Tryz.func166.trans (congrArg some (by kernel_rfl))
 f165:=Tryz.func226.trans (congrArg some (by kernel_rfl))
 f166:=Tryz.func89.trans (congrArg some (by kernel_rfl))
 f169:=Tryz.func92.trans (congrArg some (by kernel_rfl))
 f170:=Tryz.func227.trans (congrArg some (by kernel_rfl))
 f206:=Tryz.func256.trans (congrArg some (by kernel_rfl))
 f212:=Tryz.func211.trans (congrArg some (by kernel_rfl))
 f240:=Tryz.func165.trans (congrArg some (by kernel_rfl))
 f241:=Tryz.func257.trans (congrArg some (by kernel_rfl))
 f263:=Tryz.func244.trans (congrArg some (by kernel_rfl))
 f264:=Tryz.func245.trans (congrArg some (by kernel_rfl))
 f276:=Tryz.func224.trans (congrArg some (by kernel_rfl))
 f277:=Tryz.func285.trans (congrArg some (by kernel_rfl))
 t0:=Tryz.underlying0
 a0:=Tryz.isAgg0
 z0:=Tryz.sizeOf0
 v0:=Tryz.zeroValue0
 t3:=Tryz.underlying3
 a3:=Tryz.isAgg3
 z3:=Tryz.sizeOf3
 v3:=Tryz.zeroValue3
 t4:=Tryz.underlying4
 a4:=Tryz.isAgg4
 z4:=Tryz.sizeOf4
 v4:=Tryz.zeroValue4
 t5:=Tryz.underlying5
 a5:=Tryz.isAgg5
 z5:=Tryz.sizeOf5
 v5:=Tryz.zeroValue5
 t9:=Tryz.underlying9
 a9:=Tryz.isAgg9
 z9:=Tryz.sizeOf9
 v9:=Tryz.zeroValue9
 t20:=Tryz.underlying20
 a20:=Tryz.isAgg20
 z20:=Tryz.sizeOf20
 v20:=Tryz.zeroValue20
 t37:=Tryz.underlying135
 a37:=Tryz.isAgg135
 z37:=Tryz.sizeOf135
 v37:=Tryz.zeroValue135
 t46:=Tryz.underlying216
 a46:=Tryz.isAgg216
 z46:=Tryz.sizeOf216
 v46:=Tryz.zeroValue216
 t51:=Tryz.underlying275
 a51:=Tryz.isAgg275
 z51:=Tryz.sizeOf275
 v51:=Tryz.zeroValue275
 t53:=Tryz.underlying278
 a53:=Tryz.isAgg278
 z53:=Tryz.sizeOf278
 v53:=Tryz.zeroValue278
 t70:=Tryz.underlying134
 a70:=Tryz.isAgg134
 z70:=Tryz.sizeOf134
 v70:=Tryz.zeroValue134
 t72:=Tryz.underlying137
 a72:=Tryz.isAgg137
 z72:=Tryz.sizeOf137
 v72:=Tryz.zeroValue137
 t75:=Tryz.underlying140
 a75:=Tryz.isAgg140
 z75:=Tryz.sizeOf140
 v75:=Tryz.zeroValue140
 t76:=Tryz.underlying141
 a76:=Tryz.isAgg141
 z76:=Tryz.sizeOf141
 v76:=Tryz.zeroValue141
 t109:=Tryz.underlying245
 a109:=Tryz.isAgg245
 z109:=Tryz.sizeOf245
 v109:=Tryz.zeroValue245
 t127:=Tryz.underlying210
 a127:=Tryz.isAgg210
 z127:=Tryz.sizeOf210
 v127:=Tryz.zeroValue210
 t146:=Tryz.underlying276
 a146:=Tryz.isAgg276
 z146:=Tryz.sizeOf276
 v146:=Tryz.zeroValue276
 t148:=Tryz.underlying279
 a148:=Tryz.isAgg279
 z148:=Tryz.sizeOf279
 v148:=Tryz.zeroValue279
 t164:=Tryz.underlying257
 a164:=Tryz.isAgg257
 z164:=Tryz.sizeOf257
 v164:=Tryz.zeroValue257}
theorem Tryz.wO :Builder.Extra Tryz.prog Tryz.yX:={
 sizeBuilder:=by kernel_rfl
 liesBuilder:=by kernel_rfl
 t5:=Tryz.underlying5
 a5:=Tryz.isAgg5
 z5:=Tryz.sizeOf5
 v5:=Tryz.zeroValue5
 infoByte:=by kernel_rfl
 cellsByte:=by kernel_rfl
 sizeByte:=by kernel_rfl
 neB5:=by decide}
open Go.RowKit Go.Lib in
theorem Tryz.strings_Repeat (s:ByteArray)(c:Nat)(w:World)(hc:c<=9223372036854775807)(hlen:s.size*c<=140737488355328):
  Calls Tryz.prog 166 #[.string s,.int .i64 c] w fun e w'=>e=.returned (.string ⟨(Lib.repeatL s.data.toList c).toArray⟩)/\Below w.heap.size w w':=Any.strings_Repeat Tryz.Og Tryz.wO s c w hc hlen
def Tryz.CG :Go.Shelf.Ren:=⟨fun|16=>149|n=>n,fun|24=>27|9=>9|4=>4|n=>n,fun|n=>n⟩
theorem Tryz.Kg :Go.Proofs.Lays2.n16 Tryz.prog Tryz.CG:={
 mixed:=by kernel_rfl
 f16:=Tryz.func149.trans (congrArg some (by kernel_rfl))
 t4:=Tryz.underlying4
 a4:=Tryz.isAgg4
 z4:=Tryz.sizeOf4
 v4:=Tryz.zeroValue4
 t9:=Tryz.underlying9
 a9:=Tryz.isAgg9
 z9:=Tryz.sizeOf9
 v9:=Tryz.zeroValue9
 t24:=Tryz.underlying27
 a24:=Tryz.isAgg27
 z24:=Tryz.sizeOf27
 v24:=Tryz.zeroValue27
 i9:=by kernel_rfl}
open Go.RowKit Go.Lib in
theorem Tryz.slices_Clone_string (b off n c:Nat)(zs:List ByteArray)(w:World)(hz:n<=zs.length)(hbig:n*16<=140737488355328)(hc:∀j,j<zs.length->w.cell? ⟨b,off+j,none⟩=some (.string (zs.getD j ByteArray.empty))):
  Calls Tryz.prog 149 #[.slice (some ⟨b,off,none⟩) n c] w fun e w'=>∃v',e=.returned v'/\w'.ownsRow w.heap.size 9 1 v' n ((zs.take n).map (Value.string))/\v'≠ .slice none 0 0/\Below w.heap.size w w':=Any.slices_Clone_string Tryz.Kg b off n c zs w hz hbig hc
def Tryz.FW :Go.Shelf.Ren:=⟨fun|194=>218|n=>n,fun|31=>27|9=>9|3=>3|4=>4|0=>0|n=>n,fun|n=>n⟩
theorem Tryz.K8 :Go.Proofs.Lays.n194 Tryz.prog Tryz.FW:={
 mixed:=by kernel_rfl
 f194:=Tryz.func218.trans (congrArg some (by kernel_rfl))
 t0:=Tryz.underlying0
 a0:=Tryz.isAgg0
 z0:=Tryz.sizeOf0
 v0:=Tryz.zeroValue0
 t3:=Tryz.underlying3
 a3:=Tryz.isAgg3
 z3:=Tryz.sizeOf3
 v3:=Tryz.zeroValue3
 t4:=Tryz.underlying4
 a4:=Tryz.isAgg4
 z4:=Tryz.sizeOf4
 v4:=Tryz.zeroValue4
 t9:=Tryz.underlying9
 a9:=Tryz.isAgg9
 z9:=Tryz.sizeOf9
 v9:=Tryz.zeroValue9
 t31:=Tryz.underlying27
 a31:=Tryz.isAgg27
 z31:=Tryz.sizeOf27
 v31:=Tryz.zeroValue27}
open Go.RowKit Go.Lib Go.Sort in
theorem Tryz.slices_Compact_string (blk off cap:Nat)(zs:List (List UInt8))(w:World)(hH:Holds encStr w blk off zs.toArray)(hsz:zs.length<=9223372036854775807)(hcap:zs.length<=cap):
  Calls Tryz.prog 218 #[.slice (some ⟨blk,off,none⟩) zs.length cap] w fun e w'=>e=.returned (.slice (some ⟨blk,off,none⟩) (Lib.compact zs).length cap)/\∃q,w'=putRow encStr (Sort.ahead w q) blk off (Lib.compact zs++List.replicate (zs.length -(Lib.compact zs).length) []).toArray:=Any.slices_Compact_string Tryz.K8 blk off cap zs w hH hsz hcap
open Go.RowKit Go.Lib Go.Sort in
theorem Tryz.slices_Compact_string_empty (a:Option Addr)(cap:Nat)(w:World):
  Calls Tryz.prog 218 #[.slice a 0 cap] w fun e w'=>e=.returned (.slice a 0 cap)/\w'=w:=Any.slices_Compact_string_empty Tryz.K8 a cap w
def Tryz.CR :Go.Shelf.Ren:=⟨fun|24=>162|n=>n,fun|24=>27|9=>9|3=>3|4=>4|0=>0|n=>n,fun|n=>n⟩
theorem Tryz.ME :Go.Proofs.Lays2.n24 Tryz.prog Tryz.CR:={
 mixed:=by kernel_rfl
 f24:=Tryz.func162.trans (congrArg some (by kernel_rfl))
 t0:=Tryz.underlying0
 a0:=Tryz.isAgg0
 z0:=Tryz.sizeOf0
 v0:=Tryz.zeroValue0
 t3:=Tryz.underlying3
 a3:=Tryz.isAgg3
 z3:=Tryz.sizeOf3
 v3:=Tryz.zeroValue3
 t4:=Tryz.underlying4
 a4:=Tryz.isAgg4
 z4:=Tryz.sizeOf4
 v4:=Tryz.zeroValue4
 t9:=Tryz.underlying9
 a9:=Tryz.isAgg9
 z9:=Tryz.sizeOf9
 v9:=Tryz.zeroValue9
 t24:=Tryz.underlying27
 a24:=Tryz.isAgg27
 z24:=Tryz.sizeOf27
 v24:=Tryz.zeroValue27
 i9:=by kernel_rfl}
open Go.RowKit Go.Lib Go.Sort in
theorem Tryz.slices_Delete_string (blk off cap i j:Nat)(zs:List (List UInt8))(w:World)(hH:Holds encStr w blk off zs.toArray)(hcap:zs.length<=cap)(hm:cap<=9223372036854775807)(hij:i<=j)(hj:j<=zs.length):
  Calls Tryz.prog 162 #[.slice (some ⟨blk,off,none⟩) zs.length cap,.int .i64 i,.int .i64 j] w fun e w'=>e=.returned (.slice (some ⟨blk,off,none⟩) (zs.length -(j -i)) cap)/\∃q,w'=putRow encStr (Sort.ahead w q) blk off (zs.take i++zs.drop j++List.replicate (j -i) []).toArray:=Any.slices_Delete_string Tryz.ME blk off cap i j zs w hH hcap hm hij hj
open Go.RowKit Go.Sort in
theorem Tryz.slices_Sort_string_none (p:Option Addr)(cap:Nat)(w:World):
  Calls Tryz.prog 219 #[.slice p 0 cap] w fun e w'=>e=.returned (.tuple #[])/\w'=w:=Any.slices_Sort_string_none Tryz.Js p cap w
end Go.Proofs
end
section
open Go
namespace Go.Proofs.YtjiedaialianmaaGreat
namespace Gr
inductive Way (d:Nat->Nat->Bool)(m:Nat):Nat->Nat->Prop
 |base {i k}:d i k=true->Way d m i k
 |thru {i j k}:j<m->Way d m i j->Way d m j k->Way d m i k
theorem Way.up {d:Nat->Nat->Bool}{m n i k:Nat}(h:m<=n)(w:Way d m i k):Way d n i k:=by
 induction w with
 |base e=>exact .base e
 |thru hj _ _ a b=>exact .thru (by omega) a b
theorem Way.zero {d:Nat->Nat->Bool}{i k:Nat}(w:Way d 0 i k):d i k=true:=by
 cases w with
 |base e=>exact e
 |thru hj _ _=>omega
theorem Way.succ {d:Nat->Nat->Bool}{m i k:Nat}(w:Way d (m+1) i k):Way d m i k\/(Way d m i m/\Way d m m k):=by
 induction w with
 |base e=>exact Or.inl (.base e)
 | @thru i j k hj _ _ a b=>
  by_cases e:j=m
  ·subst e
   refine Or.inr ⟨?_,?_⟩
   ·rcases a with a|a
    ·exact a
    ·exact a.1
   ·rcases b with b|b
    ·exact b
    ·exact b.2
  ·have hj':j<m:=by omega
   rcases a with a|⟨a,a'⟩<;>rcases b with b|⟨b,b'⟩
   ·exact Or.inl (.thru hj' a b)
   ·exact Or.inr ⟨.thru hj' a b,b'⟩
   ·exact Or.inr ⟨a,.thru hj' a' b⟩
   ·exact Or.inr ⟨a,b'⟩
abbrev Tab :=List (List Bool)
def Tab.at (t:Tab)(i k:Nat):Bool:=(t.getD i []).getD k false
def Tab.fill (m i k:Nat)(t:Tab):Tab:=t.set i ((t.getD i []).set k (t.at i k || t.at i m&&t.at m k))
def Tab.row (n m i:Nat)(t:Tab):Tab:=(List.range n).foldl (fun t k=>Tab.fill m i k t) t
def Tab.phase (n m:Nat)(t:Tab):Tab:=(List.range n).foldl (fun t i=>Tab.row n m i t) t
def Tab.all (n:Nat)(t:Tab):Tab:=(List.range n).foldl (fun t m=>Tab.phase n m t) t
def Tab.sq (n:Nat)(t:Tab):Prop:=t.length=n/\∀l,l∈t->l.length=n
theorem Tab.Ns {n:Nat}{t:Tab}(h:t.sq n){i:Nat}(hi:i<n):(t.getD i []).length=n:=by
 have hi':i<t.length:=by rw[h.1];exact hi
 rw[List.getD_eq_getElem?_getD,GY5 hi',Option.getD_some]
 exact h.2 _ (GZ9 hi')
theorem Tab.Jt {n:Nat}{t:Tab}(h:t.sq n){m i k:Nat}(hi:i<n):(Tab.fill m i k t).sq n:=by
 refine⟨by simp[Tab.fill,h.1],fun l hl=>?_⟩
 rcases List.mem_or_eq_of_mem_set hl with q|q
 ·exact h.2 l q
 ·rw[q,List.length_set];exact Tab.Ns h hi
theorem Tab.zJ {n:Nat}{t:Tab}(h:t.sq n){m i k:Nat}(hi:i<n)(hk:k<n)(a b:Nat):
  (Tab.fill m i k t).at a b=if a=i/\b=k then(t.at i k || t.at i m&&t.at m k)else t.at a b:=by
 have hi':i<t.length:=by rw[h.1];exact hi
 have hr:=Tab.Ns h hi
 by_cases ea:a=i
 ·subst ea
  have e1:(Tab.fill m a k t).getD a []=(t.getD a []).set k (t.at a k || t.at a m&&t.at m k):=by
   unfold Tab.fill
   simp[List.getD_eq_getElem?_getD,hi']
  by_cases eb:b=k
  ·subst eb
   rw[if_pos ⟨rfl,rfl⟩]
   rw[Tab.at,e1]
   have hk':b<(t.getD a []).length:=by omega
   rw[List.getD_eq_getElem?_getD,List.getElem?_set_self hk',Option.getD_some]
  ·rw[if_neg (fun h=>eb h.2)]
   rw[Tab.at,e1,List.getD_eq_getElem?_getD,List.getElem?_set_ne (Ne.symm eb),<-List.getD_eq_getElem?_getD];rfl
 ·rw[if_neg (fun h=>ea h.1)]
  have e1:(Tab.fill m i k t).getD a []=t.getD a []:=by
   unfold Tab.fill
   rw[List.getD_eq_getElem?_getD,List.getElem?_set_ne (Ne.symm ea),<-List.getD_eq_getElem?_getD]
  rw[Tab.at,e1];rfl
structure Phase (d:Nat->Nat->Bool)(n m:Nat)(t t':Tab)(p:Nat->Nat->Prop):Prop where
 sq:t'.sq n
 up:∀i k,i<n->k<n->t.at i k=true->t'.at i k=true
 sound:∀i k,i<n->k<n->t'.at i k=true->Way d n i k
 new:∀i k,i<n->k<n->p i k->t.at i m=true->t.at m k=true->t'.at i k=true
theorem Phase.fill {d:Nat->Nat->Bool}{n m i k:Nat}{t t':Tab}{p:Nat->Nat->Prop}(h:Phase d n m t t' p)
  (hm:m<n) (hi:i<n) (hk:k<n):Phase d n m t (Tab.fill m i k t') (fun a b=>p a b\/(a=i/\b=k)):=by
 refine⟨Tab.Jt h.sq hi,fun a b ha hb hab=>?_,fun a b ha hb=>?_,fun a b ha hb hp h1 h2=>?_⟩
 ·rw[Tab.zJ h.sq hi hk]
  split
  ·rename_i e;rw[e.1,e.2]at hab
   rw[h.up i k hi hk hab];rfl
  ·exact h.up a b ha hb hab
 ·rw[Tab.zJ h.sq hi hk]
  split
  ·rename_i e
   intro q
   simp only[Bool.or_eq_true,Bool.and_eq_true]at q
   rw[e.1,e.2]
   rcases q with q|q
   ·exact h.sound i k hi hk q
   ·exact .thru hm (h.sound i m hi hm q.1) (h.sound m k hm hk q.2)
  ·exact h.sound a b ha hb
 ·rw[Tab.zJ h.sq hi hk]
  split
  ·rename_i e
   rw[e.1]at h1;rw[e.2]at h2
   rw[h.up i m hi hm h1,h.up m k hm hk h2];simp
  ·rename_i e
   rcases hp with hp|hp
   ·exact h.new a b ha hb hp h1 h2
   ·exact absurd hp e
theorem Phase.mono {d:Nat->Nat->Bool}{n m:Nat}{t t':Tab}{p q:Nat->Nat->Prop}(h:Phase d n m t t' p)(hq:∀a b,a<n->b<n->q a b->p a b):Phase d n m t t' q:=
 ⟨h.sq,h.up,h.sound,fun i k hi hk hp=>h.new i k hi hk (hq i k hi hk hp)⟩
theorem Phase.row {d:Nat->Nat->Bool}{n m i:Nat}{t:Tab}(hm:m<n)(hi:i<n):
  ∀(c:Nat){t':Tab}{p:Nat->Nat->Prop},c<=n->Phase d n m t t' p->
   Phase d n m t ((List.range c).foldl (fun t k=>Tab.fill m i k t) t') (fun a b=>p a b\/(a=i/\b<c))
 |0,_,_,_,h=>by
  simp only[List.range_zero,List.foldl_nil]
  exact h.mono (fun a b _ _ q=>q.elim id (fun q=>absurd q.2 (Nat.not_lt_zero _)))
 |c+1,t',p,hc,h=>by
  rw[List.range_succ,List.foldl_append,List.foldl_cons,List.foldl_nil]
  exact((Phase.row hm hi c (by omega) h).fill hm hi (by omega)).mono (fun a b _ _ q=>by
   rcases q with q|⟨q1,q2⟩
   ·exact Or.inl (Or.inl q)
   ·by_cases e:b=c
    ·exact Or.inr ⟨q1,e⟩
    ·exact Or.inl (Or.inr ⟨q1,by omega⟩))
theorem Phase.rows {d:Nat->Nat->Bool}{n m:Nat}{t:Tab}(hm:m<n):
  ∀(c:Nat){t':Tab}{p:Nat->Nat->Prop},c<=n->Phase d n m t t' p->
   Phase d n m t ((List.range c).foldl (fun t i=>Tab.row n m i t) t') (fun a b=>p a b\/a<c)
 |0,_,_,_,h=>by
  simp only[List.range_zero,List.foldl_nil]
  exact h.mono (fun a b _ _ q=>q.elim id (fun q=>absurd q (Nat.not_lt_zero _)))
 |c+1,t',p,hc,h=>by
  rw[List.range_succ,List.foldl_append,List.foldl_cons,List.foldl_nil]
  exact(Phase.row hm (show c<n by omega) n (GZ3 _) (Phase.rows hm c (by omega) h)).mono (fun a b _ hb q=>by
   rcases q with q|q
   ·exact Or.inl (Or.inl q)
   ·by_cases e:a=c
    ·exact Or.inr ⟨e,hb⟩
    ·exact Or.inl (Or.inr (by omega)))
structure Bi (d:Nat->Nat->Bool)(n m:Nat)(t:Tab):Prop where
 sq:t.sq n
 sound:∀i k,i<n->k<n->t.at i k=true->Way d n i k
 full:∀i k,i<n->k<n->Way d m i k->t.at i k=true
theorem Bi.phase {d:Nat->Nat->Bool}{n m:Nat}{t:Tab}(hm:m<n)(h:Bi d n m t):Bi d n (m+1) (Tab.phase n m t):=by
 have k:Phase d n m t (Tab.phase n m t) (fun a b=>False\/a<n):=
  Phase.rows hm n (GZ3 _) ⟨h.sq,fun _ _ _ _ q=>q,h.sound,fun _ _ _ _ q=>q.elim⟩
 refine⟨k.sq,k.sound,fun a b ha hb w=>?_⟩
 rcases w.succ with w|⟨w,w'⟩
 ·exact k.up a b ha hb (h.full a b ha hb w)
 ·exact k.new a b ha hb (Or.inr ha) (h.full a m ha hm w) (h.full m b hm hb w')
theorem Bi.phases {d:Nat->Nat->Bool}{n:Nat}{t:Tab}(h:Bi d n 0 t):
  ∀(c:Nat),c<=n->Bi d n c ((List.range c).foldl (fun t m=>Tab.phase n m t) t)
 |0,_=>h
 |c+1,hc=>by
  rw[List.range_succ,List.foldl_append,List.foldl_cons,List.foldl_nil]
  exact(h.phases c (by omega)).phase (by omega)
def Tab.mk (d:Nat->Nat->Bool)(n:Nat):Tab:=(List.range n).map (fun i=>(List.range n).map (fun k=>d i k))
theorem Tab.QD (d:Nat->Nat->Bool)(n:Nat):(Tab.mk d n).sq n:=by
 refine⟨by simp[Tab.mk],fun l hl=>?_⟩
 obtain⟨i,_,e⟩:=List.mem_map.1 hl
 rw[<-e];simp
theorem Tab.O8 (d:Nat->Nat->Bool){n i k:Nat}(hi:i<n)(hk:k<n):(Tab.mk d n).at i k=d i k:=by
 simp[Tab.mk,Tab.at,List.getD_eq_getElem?_getD,hi,hk]
theorem Tab.begun (d:Nat->Nat->Bool)(n:Nat):Bi d n 0 (Tab.mk d n):=
 ⟨Tab.QD d n,fun i k hi hk h=>.base (by rwa [Tab.O8 d hi hk]at h),fun i k hi hk w=>by rw[Tab.O8 d hi hk];exact w.zero⟩
theorem Tab.Qh (d:Nat->Nat->Bool){n i k:Nat}(hi:i<n)(hk:k<n):(Tab.all n (Tab.mk d n)).at i k=true↔Way d n i k:=by
 have h:=(Tab.begun d n).phases n (GZ3 _)
 exact⟨h.sound i k hi hk,h.full i k hi hk⟩
end Gr
end Go.Proofs.YtjiedaialianmaaGreat
end
section
open Go
namespace Go.Proofs.YtjiedaialianmaaGreat
namespace Gs
abbrev Tx :=List UInt8
theorem le_trans' {a b c:Tx}(h:a<=b)(k:b<=c):a<=c:=List.le_trans h k
theorem Lv (a b:Tx):a<=b\/b<=a:=List.le_total a b
theorem KY {a b:Tx}(h:a<=b)(k:b<=a):a=b:=List.le_antisymm h k
theorem MO {a b:Tx}(h:¬a<b):b<=a:=List.not_lt.1 h
theorem Lx {a b:Tx}(h:a<b):a<=b:=List.le_of_lt h
def sorted (l:List Tx):Prop:=l.Pairwise (fun a b=>a<=b)
def Sd (l:List Tx):List Tx:=l.mergeSort (fun x y=>decide (x<=y))
theorem SN (l:List Tx):(Sd l).Perm l:=List.mergeSort_perm _ _
theorem wT (l:List Tx):sorted (Sd l):=by
 have h:=List.pairwise_mergeSort (le:=fun x y:Tx=>decide (x<=y)) (fun a b c h k=>by simp only[decide_eq_true_eq]at*;exact le_trans' h k) (fun a b=>by simpa using Lv a b) l
 exact h.imp (fun h=>by simpa using h)
theorem Kj (l:List Tx)(x:Tx):x∈Sd l↔x∈l:=(SN l).mem_iff
end Gs
end Go.Proofs.YtjiedaialianmaaGreat
end
section
open Go
namespace Go.Proofs.YtjiedaialianmaaGreat
namespace Gs
def free (r:Tx->Tx->Bool)(left:List Tx)(a:Tx):Bool:=left.all (fun b=>!r a b)
def order (r:Tx->Tx->Bool):Nat->List Tx->List Tx->Option (List Tx)
 |0,_,out=>some out
 |f+1,left,out=>if left.findIdx (free r left)<left.length then order r f (left.eraseIdx (left.findIdx (free r left))) (out++[left.getD (left.findIdx (free r left)) []])else none
theorem AJ (p:Tx->Bool):∀{l:List Tx}{a:Tx},l.find? p=some a->l.findIdx p<l.length/\l.getD (l.findIdx p) []=a/\l.eraseIdx (l.findIdx p)=l.erase a
 |x::l,a,h=>by
  by_cases c:p x=true
  ·rw[List.find?_cons_of_pos c]at h
   have e:x=a:=GY3 h
   subst e
   rw[List.findIdx_cons,c];simp
  ·have c':p x=false:=by simpa using c
   rw[List.find?_cons_of_neg c]at h
   obtain⟨h1,h2,h3⟩:=AJ p h
   have ne:x≠a:=fun e=>by subst e;exact c (List.find?_some h)
   rw[List.findIdx_cons,c']
   simp only[cond_false,GY8]
   refine⟨by omega,by simpa using h2,?_⟩
   rw[List.eraseIdx_cons_succ,h3,List.erase_cons_tail (by simpa using ne)]
theorem Jc (p:Tx->Bool){l:List Tx}(h:l.find? p=none):¬l.findIdx p<l.length:=by
 intro k
 have:=List.findIdx_lt_length.1 k
 obtain⟨x,hx,px⟩:=this
 exact absurd px (List.find?_eq_none.1 h x hx)
theorem zU {r:Tx->Tx->Bool}{f:Nat}{left out:List Tx}{a:Tx}(h:left.find? (free r left)=some a):order r (f+1) left out=order r f (left.erase a) (out++[a]):=by
 obtain⟨h1,h2,h3⟩:=AJ _ h
 rw[order,if_pos h1,h2,h3]
theorem JB {r:Tx->Tx->Bool}{f:Nat}{left out:List Tx}(h:left.find? (free r left)=none):order r (f+1) left out=none:=by
 rw[order,if_neg (Jc _ h)]
section Doc
variable (nm:Nat->Tx) (t:Nat->Nat->Bool) (n:Nat)
instance (b :Option Nat)(i:Nat):Decidable (∀j,b=some j->nm i<nm j):=by
 cases b with
 |none=>exact isTrue (fun j h=>by cases h)
 |some k=>exact decidable_of_iff (nm i<nm k) ⟨fun h j e=>by cases e;exact h,fun h=>h k rfl⟩
def ready (done:List Bool)(i:Nat):Bool:=!done.getD i false&&(List.range n).all (fun k=>!t i k || done.getD k false)
def Sk (done:List Bool)(c:Nat):Option Nat:=(List.range c).foldl (fun b i=>if ready t n done i=true/\(∀j,b=some j->nm i<nm j)then some i else b) none
def vO :Nat->List Bool->List Tx->List Tx
 |0,_,out=>out
 |f+1,done,out=>match Sk nm t n done n with
  |some b=>vO f (done.set b true) (out++[nm b])
  |none=>out
end Doc
theorem Dl {p q:Nat->Bool}{j:Nat}(hp:p j=true)(hq:q j=false)(he:∀i,i≠j->q i=p i):∀{l:List Nat},l.Nodup->j∈l->(l.filter p).Perm (j::l.filter q)
 |x::l,hn,hj=>by
  have hn':=List.nodup_cons.1 hn
  by_cases e:x=j
  ·subst e
   have same:l.filter q=l.filter p:=List.filter_congr (fun i hi=>he i (fun e=>hn'.1 (e▸hi)))
   rw[List.filter_cons_of_pos hp,List.filter_cons_of_neg (by simp[hq]),same]
  ·have hj':j∈l:=by
    rcases List.mem_cons.1 hj with h|h
    ·exact absurd h.symm e
    ·exact h
   have ih:=Dl hp hq he hn'.2 hj'
   by_cases c:p x=true
   ·rw[List.filter_cons_of_pos c,List.filter_cons_of_pos (by rw[he x e];exact c)]
    exact(ih.cons x).trans (List.Perm.swap j x _)
   ·rw[List.filter_cons_of_neg c,List.filter_cons_of_neg (by rw[he x e];exact c)]
    exact ih
structure Net (nm:Nat->Tx)(r:Tx->Tx->Bool)(d t:Nat->Nat->Bool)(W:Nat->Nat->Prop)(n:Nat):Prop where
 dir:∀i k,i<n->k<n->r (nm i) (nm k)=d i k
 one:∀i k,i<n->k<n->nm i=nm k->i=k
 tab:∀i k,i<n->k<n->(t i k=true↔W i k)
 base:∀i k,i<n->k<n->d i k=true->W i k
 trans:∀i j k,j<n->W i j->W j k->W i k
 first:∀i k,i<n->k<n->W i k->d i k=true\/∃j,j<n/\d i j=true/\W j k
structure Inv (nm:Nat->Tx)(W:Nat->Nat->Prop)(n:Nat)(done:List Bool)(left:List Tx):Prop where
 dl:done.length=n
 perm:left.Perm (((List.range n).filter (fun i=>!done.getD i false)).map nm)
 sort:sorted left
 closed:∀i k,i<n->k<n->done.getD i false=true->W i k->done.getD k false=true
section
variable {nm:Nat->Tx} {r:Tx->Tx->Bool} {d t:Nat->Nat->Bool} {W:Nat->Nat->Prop} {n:Nat}
theorem Inv.mem {done:List Bool}{left:List Tx}(h:Inv nm W n done left)(x:Tx):x∈left↔∃i,i<n/\done.getD i false=false/\nm i=x:=by
 rw[h.perm.mem_iff,List.mem_map]
 constructor
 ·rintro⟨i,hi,e⟩
  have hi':=List.mem_filter.1 hi
  exact⟨i,List.mem_range.1 hi'.1,by simpa using hi'.2,e⟩
 ·rintro⟨i,hi,hd,e⟩
  exact⟨i,List.mem_filter.2 ⟨List.mem_range.2 hi,by simp only[hd,Bool.not_false]⟩,e⟩
theorem TN {done:List Bool}{i:Nat}:ready t n done i=true↔done.getD i false=false/\∀k,k<n->t i k=true->done.getD k false=true:=by
 unfold ready
 simp only[Bool.and_eq_true,Bool.not_eq_true',List.all_eq_true,List.mem_range,Bool.or_eq_true]
 constructor
 ·rintro⟨a,b⟩
  exact⟨a,fun k hk ht=>by
   rcases b k hk with q|q
   ·rw[ht]at q;exact absurd q (by simp)
   ·exact q⟩
 ·rintro⟨a,b⟩
  refine⟨a,fun k hk=>?_⟩
  cases q:t i k
  ·exact Or.inl rfl
  ·exact Or.inr (b k hk q)
theorem uR (N:Net nm r d t W n){done:List Bool}{left:List Tx}(h:Inv nm W n done left){i:Nat}(hi:i<n)(hd:done.getD i false=false):
  free r left (nm i)=true↔ready t n done i=true:=by
 rw[TN]
 unfold free
 simp only[List.all_eq_true,Bool.not_eq_true']
 constructor
 ·intro q
  refine⟨hd,fun k hk tk=>?_⟩
  have dn:∀j,j<n->d i j=true->done.getD j false=true:=fun j hj dj=>by
   cases c:done.getD j false
   ·have:=q (nm j) ((h.mem _).2 ⟨j,hj,c,rfl⟩)
    rw[N.dir i j hi hj,dj]at this;exact absurd this (by simp)
   ·rfl
  rcases N.first i k hi hk ((N.tab i k hi hk).1 tk)with w|⟨j,hj,dj,w⟩
  ·exact dn k hk w
  ·exact h.closed j k hj hk (dn j hj dj) w
 ·rintro⟨_,q⟩ x hx
  obtain⟨k,hk,dk,e⟩:=(h.mem x).1 hx
  rw[<-e,N.dir i k hi hk]
  cases c:d i k
  ·rfl
  ·have:=q k hk ((N.tab i k hi hk).2 (N.base i k hi hk c))
   rw[dk]at this;exact absurd this (by simp)
theorem pM (done:List Bool):∀(c:Nat),(Sk nm t n done c=none->∀i,i<c->ready t n done i=false)/\
  (∀j,Sk nm t n done c=some j->j<c/\ready t n done j=true/\∀i,i<c->ready t n done i=true->nm j<=nm i)
 |0=>⟨fun _ _ h=>absurd h (Nat.not_lt_zero _),fun _ h=>by simp[Sk]at h⟩
 |c+1=>by
  have ih:=pM done c
  have e:Sk nm t n done (c+1)=if ready t n done c=true/\(∀j,Sk nm t n done c=some j->nm c<nm j)then some c else Sk nm t n done c:=by
   unfold Sk;rw[List.range_succ,List.foldl_append,List.foldl_cons,List.foldl_nil]
  rw[e]
  split
  ·rename_i q
   refine⟨(fun h=>absurd h (by simp)),fun j hj=>?_⟩
   cases hj
   refine⟨by omega,q.1,fun i hi ri=>?_⟩
   by_cases ec:i=c
   ·rw[ec];exact List.le_refl _
   ·have hi':i<c:=by omega
    cases b:Sk nm t n done c with
    |none=>exact absurd (ih.1 b i hi') (by simp[ri])
    |some j=>exact le_trans' (Lx (q.2 j b)) ((ih.2 j b).2.2 i hi' ri)
  ·rename_i q
   refine⟨fun h i hi=>?_,fun j hj=>?_⟩
   ·by_cases ec:i=c
    ·subst ec
     cases rc:ready t n done i
     ·rfl
     ·exact absurd ⟨rc,fun j hj=>by rw[h]at hj;cases hj⟩ q
    ·exact ih.1 h i (by omega)
   ·obtain⟨h1,h2,h3⟩:=ih.2 j hj
    refine⟨by omega,h2,fun i hi ri=>?_⟩
    by_cases ec:i=c
    ·subst ec
     by_cases lt:nm i<nm j
     ·exact absurd ⟨ri,fun j' hj'=>by rw[hj]at hj';cases hj';exact lt⟩ q
     ·exact MO lt
    ·exact h3 i (by omega) ri
theorem Dj (N:Net nm r d t W n){done:List Bool}{left:List Tx}(h:Inv nm W n done left):
  left.find? (free r left)=(Sk nm t n done n).map nm:=by
 have b:=pM (nm:=nm) (t:=t) (n:=n) done n
 cases e:Sk nm t n done n with
 |none=>
  rw[Option.map_none,List.find?_eq_none]
  intro x hx fx
  obtain⟨i,hi,hd,ei⟩:=(h.mem x).1 hx
  rw[<-ei]at fx
  have:=(uR N h hi hd).1 fx
  rw[b.1 e i hi]at this;exact absurd this (by simp)
 |some j=>
  obtain⟨hj,rj,lj⟩:=b.2 j e
  have dj:=(TN.1 rj).1
  have mj:nm j∈left:=(h.mem _).2 ⟨j,hj,dj,rfl⟩
  have fj:=(uR N h hj dj).2 rj
  rw[Option.map_some]
  cases fe:left.find? (free r left)with
  |none=>exact absurd fj (List.find?_eq_none.1 fe _ mj)
  |some a=>
   obtain⟨fa,as1,bs,el,no⟩:=List.find?_eq_some_iff_append.1 fe
   have ma:a∈left:=by rw[el];simp
   obtain⟨i,hi,di,ei⟩:=(h.mem a).1 ma
   have ri:ready t n done i=true:=(uR N h hi di).1 (by rw[ei];exact fa)
   have le1:nm j<=a:=by rw[<-ei];exact lj i hi ri
   have so:=h.sort
   rw[sorted,el]at so
   have so':=List.pairwise_cons.1 (List.pairwise_append.1 so).2.1
   rw[el]at mj
   rcases List.mem_append.1 mj with q|q
   ·exact absurd fj (by simpa using no _ q)
   ·rcases List.mem_cons.1 q with q|q
    ·rw[q]
    ·rw[KY le1 (so'.1 _ q)]
theorem Ev {done:List Bool}{j i:Nat}(hj:j<done.length):(done.set j true).getD i false=if i=j then true else done.getD i false:=by
 by_cases e:i=j
 ·subst e;rw[if_pos rfl,List.getD_eq_getElem?_getD,List.getElem?_set_self hj,Option.getD_some]
 ·rw[if_neg e,List.getD_eq_getElem?_getD,List.getElem?_set_ne (Ne.symm e),<-List.getD_eq_getElem?_getD]
theorem Inv.step (N:Net nm r d t W n){done:List Bool}{left:List Tx}(h:Inv nm W n done left){j:Nat}(hj:j<n)(rj:ready t n done j=true):
  Inv nm W n (done.set j true) (left.erase (nm j))/\(left.erase (nm j)).length+1=left.length:=by
 obtain⟨dj,wj⟩:=TN.1 rj
 have hl:j<done.length:=by rw[h.dl];exact hj
 have p:=Dl (p:=fun i=>!done.getD i false) (q:=fun i=>!(done.set j true).getD i false) (j:=j) (by simp only[dj,Bool.not_false])
  (by simp only[Ev hl,if_true,Bool.not_true]) (fun i hi=>by simp only[Ev hl,if_neg hi]) (l:=List.range n) List.nodup_range (List.mem_range.2 hj)
 have p2:left.Perm (nm j::((List.range n).filter (fun i=>!(done.set j true).getD i false)).map nm):=by
  have:=h.perm.trans (p.map nm);rwa [List.map_cons]at this
 have p3:=p2.erase (nm j)
 rw[List.erase_cons_head]at p3
 refine⟨⟨by simp[h.dl],p3,h.sort.sublist List.erase_sublist,fun i k hi hk di w=>?_⟩,?_⟩
 ·rw[Ev hl]at di ⊢
  split
  ·rfl
  ·split at di
   ·rename_i e;subst e
    exact wj k hk ((N.tab i k hi hk).2 w)
   ·exact h.closed i k hi hk di w
 ·have:=p2.length_eq
  rw[p3.length_eq,this,GY8]
theorem BJ (N:Net nm r d t W n)(no:∀i,i<n->¬W i i){done:List Bool}:
  ∀(c i:Nat),i<n->done.getD i false=false->((List.range n).filter (fun k=>t i k)).length<=c->∃j,j<n/\ready t n done j=true
 |c,i,hi,hd,hc=>by
  by_cases q:ready t n done i=true
  ·exact⟨i,hi,q⟩
  ·have:∃k,k<n/\t i k=true/\done.getD k false=false:=by
    apply Classical.byContradiction
    intro hno
    apply q
    rw[TN]
    refine⟨hd,fun k hk tk=>?_⟩
    cases e:done.getD k false
    ·exact absurd ⟨k,hk,tk,e⟩ hno
    ·rfl
   obtain⟨k,hk,tk,dk⟩:=this
   have wk:=(N.tab i k hi hk).1 tk
   have lt:((List.range n).filter (fun x=>t k x)).length<((List.range n).filter (fun x=>t i x)).length:=by
    have sub:∀x,x∈List.range n->t k x=true->t i x=true:=fun x hx tx=>
     have hx':=List.mem_range.1 hx
     (N.tab i x hi hx').2 (N.trans i k x hk wk ((N.tab k x hk hx').1 tx))
    have tkk:t k k=false:=by
     cases e:t k k
     ·rfl
     ·exact absurd ((N.tab k k hk hk).1 e) (no k hk)
    have gen:∀(l:List Nat),(∀x,x∈l->t k x=true->t i x=true)->((l.filter (fun x=>t k x)).length<=(l.filter (fun x=>t i x)).length)/\(k∈l->(l.filter (fun x=>t k x)).length<(l.filter (fun x=>t i x)).length):=by
     intro l
     induction l with
     |nil=>intro _;exact⟨GZ3 _,fun h=>absurd h List.not_mem_nil⟩
     |cons x l ih=>
      intro hs
      have ih':=ih (fun y hy=>hs y (List.mem_cons_of_mem _ hy))
      cases a:t k x<;>cases b:t i x<;>simp only[List.filter_cons,a,b,if_true,Bool.false_eq_true,if_false,GY8]
      ·refine⟨ih'.1,fun hm=>?_⟩
       rcases List.mem_cons.1 hm with q|q
       ·rw[<-q,tk]at b;cases b
       ·exact ih'.2 q
      ·have h1:=ih'.1
       exact⟨by omega,fun _=>by omega⟩
      ·have:=hs x List.mem_cons_self a
       rw[b]at this;cases this
      ·refine⟨by have:=ih'.1;omega,fun hm=>?_⟩
       rcases List.mem_cons.1 hm with q|q
       ·rw[<-q,tkk]at a;cases a
       ·have:=ih'.2 q;omega
    exact(gen _ sub).2 (List.mem_range.2 hk)
   cases c with
   |zero=>omega
   |succ c=>exact BJ N no c k hk dk (by omega)
theorem Dq (N:Net nm r d t W n)(no:∀i,i<n->¬W i i):∀(f:Nat)(done:List Bool)(left out:List Tx),Inv nm W n done left->left.length=f->
  order r f left out=some (vO nm t n f done out)
 |0,_,_,_,_,_=>rfl
 |f+1,done,left,out,h,hl=>by
  have b:=pM (nm:=nm) (t:=t) (n:=n) done n
  have fb:=Dj N h
  cases e:Sk nm t n done n with
  |none=>
   obtain⟨x,hx⟩:∃x,x∈left:=by
    cases left with
    |nil=>simp at hl
    |cons x l=>exact⟨x,List.mem_cons_self⟩
   obtain⟨i,hi,hd,_⟩:=(h.mem x).1 hx
   obtain⟨j,hj,rj⟩:=BJ N no _ i hi hd (GZ3 _)
   rw[b.1 e j hj]at rj;cases rj
  |some j=>
   obtain⟨hj,rj,_⟩:=b.2 j e
   rw[e,Option.map_some]at fb
   obtain⟨h',l'⟩:=h.step N hj rj
   rw[zU fb,vO,e]
   exact Dq N no f _ _ _ h' (by omega)
theorem yT (N:Net nm r d t W n){i:Nat}(hi:i<n)(w:W i i):∀(f:Nat)(done:List Bool)(left out:List Tx),Inv nm W n done left->left.length=f->
  done.getD i false=false->order r f left out=none
 |0,done,left,_,h,hl,hd=>by
  have m:nm i∈left:=(h.mem _).2 ⟨i,hi,hd,rfl⟩
  have:left=[]:=GY9 hl
  rw[this]at m;exact absurd m List.not_mem_nil
 |f+1,done,left,out,h,hl,hd=>by
  have b:=pM (nm:=nm) (t:=t) (n:=n) done n
  have fb:=Dj N h
  cases e:Sk nm t n done n with
  |none=>rw[e]at fb;exact JB fb
  |some j=>
   obtain⟨hj,rj,_⟩:=b.2 j e
   rw[e,Option.map_some]at fb
   obtain⟨h',l'⟩:=h.step N hj rj
   rw[zU fb]
   refine yT N hi w f _ _ _ h' (by omega) ?_
   rw[Ev (by rw[h.dl];exact hj)]
   split
   ·rename_i q;subst q
    have:=(TN.1 rj).2 i hi ((N.tab i i hi hi).2 w)
    rw[hd]at this;cases this
   ·exact hd
theorem Inv.begun :Inv nm W n (List.replicate n false) (Sd ((List.range n).map nm)):=by
 have e:∀i,(List.replicate n false).getD i false=false:=fun i=>by
  rw[List.getD_eq_getElem?_getD,List.getElem?_replicate];split<;>rfl
 refine⟨by simp,?_,wT _,fun i k hi hk q _=>by rw[e i]at q;cases q⟩
 have:(List.range n).filter (fun i=>!(List.replicate n false).getD i false)=List.range n:=List.filter_eq_self.2 (fun i _=>by simp only[e i,Bool.not_false])
 rw[this];exact SN _
end
end Gs
end Go.Proofs.YtjiedaialianmaaGreat
end
section
open Go
namespace Go.Proofs.YtjiedaialianmaaGreat
namespace Gs
theorem Lj {d:Nat->Nat->Bool}{n i k:Nat}(w:Gr.Way d n i k):d i k=true\/∃j,j<n/\d i j=true/\Gr.Way d n j k:=by
 induction w with
 |base e=>exact Or.inl e
 | @thru i j k hj _ b ih _=>
  rcases ih with q|⟨j',hj',q,w⟩
  ·exact Or.inr ⟨j,hj,q,b⟩
  ·exact Or.inr ⟨j',hj',q,.thru hj w b⟩
theorem Qc {nm:Nat->Tx}{r:Tx->Tx->Bool}{d:Nat->Nat->Bool}{n:Nat}(dir:∀i k,i<n->k<n->r (nm i) (nm k)=d i k)
  (one:∀i k,i<n->k<n->nm i=nm k->i=k):Net nm r d (Gr.Tab.all n (Gr.Tab.mk d n)).at (Gr.Way d n) n where
 dir:=dir
 one:=one
 tab:=fun _ _ hi hk=>Gr.Tab.Qh d hi hk
 base:=fun _ _ _ _ e=>.base e
 trans:=fun _ _ _ hj a b=>.thru hj a b
 first:=fun _ _ _ _ w=>Lj w
def names (nm:Nat->Tx)(n:Nat):List Tx:=(List.range n).map nm
end Gs
end Go.Proofs.YtjiedaialianmaaGreat
end
section
open Go
namespace Go.Proofs.YtjiedaialianmaaGreat
namespace Gs
theorem Dr {l:List Tx}{j:Nat}(hj:j+1<l.length):Lib.keeps l.toArray (j+1)=true↔l[j+1]≠l[j]:=by
 have h1:l.toArray[j+1]! =l[j+1]:=by simp[hj]
 have h0:l.toArray[j+1 -1]! =l[j]:=by simp[show j<l.length by omega]
 unfold Lib.keeps
 rw[h1,h0,decide_eq_true_eq]
 exact⟨fun h=>h.resolve_left (by omega),Or.inr⟩
theorem Ih {l:List Tx}(h:sorted l):(Lib.compact l).length<l.length↔¬l.Nodup:=by
 constructor
 ·intro lt hn
  have all:∀j,j<l.length->Lib.keeps l.toArray j=true:=by
   intro j hj
   cases j with
   |zero=>simp[Lib.keeps]
   |succ j=>
    rw[Dr hj]
    exact fun e=>List.pairwise_iff_getElem.1 hn j (j+1) (by omega) hj (by omega) e.symm
  rw[Lib.compact_all l all]at lt
  exact absurd lt (Nat.lt_irrefl _)
 ·intro hn
  apply Classical.byContradiction
  intro lt
  apply hn
  have all:∀j,j<l.length->Lib.keeps l.toArray j=true:=by
   intro j hj
   apply Classical.byContradiction
   intro no
   apply lt
   unfold Lib.compact Lib.compactUpTo
   rw[List.length_map]
   have:=List.length_filter_lt_length_iff_exists.2 ⟨j,List.mem_range.2 hj,no⟩
   rwa [List.length_range]at this
  refine List.pairwise_iff_getElem.2 (fun i j hi hj hij e=>?_)
  cases j with
  |zero=>omega
  |succ j=>
   have so:=List.pairwise_iff_getElem.1 h
   have ne:=(Dr hj).1 (all (j+1) hj)
   have le1:l[j]<=l[j+1]:=so j (j+1) (by omega) hj (by omega)
   by_cases q:i=j
   ·subst q;exact ne e.symm
   ·have le2:l[i]<=l[j]:=so i j hi (by omega) (by omega)
    rw[e]at le2
    exact ne (KY le2 le1)
end Gs
end Go.Proofs.YtjiedaialianmaaGreat
end
section
set_option maxRecDepth 100000
set_option maxHeartbeats 2000000
namespace Go.Proofs.YtjiedaialianmaaGreat
open Go.RowKit
theorem Tryz.infoByte :(Tryz.prog.info? 5).map (fun i=>(i.zero,i.size,i.bytes))=some (some (.int .u8 0),1,1):=by kernel_rfl
theorem Tryz.sizeBuilder :(Tryz.prog.info? 137).map (·.size)=some 2:=by kernel_rfl
theorem Tryz.cellsByte :Tryz.prog.cellsOf 5=1:=by kernel_rfl
structure Holds (T:TypeId):Prop where
 lies:liesAt Tryz.prog Tryz.prog.depth T (2 / Tryz.prog.cellsOf T) 0 137 1=true
 ne:T≠5
abbrev Bld (T b:Nat)(l:List UInt8)(w:World):Prop:=Lib.IsBuilder T 5 b b (Lib.byteCells l) w
abbrev Kept (b:Nat)(w w':World):Prop:=Lib.OthersKept 5 (some b) w w'
theorem Az (b:Nat)(w:World)(h0:w.cell? ⟨b,0,none⟩=some (.pointer (some ⟨b,0,none⟩))):
  Calls Tryz.prog 165 #[.pointer (some ⟨b,0,none⟩)] w fun e w'=>e=.returned (.tuple #[])/\w'=w:=by
 obtain⟨j,hj,_⟩:=Option.map_eq_some_iff.1 Tryz.sizeBuilder
 go_enter Tryz.func165,Tryz.ntmps165
 go_wp2
 rw[Lib.run_neq_ptr_same w _ Tryz.underlying134 hj]
 go_wp2
 go_end0
 exact⟨rfl,rfl⟩
theorem zA (T b:Nat)(hT:Holds T)(w:World)(h0:w.cell? ⟨b,0,none⟩=some (.pointer none))(hsh:w.shape? b=some (T,2))(hfz:w.frozen? ⟨b,0,none⟩=false):
  Calls Tryz.prog 165 #[.pointer (some ⟨b,0,none⟩)] w fun e w'=>e=.returned (.tuple #[])/\w'=w.setCell ⟨b,0,none⟩ (.pointer (some ⟨b,0,none⟩)):=by
 obtain⟨j,hj,hjs⟩:=Option.map_eq_some_iff.1 Tryz.sizeBuilder
 go_enter Tryz.func165,Tryz.ntmps165
 go_wp2
 rw[Lib.run_to_unsafe w ⟨b,0,none⟩ Tryz.underlying134 Tryz.underlying257 hj (by rw[hjs];decide) hsh (Nat.zero_lt_succ 1)]
 simp only[Result.andThen]
 rw[Oper.upon_value]
 go_wp2
 rw[run_callFunc_extern Tryz.func224 (by kernel_rfl) (by kernel_rfl) (by kernel_rfl) (e:=Extern.AbiNoEscape.same) (by kernel_rfl)]
 rw[Lib.run_noEscape]
 simp only[Result.andThen]
 rw[Oper.upon_value]
 go_wp2
 rw[Lib.run_from_unsafe w ⟨b,0,none⟩ Tryz.underlying257 Tryz.underlying134 hj hsh hT.lies]
 simp only[Result.andThen]
 rw[Oper.upon_value]
 go_wp2
 go_end0
 exact⟨rfl,rfl⟩
theorem CQ (T b:Nat)(hT:Holds T)(bs:List Value)(w:World)(h:Lib.IsBuilder T 5 b b bs w):
  Calls Tryz.prog 165 #[.pointer (some ⟨b,0,none⟩)] w fun e w'=>e=.returned (.tuple #[])/\Lib.BuilderAt T 5 b b (.pointer (some ⟨b,0,none⟩)) bs w'/\Below b w w'/\Kept b w w':=by
 rcases h with h|h
 ·refine(zA T b hT w h.cell0 h.shape h.frozen0).mono ?_
  rintro e w' ⟨rfl,rfl⟩
  exact⟨rfl,h.used _,(GZ4 b w).setCell (p:=⟨b,0,none⟩) (GZ3 _) _,(Lib.OthersKept.refl _ _ w).setCell ⟨b,0,none⟩ rfl _⟩
 ·refine(Az b w h.cell0).mono ?_
  rintro e w' ⟨rfl,rfl⟩
  exact⟨rfl,h,GZ4 _ _,Lib.OthersKept.refl _ _ _⟩
theorem ownsRow_kind {w:World}{B:Nat}{e:TypeId}{v:Value}{n:Nat}{xs:List Value}(h:w.ownsRow B e 1 v n xs):∀g,v.ownBlock=some g->∃c fz,w.heap[g]? =some (.cells c e fz):=by
 intro g hg
 rcases h.2 with⟨rfl,_⟩|⟨g',cap,cur,rfl,_,hgg,_⟩
 ·simp[Value.ownBlock]at hg
 ·simp[Value.ownBlock]at hg
  subst hg
  exact⟨cur,_,hgg⟩
theorem jW (T b:Nat)(hT:Holds T)(l:List UInt8)(s:ByteArray)(w:World)(h:Bld T b l w)(hlen:l.length+s.size<=100000):
  Calls Tryz.prog 89 #[.pointer (some ⟨b,0,none⟩),.string s] w fun e w'=>(∃u,e=.returned u)/\Bld T b (l++s.data.toList) w'/\Below b w w'/\Kept b w w':=by
 obtain⟨i0,hi,hz0,hz1,hz2⟩:=info_parts Tryz.infoByte
 have cC:=Hp (CQ T b hT _ w h)
 have hne':=hT.ne
 clear h
 go_enter Tryz.func89,Tryz.ntmps89
 go_wp2_with (go_at_call 165;refine(cC.out).mono ?_)
 rintro e w1 ⟨rfl,h1,hb1,hk1⟩
 obtain⟨hB,v,hbk,hown,hne⟩:=h1
 have hlt:b<w1.heap.size:=by
  rcases Nat.lt_or_ge b w1.heap.size with h'|h'
  ·exact h'
  ·simp[Array.getElem?_eq_none h']at hbk
 have c0:w1.cell? ⟨b,0,none⟩=some (.pointer (some ⟨b,0,none⟩)):=by rw[Lib.cell_of_heap hbk];rfl
 have c1:w1.cell? ⟨b,1,none⟩=some v:=by rw[Lib.cell_of_heap hbk];rfl
 rw[Lib.byteCells_length]at hown
 go_wp2_with (at_builtin;refine Lib.wpList_append_own_string _ rfl _ _ 135 9 rfl b 5 i0 Tryz.underlying135 Tryz.underlying9 hi hz0 hz1 hz2 _ _ _ rfl hown s rfl ?c3 ?c4 ?c5 ?_)
 case c3=>unfold maxLen;omega
 case c4=>omega
 case c5=>omega
 intro v' w2 hown' hgrow _
 have hb2:w2.heap[b]? =some (.cells #[.pointer (some ⟨b,0,none⟩),v] T (0,0)):=by
  rw[hgrow.block b hlt (fun e=>hne e.symm)]
  exact hbk
 have d0:w2.cell? ⟨b,0,none⟩=some (.pointer (some ⟨b,0,none⟩)):=by rw[Lib.cell_of_heap hb2];rfl
 have d1:w2.cell? ⟨b,1,none⟩=some v:=by rw[Lib.cell_of_heap hb2];rfl
 have f1:w2.frozen? ⟨b,1,none⟩=false:=Lib.frozen_of_heap hb2 1
 obtain⟨ao,n',cap,rfl⟩:∃ao n' cap,v'=.slice ao n' cap:=by
  rcases hown'.2 with⟨hv,_⟩|⟨g,cap,cur,hv,_⟩
  ·exact⟨_,_,_,hv⟩
  ·exact⟨_,_,_,hv⟩
 go_wp2
 go_ret2
 refine⟨⟨_,rfl⟩,.inr ?_,?_,?_⟩
 ·refine Lib.BuilderAt.put (T:=T) (e:=5) hB hb2 (bs':=Lib.byteCells (l++s.data.toList)) ?_ hne'
  rw[Lib.byteCells_length,GZ8,Lib.byteCells_append]
  have e:s.data.toList.length=s.size:=by rw[Array.length_toList];rfl
  rw[e]
  exact hown'
 ·exact(hb1.grown hgrow (by omega) (fun k hk=>(hown.lt k hk).1)).setCell (p:=⟨b,1,none⟩) hB _
 ·exact(hk1.grown hgrow (ownsRow_kind hown)).setCell ⟨b,1,none⟩ rfl _
theorem GN (T b:Nat)(l:List UInt8)(w:World)(h:Bld T b l w)(h0:l≠[]):
  Calls Tryz.prog 92 #[.pointer (some ⟨b,0,none⟩)] w fun e w'=>e=.returned (.string ⟨l.toArray⟩)/\Below b w w':=by
 obtain⟨p,hB,v,hbk,hown,hne⟩:∃p,Lib.BuilderAt T 5 b b p (Lib.byteCells l) w:=by
  rcases h with h|h
  ·exact⟨_,h⟩
  ·exact⟨_,h⟩
 have hl0:l.length≠0:=by simpa using h0
 rw[Lib.byteCells_length]at hown
 obtain⟨g,cap,cur,rfl,hbg,hg,hnc,hcm,hcs,htake⟩:∃g cap cur,v=.slice (some ⟨g,0,none⟩) l.length cap/\b<=g/\w.heap[g]? =some (.cells cur 5 (0,0))/\l.length<=cap/\cap<=maxLen/\cur.size=cap*1/\cur.toList.take (l.length*1)=Lib.byteCells l:=by
  rcases hown.2 with⟨_,hz⟩|⟨g,cap,cur,hv,r⟩
  ·exact absurd hz hl0
  ·exact⟨g,cap,cur,hv,r⟩
 have c1:w.drew.cell? ⟨b,1,none⟩=some (.slice (some ⟨g,0,none⟩) l.length cap):=by
  have:w.drew.heap[b]? =some (.cells #[p,.slice (some ⟨g,0,none⟩) l.length cap] T (0,0)):=hbk
  rw[Lib.cell_of_heap this];rfl
 have hSD:(Builtin.unsafeSliceData_ #[135] 210 #[.slice (some ⟨g,0,none⟩) l.length cap]).run Tryz.prog w.drew=.ok (.pointer (some ⟨g,0,none⟩)) w.drew:=
  Lib.run_unsafeSliceData_row _ _ _ _ _ _ (by omega)
 have hUS:(Builtin.unsafeString_ #[210,3] 9 #[.pointer (some ⟨g,0,none⟩),.int .i64 l.length]).run Tryz.prog w.drew=.ok (.string ⟨l.toArray⟩) (w.drew.freeze ⟨g,0,none⟩ l.length):=by
  refine Lib.run_unsafeString_row w.drew 210 3 9 5 Tryz.underlying210 Tryz.cellsByte g cur.size (by have hg':w.drew.heap[g]? =some (.cells cur 5 (0,0)):=hg;simp[World.shape?,hg']) l h0 (by omega) (by unfold maxLen at hcm;omega) ?_
  intro j x hx
  have:=hown.cells (g:=g) rfl j (.int .u8 x.toNat) (by simp[Lib.byteCells,hx])
  exact this
 clear hcm htake
 have mixed:Tryz.prog.follows Departure.mixedOrders=true:=by kernel_rfl
 go_enter Tryz.func92,Tryz.ntmps92
 go_wp2
 go_region_o
 all_goals(go_wp2;go_ret;exact⟨rfl,Lib.below_freeze (Below.drew (GZ4 b w)) (p:=⟨g,0,none⟩) hbg _⟩)
theorem Kept.heap {b k:Nat}{w w':World}{cs:Array Value}{t:TypeId}{fr:Nat×Nat}(h:Kept b w w')(hk:w.heap[k]? =some (.cells cs t fr))(hb:k≠b)(ht:t≠5):w'.heap[k]? =some (.cells cs t fr):=
 h k _ hk (fun e=>hb (GY3 e)) (fun c fz e=>by injection e with _ h2 _;exact ht h2)
theorem Bld.below {T b:Nat}{l:List UInt8}{w w':World}(h:Bld T b l w)(hb:Below w.heap.size w w'):Bld T b l w':=by
 have key:∀p,Lib.BuilderAt T 5 b b p (Lib.byteCells l) w->Lib.BuilderAt T 5 b b p (Lib.byteCells l) w':=fun p ⟨hB,v,hbk,hown,hne⟩=>by
  have hlt:b<w.heap.size:=(ZL hbk)
  refine⟨hB,v,(hb.block b hlt).trans hbk,⟨hown.1,?_⟩,hne⟩
  rcases hown.2 with h0|⟨g,cap,cur,e1,e2,e3,e4⟩
  ·exact .inl h0
  ·exact .inr ⟨g,cap,cur,e1,e2,(hb.block g (ZL e3)).trans e3,e4⟩
 rcases h with h|h
 ·exact .inl (key _ h)
 ·exact .inr (key _ h)
theorem Kept.of_below {b:Nat}{w w':World}(h:Below w.heap.size w w'):Kept b w w':=fun k _ hk _ _=>(h.block k (ZL hk)).trans hk
theorem Bld.lt {T b:Nat}{l:List UInt8}{w:World}(h:Bld T b l w):b<w.heap.size:=by
 rcases h with h|h<;>exact h.lt
end Go.Proofs.YtjiedaialianmaaGreat
end
