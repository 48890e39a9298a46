/- Parts of the proof, one behind the other: Shelf. Each is under no condition but those that it states. -/
import Derived.Shelf.Strings.OnBuilder
import Derived.Shelf.Small.Bits
import Derived.Shelf.Strings.BuilderK
import Derived.Test.YtcpnjmcipainpaaGreatDoorProg
namespace Go.Proofs
set_option linter.unusedSimpArgs false
set_option linter.unusedVariables false
set_option maxRecDepth 100000
set_option maxHeartbeats 16000000
section
open Go.Shelf
def Tryz.lays156_ren:Go.Shelf.Ren:=⟨fun | 156=>250 | 165=>262 | 166=>263 | 169=>264 | 240=>268 | 241=>269 | 276=>271 | 277=>272 | n=>n,fun | 31=>34 | 9=>9 | 3=>3 | 4=>4 | 0=>0 | 20=>20 | 72=>345 | 76=>321 | 70=>343 | 37=>92 | 75=>162 | 127=>355 | 164=>333 | 5=>5 | 80=>93 | n=>n,fun | n=>n⟩
theorem Tryz.lays156:Go.Proofs.Lays.n156 Tryz.prog Tryz.lays156_ren:={
 mixed:=by kernel_rfl
 f156:=Tryz.func250.trans (congrArg some (by kernel_rfl))
 f165:=Tryz.func262.trans (congrArg some (by kernel_rfl))
 f166:=Tryz.func263.trans (congrArg some (by kernel_rfl))
 f169:=Tryz.func264.trans (congrArg some (by kernel_rfl))
 f240:=Tryz.func268.trans (congrArg some (by kernel_rfl))
 f241:=Tryz.func269.trans (congrArg some (by kernel_rfl))
 f276:=Tryz.func271.trans (congrArg some (by kernel_rfl))
 f277:=Tryz.func272.trans (congrArg some (by kernel_rfl))
 t0:=Tryz.underlying0
 a0:=Tryz.isAgg0
 z0:=Tryz.sizeOf0
 v0:=Tryz.zeroValue0
 t3:=Tryz.underlying3
 a3:=Tryz.isAgg3
 z3:=Tryz.sizeOf3
 v3:=Tryz.zeroValue3
 t4:=Tryz.underlying4
 a4:=Tryz.isAgg4
 z4:=Tryz.sizeOf4
 v4:=Tryz.zeroValue4
 t9:=Tryz.underlying9
 a9:=Tryz.isAgg9
 z9:=Tryz.sizeOf9
 v9:=Tryz.zeroValue9
 t20:=Tryz.underlying20
 a20:=Tryz.isAgg20
 z20:=Tryz.sizeOf20
 v20:=Tryz.zeroValue20
 t31:=Tryz.underlying34
 a31:=Tryz.isAgg34
 z31:=Tryz.sizeOf34
 v31:=Tryz.zeroValue34
 t37:=Tryz.underlying92
 a37:=Tryz.isAgg92
 z37:=Tryz.sizeOf92
 v37:=Tryz.zeroValue92
 t70:=Tryz.underlying343
 a70:=Tryz.isAgg343
 z70:=Tryz.sizeOf343
 v70:=Tryz.zeroValue343
 t72:=Tryz.underlying345
 a72:=Tryz.isAgg345
 z72:=Tryz.sizeOf345
 v72:=Tryz.zeroValue345
 t75:=Tryz.underlying162
 a75:=Tryz.isAgg162
 z75:=Tryz.sizeOf162
 v75:=Tryz.zeroValue162
 t76:=Tryz.underlying321
 a76:=Tryz.isAgg321
 z76:=Tryz.sizeOf321
 v76:=Tryz.zeroValue321
 t127:=Tryz.underlying355
 a127:=Tryz.isAgg355
 z127:=Tryz.sizeOf355
 v127:=Tryz.zeroValue355
 t164:=Tryz.underlying333
 a164:=Tryz.isAgg333
 z164:=Tryz.sizeOf333
 v164:=Tryz.zeroValue333 }
theorem Tryz.Builder_Extra_156:Builder.Extra Tryz.prog Tryz.lays156_ren:={
 sizeBuilder:=by kernel_rfl
 liesBuilder:=by kernel_rfl
 t5:=Tryz.underlying5
 a5:=Tryz.isAgg5
 z5:=Tryz.sizeOf5
 v5:=Tryz.zeroValue5
 infoByte:=by kernel_rfl
 cellsByte:=by kernel_rfl
 sizeByte:=by kernel_rfl
 neB5:=by decide }
open Go.RowKit in
theorem Tryz.strings_Join_none(a:Option Addr)(c:Nat)(sep:ByteArray)(w:World) :
  Calls Tryz.prog 250 #[.slice a 0 c,.string sep] w fun e w'=>e=.returned (.string ⟨#[]⟩)∧w'=w:=Any.strings_Join_none Tryz.lays156 Tryz.Builder_Extra_156 a c sep w
open Go.RowKit in
theorem Tryz.strings_Join(bk o c:Nat)(xs:List ByteArray)(sep:ByteArray)(w:World)(hcells:∀ (j:Nat) x,xs[j]?=some x→w.cell? ⟨bk,o+j,none⟩=some (.string x))(hbk:bk < w.heap.size)(hN:xs.length≤140737488355328)(hcap:xs.length≤c)(hlen:(Lib.join (xs.map (·.data.toList)) sep.data.toList).length≤140737488355328) :
  Calls Tryz.prog 250 #[.slice (some ⟨bk,o,none⟩) xs.length c,.string sep] w fun e w'=>e=.returned (.string ⟨(Lib.join (xs.map (·.data.toList)) sep.data.toList).toArray⟩)∧Below w.heap.size w w':=Any.strings_Join Tryz.lays156 Tryz.Builder_Extra_156 bk o c xs sep w hcells hbk hN hcap hlen
end
end Go.Proofs
