/- Parts of the proof, one behind the other: ShelfS. Each is under no condition but those that it states. -/
import Derived.Test.YtdofbjccfkaijaaGreatDoorPn5
import Derived.Shelf.Sort.Plain
import Derived.Shelf.Slices.In.SortNone
namespace Go.Proofs
set_option linter.unusedSimpArgs false
set_option linter.unusedVariables false
set_option maxRecDepth 100000
set_option maxHeartbeats 16000000
section
open Go.Shelf
def Tryz.lays190_ren:Go.Shelf.Ren:=⟨fun | 190=>31 | 125=>60 | 258=>59 | 128=>101 | 129=>102 | 302=>92 | 303=>93 | 304=>94 | 305=>95 | 306=>96 | 307=>97 | 308=>98 | 309=>99 | 310=>100 | 333=>128 | 329=>129 | 330=>130 | 334=>131 | 335=>132 | 336=>133 | 344=>155 | n=>n,fun | 31=>28 | 9=>9 | 3=>3 | 46=>113 | 0=>0 | 51=>131 | 53=>167 | 4=>4 | 183=>159 | 182=>158 | 131=>163 | 5=>5 | 218=>203 | 222=>207 | 228=>226 | 229=>227 | n=>n,fun | n=>n⟩
theorem Tryz.lays190:Go.Proofs.Lays.n190 Tryz.prog Tryz.lays190_ren:={
 mixed:=by kernel_rfl
 f125:=Tryz.func60.trans (congrArg some (by kernel_rfl))
 f128:=Tryz.func101.trans (congrArg some (by kernel_rfl))
 f129:=Tryz.func102.trans (congrArg some (by kernel_rfl))
 f190:=Tryz.func31.trans (congrArg some (by kernel_rfl))
 f258:=Tryz.func59.trans (congrArg some (by kernel_rfl))
 f302:=Tryz.func92.trans (congrArg some (by kernel_rfl))
 f303:=Tryz.func93.trans (congrArg some (by kernel_rfl))
 f304:=Tryz.func94.trans (congrArg some (by kernel_rfl))
 f305:=Tryz.func95.trans (congrArg some (by kernel_rfl))
 f306:=Tryz.func96.trans (congrArg some (by kernel_rfl))
 f307:=Tryz.func97.trans (congrArg some (by kernel_rfl))
 f308:=Tryz.func98.trans (congrArg some (by kernel_rfl))
 f309:=Tryz.func99.trans (congrArg some (by kernel_rfl))
 f310:=Tryz.func100.trans (congrArg some (by kernel_rfl))
 f329:=Tryz.func129.trans (congrArg some (by kernel_rfl))
 f330:=Tryz.func130.trans (congrArg some (by kernel_rfl))
 f333:=Tryz.func128.trans (congrArg some (by kernel_rfl))
 f334:=Tryz.func131.trans (congrArg some (by kernel_rfl))
 f335:=Tryz.func132.trans (congrArg some (by kernel_rfl))
 f336:=Tryz.func133.trans (congrArg some (by kernel_rfl))
 f344:=Tryz.func155.trans (congrArg some (by kernel_rfl))
 t0:=Tryz.underlying0
 a0:=Tryz.isAgg0
 z0:=Tryz.sizeOf0
 v0:=Tryz.zeroValue0
 t3:=Tryz.underlying3
 a3:=Tryz.isAgg3
 z3:=Tryz.sizeOf3
 v3:=Tryz.zeroValue3
 t4:=Tryz.underlying4
 a4:=Tryz.isAgg4
 z4:=Tryz.sizeOf4
 v4:=Tryz.zeroValue4
 t5:=Tryz.underlying5
 a5:=Tryz.isAgg5
 z5:=Tryz.sizeOf5
 v5:=Tryz.zeroValue5
 t9:=Tryz.underlying9
 a9:=Tryz.isAgg9
 z9:=Tryz.sizeOf9
 v9:=Tryz.zeroValue9
 t31:=Tryz.underlying28
 a31:=Tryz.isAgg28
 z31:=Tryz.sizeOf28
 v31:=Tryz.zeroValue28
 t46:=Tryz.underlying113
 a46:=Tryz.isAgg113
 z46:=Tryz.sizeOf113
 v46:=Tryz.zeroValue113
 t51:=Tryz.underlying131
 a51:=Tryz.isAgg131
 z51:=Tryz.sizeOf131
 v51:=Tryz.zeroValue131
 t53:=Tryz.underlying167
 a53:=Tryz.isAgg167
 z53:=Tryz.sizeOf167
 v53:=Tryz.zeroValue167
 t131:=Tryz.underlying163
 a131:=Tryz.isAgg163
 z131:=Tryz.sizeOf163
 v131:=Tryz.zeroValue163
 t182:=Tryz.underlying158
 a182:=Tryz.isAgg158
 z182:=Tryz.sizeOf158
 v182:=Tryz.zeroValue158
 t183:=Tryz.underlying159
 a183:=Tryz.isAgg159
 z183:=Tryz.sizeOf159
 v183:=Tryz.zeroValue159
 t218:=Tryz.underlying203
 a218:=Tryz.isAgg203
 z218:=Tryz.sizeOf203
 v218:=Tryz.zeroValue203
 t222:=Tryz.underlying207
 a222:=Tryz.isAgg207
 z222:=Tryz.sizeOf207
 v222:=Tryz.zeroValue207
 t228:=Tryz.underlying226
 a228:=Tryz.isAgg226
 z228:=Tryz.sizeOf226
 v228:=Tryz.zeroValue226
 t229:=Tryz.underlying227
 a229:=Tryz.isAgg227
 z229:=Tryz.sizeOf227
 v229:=Tryz.zeroValue227 }
open Go.Sort Go.RowKit in
theorem Tryz.slices_Sort_string(blk off cap:Nat)(ss:List (List UInt8))(w:World)(hH:Holds encStr w blk off ss.toArray)(hblk:blk < w.heap.size)(hsz:ss.length < 4611686018427387904) :
  Calls Tryz.prog 31 #[.slice (some ⟨blk,off,none⟩) ss.length cap] w fun e w' =>
   e=.returned (.tuple #[])∧∃ n os,w'=grow (putRow encStr (Sort.ahead w n) blk off (ss.mergeSort fun x y=>decide (x≤y)).toArray) os:=Any.slices_Sort_string Tryz.lays190 blk off cap ss w hH hblk hsz
open Go.RowKit Go.Sort in
theorem Tryz.slices_Sort_string_none(p:Option Addr)(cap:Nat)(w:World) :
  Calls Tryz.prog 31 #[.slice p 0 cap] w fun e w'=>e=.returned (.tuple #[])∧w'=w:=Any.slices_Sort_string_none Tryz.lays190 p cap w
end
end Go.Proofs
