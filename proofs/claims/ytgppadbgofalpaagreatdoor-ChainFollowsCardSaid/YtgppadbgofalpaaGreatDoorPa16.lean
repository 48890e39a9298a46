/- Parts of the proof, one behind the other: ShelfS. Each is under no condition but those that it states. -/
import Derived.Test.YtgppadbgofalpaaGreatDoorPa5
import Derived.Shelf.Sort.Plain
import Derived.Shelf.Slices.In.SortNone
namespace Go.Proofs
set_option linter.unusedSimpArgs false
set_option linter.unusedVariables false
set_option maxRecDepth 100000
set_option maxHeartbeats 16000000
section
open Go.Shelf
def Tryz.lays190_ren:Go.Shelf.Ren:=⟨fun | 190=>87 | 125=>137 | 258=>136 | 128=>176 | 129=>177 | 302=>167 | 303=>168 | 304=>169 | 305=>170 | 306=>171 | 307=>172 | 308=>173 | 309=>174 | 310=>175 | 333=>213 | 329=>214 | 330=>215 | 334=>216 | 335=>217 | 336=>218 | 344=>237 | n=>n,fun | 31=>52 | 9=>9 | 3=>3 | 46=>255 | 0=>0 | 51=>256 | 53=>180 | 4=>4 | 183=>313 | 182=>312 | 131=>196 | 5=>5 | 218=>354 | 222=>358 | 228=>388 | 229=>389 | n=>n,fun | n=>n⟩
theorem Tryz.lays190:Go.Proofs.Lays.n190 Tryz.prog Tryz.lays190_ren:={
 mixed:=by kernel_rfl
 f125:=Tryz.func137.trans (congrArg some (by kernel_rfl))
 f128:=Tryz.func176.trans (congrArg some (by kernel_rfl))
 f129:=Tryz.func177.trans (congrArg some (by kernel_rfl))
 f190:=Tryz.func87.trans (congrArg some (by kernel_rfl))
 f258:=Tryz.func136.trans (congrArg some (by kernel_rfl))
 f302:=Tryz.func167.trans (congrArg some (by kernel_rfl))
 f303:=Tryz.func168.trans (congrArg some (by kernel_rfl))
 f304:=Tryz.func169.trans (congrArg some (by kernel_rfl))
 f305:=Tryz.func170.trans (congrArg some (by kernel_rfl))
 f306:=Tryz.func171.trans (congrArg some (by kernel_rfl))
 f307:=Tryz.func172.trans (congrArg some (by kernel_rfl))
 f308:=Tryz.func173.trans (congrArg some (by kernel_rfl))
 f309:=Tryz.func174.trans (congrArg some (by kernel_rfl))
 f310:=Tryz.func175.trans (congrArg some (by kernel_rfl))
 f329:=Tryz.func214.trans (congrArg some (by kernel_rfl))
 f330:=Tryz.func215.trans (congrArg some (by kernel_rfl))
 f333:=Tryz.func213.trans (congrArg some (by kernel_rfl))
 f334:=Tryz.func216.trans (congrArg some (by kernel_rfl))
 f335:=Tryz.func217.trans (congrArg some (by kernel_rfl))
 f336:=Tryz.func218.trans (congrArg some (by kernel_rfl))
 f344:=Tryz.func237.trans (congrArg some (by kernel_rfl))
 t0:=Tryz.underlying0
 a0:=Tryz.isAgg0
 z0:=Tryz.sizeOf0
 v0:=Tryz.zeroValue0
 t3:=Tryz.underlying3
 a3:=Tryz.isAgg3
 z3:=Tryz.sizeOf3
 v3:=Tryz.zeroValue3
 t4:=Tryz.underlying4
 a4:=Tryz.isAgg4
 z4:=Tryz.sizeOf4
 v4:=Tryz.zeroValue4
 t5:=Tryz.underlying5
 a5:=Tryz.isAgg5
 z5:=Tryz.sizeOf5
 v5:=Tryz.zeroValue5
 t9:=Tryz.underlying9
 a9:=Tryz.isAgg9
 z9:=Tryz.sizeOf9
 v9:=Tryz.zeroValue9
 t31:=Tryz.underlying52
 a31:=Tryz.isAgg52
 z31:=Tryz.sizeOf52
 v31:=Tryz.zeroValue52
 t46:=Tryz.underlying255
 a46:=Tryz.isAgg255
 z46:=Tryz.sizeOf255
 v46:=Tryz.zeroValue255
 t51:=Tryz.underlying256
 a51:=Tryz.isAgg256
 z51:=Tryz.sizeOf256
 v51:=Tryz.zeroValue256
 t53:=Tryz.underlying180
 a53:=Tryz.isAgg180
 z53:=Tryz.sizeOf180
 v53:=Tryz.zeroValue180
 t131:=Tryz.underlying196
 a131:=Tryz.isAgg196
 z131:=Tryz.sizeOf196
 v131:=Tryz.zeroValue196
 t182:=Tryz.underlying312
 a182:=Tryz.isAgg312
 z182:=Tryz.sizeOf312
 v182:=Tryz.zeroValue312
 t183:=Tryz.underlying313
 a183:=Tryz.isAgg313
 z183:=Tryz.sizeOf313
 v183:=Tryz.zeroValue313
 t218:=Tryz.underlying354
 a218:=Tryz.isAgg354
 z218:=Tryz.sizeOf354
 v218:=Tryz.zeroValue354
 t222:=Tryz.underlying358
 a222:=Tryz.isAgg358
 z222:=Tryz.sizeOf358
 v222:=Tryz.zeroValue358
 t228:=Tryz.underlying388
 a228:=Tryz.isAgg388
 z228:=Tryz.sizeOf388
 v228:=Tryz.zeroValue388
 t229:=Tryz.underlying389
 a229:=Tryz.isAgg389
 z229:=Tryz.sizeOf389
 v229:=Tryz.zeroValue389 }
open Go.Sort Go.RowKit in
theorem Tryz.slices_Sort_string(blk off cap:Nat)(ss:List (List UInt8))(w:World)(hH:Holds encStr w blk off ss.toArray)(hblk:blk < w.heap.size)(hsz:ss.length < 4611686018427387904) :
  Calls Tryz.prog 87 #[.slice (some ⟨blk,off,none⟩) ss.length cap] w fun e w' =>
   e=.returned (.tuple #[])∧∃ n os,w'=grow (putRow encStr (Sort.ahead w n) blk off (ss.mergeSort fun x y=>decide (x≤y)).toArray) os:=Any.slices_Sort_string Tryz.lays190 blk off cap ss w hH hblk hsz
open Go.RowKit Go.Sort in
theorem Tryz.slices_Sort_string_none(p:Option Addr)(cap:Nat)(w:World) :
  Calls Tryz.prog 87 #[.slice p 0 cap] w fun e w'=>e=.returned (.tuple #[])∧w'=w:=Any.slices_Sort_string_none Tryz.lays190 p cap w
end
end Go.Proofs
