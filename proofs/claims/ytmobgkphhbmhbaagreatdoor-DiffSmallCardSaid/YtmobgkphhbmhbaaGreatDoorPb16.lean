/- Parts of the proof, one behind the other: ShelfS. Each is under no condition but those that it states. -/
import Derived.Test.YtmobgkphhbmhbaaGreatDoorPb5
import Derived.Shelf.Sort.Plain
import Derived.Shelf.Slices.In.SortNone
namespace Go.Proofs
set_option linter.unusedSimpArgs false
set_option linter.unusedVariables false
set_option maxRecDepth 100000
set_option maxHeartbeats 16000000
section
open Go.Shelf
def Tryz.lays190_ren:Go.Shelf.Ren:=⟨fun | 190=>60 | 125=>99 | 258=>98 | 128=>140 | 129=>141 | 302=>131 | 303=>132 | 304=>133 | 305=>134 | 306=>135 | 307=>136 | 308=>137 | 309=>138 | 310=>139 | 333=>168 | 329=>169 | 330=>170 | 334=>171 | 335=>172 | 336=>173 | 344=>189 | n=>n,fun | 31=>22 | 9=>9 | 3=>3 | 46=>146 | 0=>0 | 51=>167 | 53=>187 | 4=>4 | 183=>206 | 182=>205 | 131=>210 | 5=>5 | 218=>246 | 222=>250 | 228=>264 | 229=>265 | n=>n,fun | n=>n⟩
theorem Tryz.lays190:Go.Proofs.Lays.n190 Tryz.prog Tryz.lays190_ren:={
 mixed:=by kernel_rfl
 f125:=Tryz.func99.trans (congrArg some (by kernel_rfl))
 f128:=Tryz.func140.trans (congrArg some (by kernel_rfl))
 f129:=Tryz.func141.trans (congrArg some (by kernel_rfl))
 f190:=Tryz.func60.trans (congrArg some (by kernel_rfl))
 f258:=Tryz.func98.trans (congrArg some (by kernel_rfl))
 f302:=Tryz.func131.trans (congrArg some (by kernel_rfl))
 f303:=Tryz.func132.trans (congrArg some (by kernel_rfl))
 f304:=Tryz.func133.trans (congrArg some (by kernel_rfl))
 f305:=Tryz.func134.trans (congrArg some (by kernel_rfl))
 f306:=Tryz.func135.trans (congrArg some (by kernel_rfl))
 f307:=Tryz.func136.trans (congrArg some (by kernel_rfl))
 f308:=Tryz.func137.trans (congrArg some (by kernel_rfl))
 f309:=Tryz.func138.trans (congrArg some (by kernel_rfl))
 f310:=Tryz.func139.trans (congrArg some (by kernel_rfl))
 f329:=Tryz.func169.trans (congrArg some (by kernel_rfl))
 f330:=Tryz.func170.trans (congrArg some (by kernel_rfl))
 f333:=Tryz.func168.trans (congrArg some (by kernel_rfl))
 f334:=Tryz.func171.trans (congrArg some (by kernel_rfl))
 f335:=Tryz.func172.trans (congrArg some (by kernel_rfl))
 f336:=Tryz.func173.trans (congrArg some (by kernel_rfl))
 f344:=Tryz.func189.trans (congrArg some (by kernel_rfl))
 t0:=Tryz.underlying0
 a0:=Tryz.isAgg0
 z0:=Tryz.sizeOf0
 v0:=Tryz.zeroValue0
 t3:=Tryz.underlying3
 a3:=Tryz.isAgg3
 z3:=Tryz.sizeOf3
 v3:=Tryz.zeroValue3
 t4:=Tryz.underlying4
 a4:=Tryz.isAgg4
 z4:=Tryz.sizeOf4
 v4:=Tryz.zeroValue4
 t5:=Tryz.underlying5
 a5:=Tryz.isAgg5
 z5:=Tryz.sizeOf5
 v5:=Tryz.zeroValue5
 t9:=Tryz.underlying9
 a9:=Tryz.isAgg9
 z9:=Tryz.sizeOf9
 v9:=Tryz.zeroValue9
 t31:=Tryz.underlying22
 a31:=Tryz.isAgg22
 z31:=Tryz.sizeOf22
 v31:=Tryz.zeroValue22
 t46:=Tryz.underlying146
 a46:=Tryz.isAgg146
 z46:=Tryz.sizeOf146
 v46:=Tryz.zeroValue146
 t51:=Tryz.underlying167
 a51:=Tryz.isAgg167
 z51:=Tryz.sizeOf167
 v51:=Tryz.zeroValue167
 t53:=Tryz.underlying187
 a53:=Tryz.isAgg187
 z53:=Tryz.sizeOf187
 v53:=Tryz.zeroValue187
 t131:=Tryz.underlying210
 a131:=Tryz.isAgg210
 z131:=Tryz.sizeOf210
 v131:=Tryz.zeroValue210
 t182:=Tryz.underlying205
 a182:=Tryz.isAgg205
 z182:=Tryz.sizeOf205
 v182:=Tryz.zeroValue205
 t183:=Tryz.underlying206
 a183:=Tryz.isAgg206
 z183:=Tryz.sizeOf206
 v183:=Tryz.zeroValue206
 t218:=Tryz.underlying246
 a218:=Tryz.isAgg246
 z218:=Tryz.sizeOf246
 v218:=Tryz.zeroValue246
 t222:=Tryz.underlying250
 a222:=Tryz.isAgg250
 z222:=Tryz.sizeOf250
 v222:=Tryz.zeroValue250
 t228:=Tryz.underlying264
 a228:=Tryz.isAgg264
 z228:=Tryz.sizeOf264
 v228:=Tryz.zeroValue264
 t229:=Tryz.underlying265
 a229:=Tryz.isAgg265
 z229:=Tryz.sizeOf265
 v229:=Tryz.zeroValue265 }
open Go.Sort Go.RowKit in
theorem Tryz.slices_Sort_string(blk off cap:Nat)(ss:List (List UInt8))(w:World)(hH:Holds encStr w blk off ss.toArray)(hblk:blk < w.heap.size)(hsz:ss.length < 4611686018427387904) :
  Calls Tryz.prog 60 #[.slice (some ⟨blk,off,none⟩) ss.length cap] w fun e w' =>
   e=.returned (.tuple #[])∧∃ n os,w'=grow (putRow encStr (Sort.ahead w n) blk off (ss.mergeSort fun x y=>decide (x≤y)).toArray) os:=Any.slices_Sort_string Tryz.lays190 blk off cap ss w hH hblk hsz
open Go.RowKit Go.Sort in
theorem Tryz.slices_Sort_string_none(p:Option Addr)(cap:Nat)(w:World) :
  Calls Tryz.prog 60 #[.slice p 0 cap] w fun e w'=>e=.returned (.tuple #[])∧w'=w:=Any.slices_Sort_string_none Tryz.lays190 p cap w
end
end Go.Proofs
