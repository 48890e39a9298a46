/- Parts of the proof, one behind the other: ShelfS. Each is under no condition but those that it states. -/
import Derived.Test.YtfjmkebdhojanaaGreatDoorPt5
import Derived.Shelf.Sort.Plain
import Derived.Shelf.Slices.In.SortNone
namespace Go.Proofs
set_option linter.unusedSimpArgs false
set_option linter.unusedVariables false
set_option maxRecDepth 100000
set_option maxHeartbeats 16000000
section
open Go.Shelf
def Tryz.lays190_ren:Go.Shelf.Ren:=⟨fun | 190=>25 | 125=>53 | 258=>52 | 128=>99 | 129=>100 | 302=>90 | 303=>91 | 304=>92 | 305=>93 | 306=>94 | 307=>95 | 308=>96 | 309=>97 | 310=>98 | 333=>123 | 329=>124 | 330=>125 | 334=>126 | 335=>127 | 336=>128 | 344=>151 | n=>n,fun | 31=>31 | 9=>9 | 3=>3 | 46=>110 | 0=>0 | 51=>119 | 53=>184 | 4=>4 | 183=>176 | 182=>175 | 131=>180 | 5=>5 | 218=>204 | 222=>208 | 228=>226 | 229=>227 | n=>n,fun | n=>n⟩
theorem Tryz.lays190:Go.Proofs.Lays.n190 Tryz.prog Tryz.lays190_ren:={
 mixed:=by kernel_rfl
 f125:=Tryz.func53.trans (congrArg some (by kernel_rfl))
 f128:=Tryz.func99.trans (congrArg some (by kernel_rfl))
 f129:=Tryz.func100.trans (congrArg some (by kernel_rfl))
 f190:=Tryz.func25.trans (congrArg some (by kernel_rfl))
 f258:=Tryz.func52.trans (congrArg some (by kernel_rfl))
 f302:=Tryz.func90.trans (congrArg some (by kernel_rfl))
 f303:=Tryz.func91.trans (congrArg some (by kernel_rfl))
 f304:=Tryz.func92.trans (congrArg some (by kernel_rfl))
 f305:=Tryz.func93.trans (congrArg some (by kernel_rfl))
 f306:=Tryz.func94.trans (congrArg some (by kernel_rfl))
 f307:=Tryz.func95.trans (congrArg some (by kernel_rfl))
 f308:=Tryz.func96.trans (congrArg some (by kernel_rfl))
 f309:=Tryz.func97.trans (congrArg some (by kernel_rfl))
 f310:=Tryz.func98.trans (congrArg some (by kernel_rfl))
 f329:=Tryz.func124.trans (congrArg some (by kernel_rfl))
 f330:=Tryz.func125.trans (congrArg some (by kernel_rfl))
 f333:=Tryz.func123.trans (congrArg some (by kernel_rfl))
 f334:=Tryz.func126.trans (congrArg some (by kernel_rfl))
 f335:=Tryz.func127.trans (congrArg some (by kernel_rfl))
 f336:=Tryz.func128.trans (congrArg some (by kernel_rfl))
 f344:=Tryz.func151.trans (congrArg some (by kernel_rfl))
 t0:=Tryz.underlying0
 a0:=Tryz.isAgg0
 z0:=Tryz.sizeOf0
 v0:=Tryz.zeroValue0
 t3:=Tryz.underlying3
 a3:=Tryz.isAgg3
 z3:=Tryz.sizeOf3
 v3:=Tryz.zeroValue3
 t4:=Tryz.underlying4
 a4:=Tryz.isAgg4
 z4:=Tryz.sizeOf4
 v4:=Tryz.zeroValue4
 t5:=Tryz.underlying5
 a5:=Tryz.isAgg5
 z5:=Tryz.sizeOf5
 v5:=Tryz.zeroValue5
 t9:=Tryz.underlying9
 a9:=Tryz.isAgg9
 z9:=Tryz.sizeOf9
 v9:=Tryz.zeroValue9
 t31:=Tryz.underlying31
 a31:=Tryz.isAgg31
 z31:=Tryz.sizeOf31
 v31:=Tryz.zeroValue31
 t46:=Tryz.underlying110
 a46:=Tryz.isAgg110
 z46:=Tryz.sizeOf110
 v46:=Tryz.zeroValue110
 t51:=Tryz.underlying119
 a51:=Tryz.isAgg119
 z51:=Tryz.sizeOf119
 v51:=Tryz.zeroValue119
 t53:=Tryz.underlying184
 a53:=Tryz.isAgg184
 z53:=Tryz.sizeOf184
 v53:=Tryz.zeroValue184
 t131:=Tryz.underlying180
 a131:=Tryz.isAgg180
 z131:=Tryz.sizeOf180
 v131:=Tryz.zeroValue180
 t182:=Tryz.underlying175
 a182:=Tryz.isAgg175
 z182:=Tryz.sizeOf175
 v182:=Tryz.zeroValue175
 t183:=Tryz.underlying176
 a183:=Tryz.isAgg176
 z183:=Tryz.sizeOf176
 v183:=Tryz.zeroValue176
 t218:=Tryz.underlying204
 a218:=Tryz.isAgg204
 z218:=Tryz.sizeOf204
 v218:=Tryz.zeroValue204
 t222:=Tryz.underlying208
 a222:=Tryz.isAgg208
 z222:=Tryz.sizeOf208
 v222:=Tryz.zeroValue208
 t228:=Tryz.underlying226
 a228:=Tryz.isAgg226
 z228:=Tryz.sizeOf226
 v228:=Tryz.zeroValue226
 t229:=Tryz.underlying227
 a229:=Tryz.isAgg227
 z229:=Tryz.sizeOf227
 v229:=Tryz.zeroValue227 }
open Go.Sort Go.RowKit in
theorem Tryz.slices_Sort_string(blk off cap:Nat)(ss:List (List UInt8))(w:World)(hH:Holds encStr w blk off ss.toArray)(hblk:blk < w.heap.size)(hsz:ss.length < 4611686018427387904) :
  Calls Tryz.prog 25 #[.slice (some ⟨blk,off,none⟩) ss.length cap] w fun e w' =>
   e=.returned (.tuple #[])∧∃ n os,w'=grow (putRow encStr (Sort.ahead w n) blk off (ss.mergeSort fun x y=>decide (x≤y)).toArray) os:=Any.slices_Sort_string Tryz.lays190 blk off cap ss w hH hblk hsz
open Go.RowKit Go.Sort in
theorem Tryz.slices_Sort_string_none(p:Option Addr)(cap:Nat)(w:World) :
  Calls Tryz.prog 25 #[.slice p 0 cap] w fun e w'=>e=.returned (.tuple #[])∧w'=w:=Any.slices_Sort_string_none Tryz.lays190 p cap w
end
end Go.Proofs
