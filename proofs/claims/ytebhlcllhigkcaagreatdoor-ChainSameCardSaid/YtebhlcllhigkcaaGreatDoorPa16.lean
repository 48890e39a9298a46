/- Parts of the proof, one behind the other: ShelfS. Each is under no condition but those that it states. -/
import Derived.Test.YtebhlcllhigkcaaGreatDoorPa5
import Derived.Shelf.Sort.Plain
import Derived.Shelf.Slices.In.SortNone
namespace Go.Proofs
set_option linter.unusedSimpArgs false
set_option linter.unusedVariables false
set_option maxRecDepth 100000
set_option maxHeartbeats 16000000
section
open Go.Shelf
def Tryz.lays190_ren:Go.Shelf.Ren:=⟨fun | 190=>112 | 125=>157 | 258=>156 | 128=>197 | 129=>198 | 302=>188 | 303=>189 | 304=>190 | 305=>191 | 306=>192 | 307=>193 | 308=>194 | 309=>195 | 310=>196 | 333=>224 | 329=>225 | 330=>226 | 334=>227 | 335=>228 | 336=>229 | 344=>240 | n=>n,fun | 31=>48 | 9=>9 | 3=>3 | 46=>264 | 0=>0 | 51=>258 | 53=>171 | 4=>4 | 183=>338 | 182=>337 | 131=>194 | 5=>5 | 218=>365 | 222=>369 | 228=>389 | 229=>390 | n=>n,fun | n=>n⟩
theorem Tryz.lays190:Go.Proofs.Lays.n190 Tryz.prog Tryz.lays190_ren:={
 mixed:=by kernel_rfl
 f125:=Tryz.func157.trans (congrArg some (by kernel_rfl))
 f128:=Tryz.func197.trans (congrArg some (by kernel_rfl))
 f129:=Tryz.func198.trans (congrArg some (by kernel_rfl))
 f190:=Tryz.func112.trans (congrArg some (by kernel_rfl))
 f258:=Tryz.func156.trans (congrArg some (by kernel_rfl))
 f302:=Tryz.func188.trans (congrArg some (by kernel_rfl))
 f303:=Tryz.func189.trans (congrArg some (by kernel_rfl))
 f304:=Tryz.func190.trans (congrArg some (by kernel_rfl))
 f305:=Tryz.func191.trans (congrArg some (by kernel_rfl))
 f306:=Tryz.func192.trans (congrArg some (by kernel_rfl))
 f307:=Tryz.func193.trans (congrArg some (by kernel_rfl))
 f308:=Tryz.func194.trans (congrArg some (by kernel_rfl))
 f309:=Tryz.func195.trans (congrArg some (by kernel_rfl))
 f310:=Tryz.func196.trans (congrArg some (by kernel_rfl))
 f329:=Tryz.func225.trans (congrArg some (by kernel_rfl))
 f330:=Tryz.func226.trans (congrArg some (by kernel_rfl))
 f333:=Tryz.func224.trans (congrArg some (by kernel_rfl))
 f334:=Tryz.func227.trans (congrArg some (by kernel_rfl))
 f335:=Tryz.func228.trans (congrArg some (by kernel_rfl))
 f336:=Tryz.func229.trans (congrArg some (by kernel_rfl))
 f344:=Tryz.func240.trans (congrArg some (by kernel_rfl))
 t0:=Tryz.underlying0
 a0:=Tryz.isAgg0
 z0:=Tryz.sizeOf0
 v0:=Tryz.zeroValue0
 t3:=Tryz.underlying3
 a3:=Tryz.isAgg3
 z3:=Tryz.sizeOf3
 v3:=Tryz.zeroValue3
 t4:=Tryz.underlying4
 a4:=Tryz.isAgg4
 z4:=Tryz.sizeOf4
 v4:=Tryz.zeroValue4
 t5:=Tryz.underlying5
 a5:=Tryz.isAgg5
 z5:=Tryz.sizeOf5
 v5:=Tryz.zeroValue5
 t9:=Tryz.underlying9
 a9:=Tryz.isAgg9
 z9:=Tryz.sizeOf9
 v9:=Tryz.zeroValue9
 t31:=Tryz.underlying48
 a31:=Tryz.isAgg48
 z31:=Tryz.sizeOf48
 v31:=Tryz.zeroValue48
 t46:=Tryz.underlying264
 a46:=Tryz.isAgg264
 z46:=Tryz.sizeOf264
 v46:=Tryz.zeroValue264
 t51:=Tryz.underlying258
 a51:=Tryz.isAgg258
 z51:=Tryz.sizeOf258
 v51:=Tryz.zeroValue258
 t53:=Tryz.underlying171
 a53:=Tryz.isAgg171
 z53:=Tryz.sizeOf171
 v53:=Tryz.zeroValue171
 t131:=Tryz.underlying194
 a131:=Tryz.isAgg194
 z131:=Tryz.sizeOf194
 v131:=Tryz.zeroValue194
 t182:=Tryz.underlying337
 a182:=Tryz.isAgg337
 z182:=Tryz.sizeOf337
 v182:=Tryz.zeroValue337
 t183:=Tryz.underlying338
 a183:=Tryz.isAgg338
 z183:=Tryz.sizeOf338
 v183:=Tryz.zeroValue338
 t218:=Tryz.underlying365
 a218:=Tryz.isAgg365
 z218:=Tryz.sizeOf365
 v218:=Tryz.zeroValue365
 t222:=Tryz.underlying369
 a222:=Tryz.isAgg369
 z222:=Tryz.sizeOf369
 v222:=Tryz.zeroValue369
 t228:=Tryz.underlying389
 a228:=Tryz.isAgg389
 z228:=Tryz.sizeOf389
 v228:=Tryz.zeroValue389
 t229:=Tryz.underlying390
 a229:=Tryz.isAgg390
 z229:=Tryz.sizeOf390
 v229:=Tryz.zeroValue390 }
open Go.Sort Go.RowKit in
theorem Tryz.slices_Sort_string(blk off cap:Nat)(ss:List (List UInt8))(w:World)(hH:Holds encStr w blk off ss.toArray)(hblk:blk < w.heap.size)(hsz:ss.length < 4611686018427387904) :
  Calls Tryz.prog 112 #[.slice (some ⟨blk,off,none⟩) ss.length cap] w fun e w' =>
   e=.returned (.tuple #[])∧∃ n os,w'=grow (putRow encStr (Sort.ahead w n) blk off (ss.mergeSort fun x y=>decide (x≤y)).toArray) os:=Any.slices_Sort_string Tryz.lays190 blk off cap ss w hH hblk hsz
open Go.RowKit Go.Sort in
theorem Tryz.slices_Sort_string_none(p:Option Addr)(cap:Nat)(w:World) :
  Calls Tryz.prog 112 #[.slice p 0 cap] w fun e w'=>e=.returned (.tuple #[])∧w'=w:=Any.slices_Sort_string_none Tryz.lays190 p cap w
end
end Go.Proofs
