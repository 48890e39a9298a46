/- Parts of the proof, one behind the other: ShelfS. Each is under no condition but those that it states. -/
import Derived.Test.YtepbencaoiompaaGreatDoorPa5
import Derived.Shelf.Sort.Plain
import Derived.Shelf.Slices.In.SortNone
namespace Go.Proofs
set_option linter.unusedSimpArgs false
set_option linter.unusedVariables false
set_option maxRecDepth 100000
set_option maxHeartbeats 16000000
section
open Go.Shelf
def Tryz.lays190_ren:Go.Shelf.Ren:=⟨fun | 190=>41 | 125=>71 | 258=>70 | 128=>98 | 129=>99 | 302=>89 | 303=>90 | 304=>91 | 305=>92 | 306=>93 | 307=>94 | 308=>95 | 309=>96 | 310=>97 | 333=>125 | 329=>126 | 330=>127 | 334=>128 | 335=>129 | 336=>130 | 344=>143 | n=>n,fun | 31=>22 | 9=>9 | 3=>3 | 46=>121 | 0=>0 | 51=>151 | 53=>154 | 4=>4 | 183=>174 | 182=>173 | 131=>178 | 5=>5 | 218=>218 | 222=>222 | 228=>235 | 229=>236 | n=>n,fun | n=>n⟩
theorem Tryz.lays190:Go.Proofs.Lays.n190 Tryz.prog Tryz.lays190_ren:={
 mixed:=by kernel_rfl
 f125:=Tryz.func71.trans (congrArg some (by kernel_rfl))
 f128:=Tryz.func98.trans (congrArg some (by kernel_rfl))
 f129:=Tryz.func99.trans (congrArg some (by kernel_rfl))
 f190:=Tryz.func41.trans (congrArg some (by kernel_rfl))
 f258:=Tryz.func70.trans (congrArg some (by kernel_rfl))
 f302:=Tryz.func89.trans (congrArg some (by kernel_rfl))
 f303:=Tryz.func90.trans (congrArg some (by kernel_rfl))
 f304:=Tryz.func91.trans (congrArg some (by kernel_rfl))
 f305:=Tryz.func92.trans (congrArg some (by kernel_rfl))
 f306:=Tryz.func93.trans (congrArg some (by kernel_rfl))
 f307:=Tryz.func94.trans (congrArg some (by kernel_rfl))
 f308:=Tryz.func95.trans (congrArg some (by kernel_rfl))
 f309:=Tryz.func96.trans (congrArg some (by kernel_rfl))
 f310:=Tryz.func97.trans (congrArg some (by kernel_rfl))
 f329:=Tryz.func126.trans (congrArg some (by kernel_rfl))
 f330:=Tryz.func127.trans (congrArg some (by kernel_rfl))
 f333:=Tryz.func125.trans (congrArg some (by kernel_rfl))
 f334:=Tryz.func128.trans (congrArg some (by kernel_rfl))
 f335:=Tryz.func129.trans (congrArg some (by kernel_rfl))
 f336:=Tryz.func130.trans (congrArg some (by kernel_rfl))
 f344:=Tryz.func143.trans (congrArg some (by kernel_rfl))
 t0:=Tryz.underlying0
 a0:=Tryz.isAgg0
 z0:=Tryz.sizeOf0
 v0:=Tryz.zeroValue0
 t3:=Tryz.underlying3
 a3:=Tryz.isAgg3
 z3:=Tryz.sizeOf3
 v3:=Tryz.zeroValue3
 t4:=Tryz.underlying4
 a4:=Tryz.isAgg4
 z4:=Tryz.sizeOf4
 v4:=Tryz.zeroValue4
 t5:=Tryz.underlying5
 a5:=Tryz.isAgg5
 z5:=Tryz.sizeOf5
 v5:=Tryz.zeroValue5
 t9:=Tryz.underlying9
 a9:=Tryz.isAgg9
 z9:=Tryz.sizeOf9
 v9:=Tryz.zeroValue9
 t31:=Tryz.underlying22
 a31:=Tryz.isAgg22
 z31:=Tryz.sizeOf22
 v31:=Tryz.zeroValue22
 t46:=Tryz.underlying121
 a46:=Tryz.isAgg121
 z46:=Tryz.sizeOf121
 v46:=Tryz.zeroValue121
 t51:=Tryz.underlying151
 a51:=Tryz.isAgg151
 z51:=Tryz.sizeOf151
 v51:=Tryz.zeroValue151
 t53:=Tryz.underlying154
 a53:=Tryz.isAgg154
 z53:=Tryz.sizeOf154
 v53:=Tryz.zeroValue154
 t131:=Tryz.underlying178
 a131:=Tryz.isAgg178
 z131:=Tryz.sizeOf178
 v131:=Tryz.zeroValue178
 t182:=Tryz.underlying173
 a182:=Tryz.isAgg173
 z182:=Tryz.sizeOf173
 v182:=Tryz.zeroValue173
 t183:=Tryz.underlying174
 a183:=Tryz.isAgg174
 z183:=Tryz.sizeOf174
 v183:=Tryz.zeroValue174
 t218:=Tryz.underlying218
 a218:=Tryz.isAgg218
 z218:=Tryz.sizeOf218
 v218:=Tryz.zeroValue218
 t222:=Tryz.underlying222
 a222:=Tryz.isAgg222
 z222:=Tryz.sizeOf222
 v222:=Tryz.zeroValue222
 t228:=Tryz.underlying235
 a228:=Tryz.isAgg235
 z228:=Tryz.sizeOf235
 v228:=Tryz.zeroValue235
 t229:=Tryz.underlying236
 a229:=Tryz.isAgg236
 z229:=Tryz.sizeOf236
 v229:=Tryz.zeroValue236 }
open Go.Sort Go.RowKit in
theorem Tryz.slices_Sort_string(blk off cap:Nat)(ss:List (List UInt8))(w:World)(hH:Holds encStr w blk off ss.toArray)(hblk:blk < w.heap.size)(hsz:ss.length < 4611686018427387904) :
  Calls Tryz.prog 41 #[.slice (some ⟨blk,off,none⟩) ss.length cap] w fun e w' =>
   e=.returned (.tuple #[])∧∃ n os,w'=grow (putRow encStr (Sort.ahead w n) blk off (ss.mergeSort fun x y=>decide (x≤y)).toArray) os:=Any.slices_Sort_string Tryz.lays190 blk off cap ss w hH hblk hsz
open Go.RowKit Go.Sort in
theorem Tryz.slices_Sort_string_none(p:Option Addr)(cap:Nat)(w:World) :
  Calls Tryz.prog 41 #[.slice p 0 cap] w fun e w'=>e=.returned (.tuple #[])∧w'=w:=Any.slices_Sort_string_none Tryz.lays190 p cap w
end
end Go.Proofs
