/- Parts of the proof, one behind the other: ShelfS. Each is under no condition but those that it states. -/
import Derived.Test.YtgmmpefjadjajaaGreatDoorPa5
import Derived.Shelf.Sort.Plain
import Derived.Shelf.Slices.In.SortNone
namespace Go.Proofs
set_option linter.unusedSimpArgs false
set_option linter.unusedVariables false
set_option maxRecDepth 100000
set_option maxHeartbeats 16000000
section
open Go.Shelf
def Tryz.lays190_ren:Go.Shelf.Ren:=⟨λ| 190=>113 | 125=>158 | 258=>157 | 128=>198 | 129=>199 | 302=>189 | 303=>190 | 304=>191 | 305=>192 | 306=>193 | 307=>194 | 308=>195 | 309=>196 | 310=>197 | 333=>225 | 329=>226 | 330=>227 | 334=>228 | 335=>229 | 336=>230 | 344=>241 | n=>n,λ| 31=>51 | 9=>9 | 3=>3 | 46=>266 | 0=>0 | 51=>260 | 53=>166 | 4=>4 | 183=>339 | 182=>338 | 131=>196 | 5=>5 | 218=>366 | 222=>370 | 228=>390 | 229=>391 | n=>n,λ| n=>n⟩
theorem Tryz.lays190:Go.Proofs.Lays.n190 Tryz.prog Tryz.lays190_ren:={
 mixed:=by kernel_rfl
 f125:=Tryz.func158.trans (congrArg some (by kernel_rfl))
 f128:=Tryz.func198.trans (congrArg some (by kernel_rfl))
 f129:=Tryz.func199.trans (congrArg some (by kernel_rfl))
 f190:=Tryz.func113.trans (congrArg some (by kernel_rfl))
 f258:=Tryz.func157.trans (congrArg some (by kernel_rfl))
 f302:=Tryz.func189.trans (congrArg some (by kernel_rfl))
 f303:=Tryz.func190.trans (congrArg some (by kernel_rfl))
 f304:=Tryz.func191.trans (congrArg some (by kernel_rfl))
 f305:=Tryz.func192.trans (congrArg some (by kernel_rfl))
 f306:=Tryz.func193.trans (congrArg some (by kernel_rfl))
 f307:=Tryz.func194.trans (congrArg some (by kernel_rfl))
 f308:=Tryz.func195.trans (congrArg some (by kernel_rfl))
 f309:=Tryz.func196.trans (congrArg some (by kernel_rfl))
 f310:=Tryz.func197.trans (congrArg some (by kernel_rfl))
 f329:=Tryz.func226.trans (congrArg some (by kernel_rfl))
 f330:=Tryz.func227.trans (congrArg some (by kernel_rfl))
 f333:=Tryz.func225.trans (congrArg some (by kernel_rfl))
 f334:=Tryz.func228.trans (congrArg some (by kernel_rfl))
 f335:=Tryz.func229.trans (congrArg some (by kernel_rfl))
 f336:=Tryz.func230.trans (congrArg some (by kernel_rfl))
 f344:=Tryz.func241.trans (congrArg some (by kernel_rfl))
 t0:=Tryz.underlying0
 a0:=Tryz.isAgg0
 z0:=Tryz.sizeOf0
 v0:=Tryz.zeroValue0
 t3:=Tryz.underlying3
 a3:=Tryz.isAgg3
 z3:=Tryz.sizeOf3
 v3:=Tryz.zeroValue3
 t4:=Tryz.underlying4
 a4:=Tryz.isAgg4
 z4:=Tryz.sizeOf4
 v4:=Tryz.zeroValue4
 t5:=Tryz.underlying5
 a5:=Tryz.isAgg5
 z5:=Tryz.sizeOf5
 v5:=Tryz.zeroValue5
 t9:=Tryz.underlying9
 a9:=Tryz.isAgg9
 z9:=Tryz.sizeOf9
 v9:=Tryz.zeroValue9
 t31:=Tryz.underlying51
 a31:=Tryz.isAgg51
 z31:=Tryz.sizeOf51
 v31:=Tryz.zeroValue51
 t46:=Tryz.underlying266
 a46:=Tryz.isAgg266
 z46:=Tryz.sizeOf266
 v46:=Tryz.zeroValue266
 t51:=Tryz.underlying260
 a51:=Tryz.isAgg260
 z51:=Tryz.sizeOf260
 v51:=Tryz.zeroValue260
 t53:=Tryz.underlying166
 a53:=Tryz.isAgg166
 z53:=Tryz.sizeOf166
 v53:=Tryz.zeroValue166
 t131:=Tryz.underlying196
 a131:=Tryz.isAgg196
 z131:=Tryz.sizeOf196
 v131:=Tryz.zeroValue196
 t182:=Tryz.underlying338
 a182:=Tryz.isAgg338
 z182:=Tryz.sizeOf338
 v182:=Tryz.zeroValue338
 t183:=Tryz.underlying339
 a183:=Tryz.isAgg339
 z183:=Tryz.sizeOf339
 v183:=Tryz.zeroValue339
 t218:=Tryz.underlying366
 a218:=Tryz.isAgg366
 z218:=Tryz.sizeOf366
 v218:=Tryz.zeroValue366
 t222:=Tryz.underlying370
 a222:=Tryz.isAgg370
 z222:=Tryz.sizeOf370
 v222:=Tryz.zeroValue370
 t228:=Tryz.underlying390
 a228:=Tryz.isAgg390
 z228:=Tryz.sizeOf390
 v228:=Tryz.zeroValue390
 t229:=Tryz.underlying391
 a229:=Tryz.isAgg391
 z229:=Tryz.sizeOf391
 v229:=Tryz.zeroValue391 }
open Go.Sort Go.RowKit in
theorem Tryz.slices_Sort_string(blk off cap:Nat)(ss:List (List UInt8))(w:World)(hH:Holds encStr w blk off ss.toArray)(hblk:blk < w.heap.size)(hsz:ss.length < 4611686018427387904) :
  Calls Tryz.prog 113 #[.slice (some ⟨blk,off,none⟩) ss.length cap] w λe w' =>
   e=.returned (.tuple #[])∧∃ n os,w'=grow (putRow encStr (Sort.ahead w n) blk off (ss.mergeSort λx y=>decide (x≤y)).toArray) os:=Any.slices_Sort_string Tryz.lays190 blk off cap ss w hH hblk hsz
open Go.RowKit Go.Sort in
theorem Tryz.slices_Sort_string_none(p:Option Addr)(cap:Nat)(w:World) :
  Calls Tryz.prog 113 #[.slice p 0 cap] w λe w'=>e=.returned (.tuple #[])∧w'=w:=Any.slices_Sort_string_none Tryz.lays190 p cap w
end
end Go.Proofs
