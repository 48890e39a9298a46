/- Parts of the proof, one behind the other: ShelfS. Each is under no condition but those that it states. -/
import Derived.Test.YtcpnjmcipainpaaGreatDoorPr5
import Derived.Shelf.Sort.Plain
import Derived.Shelf.Slices.In.SortNone
namespace Go.Proofs
set_option linter.unusedSimpArgs false
set_option linter.unusedVariables false
set_option maxRecDepth 100000
set_option maxHeartbeats 16000000
section
open Go.Shelf
def Tryz.lays190_ren:Go.Shelf.Ren:=⟨fun | 190=>85 | 125=>138 | 258=>137 | 128=>182 | 129=>183 | 302=>173 | 303=>174 | 304=>175 | 305=>176 | 306=>177 | 307=>178 | 308=>179 | 309=>180 | 310=>181 | 333=>218 | 329=>219 | 330=>220 | 334=>221 | 335=>222 | 336=>223 | 344=>243 | n=>n,fun | 31=>34 | 9=>9 | 3=>3 | 46=>199 | 0=>0 | 51=>206 | 53=>237 | 4=>4 | 183=>243 | 182=>242 | 131=>247 | 5=>5 | 218=>299 | 222=>303 | 228=>317 | 229=>318 | n=>n,fun | n=>n⟩
theorem Tryz.lays190:Go.Proofs.Lays.n190 Tryz.prog Tryz.lays190_ren:={
 mixed:=by kernel_rfl
 f125:=Tryz.func138.trans (congrArg some (by kernel_rfl))
 f128:=Tryz.func182.trans (congrArg some (by kernel_rfl))
 f129:=Tryz.func183.trans (congrArg some (by kernel_rfl))
 f190:=Tryz.func85.trans (congrArg some (by kernel_rfl))
 f258:=Tryz.func137.trans (congrArg some (by kernel_rfl))
 f302:=Tryz.func173.trans (congrArg some (by kernel_rfl))
 f303:=Tryz.func174.trans (congrArg some (by kernel_rfl))
 f304:=Tryz.func175.trans (congrArg some (by kernel_rfl))
 f305:=Tryz.func176.trans (congrArg some (by kernel_rfl))
 f306:=Tryz.func177.trans (congrArg some (by kernel_rfl))
 f307:=Tryz.func178.trans (congrArg some (by kernel_rfl))
 f308:=Tryz.func179.trans (congrArg some (by kernel_rfl))
 f309:=Tryz.func180.trans (congrArg some (by kernel_rfl))
 f310:=Tryz.func181.trans (congrArg some (by kernel_rfl))
 f329:=Tryz.func219.trans (congrArg some (by kernel_rfl))
 f330:=Tryz.func220.trans (congrArg some (by kernel_rfl))
 f333:=Tryz.func218.trans (congrArg some (by kernel_rfl))
 f334:=Tryz.func221.trans (congrArg some (by kernel_rfl))
 f335:=Tryz.func222.trans (congrArg some (by kernel_rfl))
 f336:=Tryz.func223.trans (congrArg some (by kernel_rfl))
 f344:=Tryz.func243.trans (congrArg some (by kernel_rfl))
 t0:=Tryz.underlying0
 a0:=Tryz.isAgg0
 z0:=Tryz.sizeOf0
 v0:=Tryz.zeroValue0
 t3:=Tryz.underlying3
 a3:=Tryz.isAgg3
 z3:=Tryz.sizeOf3
 v3:=Tryz.zeroValue3
 t4:=Tryz.underlying4
 a4:=Tryz.isAgg4
 z4:=Tryz.sizeOf4
 v4:=Tryz.zeroValue4
 t5:=Tryz.underlying5
 a5:=Tryz.isAgg5
 z5:=Tryz.sizeOf5
 v5:=Tryz.zeroValue5
 t9:=Tryz.underlying9
 a9:=Tryz.isAgg9
 z9:=Tryz.sizeOf9
 v9:=Tryz.zeroValue9
 t31:=Tryz.underlying34
 a31:=Tryz.isAgg34
 z31:=Tryz.sizeOf34
 v31:=Tryz.zeroValue34
 t46:=Tryz.underlying199
 a46:=Tryz.isAgg199
 z46:=Tryz.sizeOf199
 v46:=Tryz.zeroValue199
 t51:=Tryz.underlying206
 a51:=Tryz.isAgg206
 z51:=Tryz.sizeOf206
 v51:=Tryz.zeroValue206
 t53:=Tryz.underlying237
 a53:=Tryz.isAgg237
 z53:=Tryz.sizeOf237
 v53:=Tryz.zeroValue237
 t131:=Tryz.underlying247
 a131:=Tryz.isAgg247
 z131:=Tryz.sizeOf247
 v131:=Tryz.zeroValue247
 t182:=Tryz.underlying242
 a182:=Tryz.isAgg242
 z182:=Tryz.sizeOf242
 v182:=Tryz.zeroValue242
 t183:=Tryz.underlying243
 a183:=Tryz.isAgg243
 z183:=Tryz.sizeOf243
 v183:=Tryz.zeroValue243
 t218:=Tryz.underlying299
 a218:=Tryz.isAgg299
 z218:=Tryz.sizeOf299
 v218:=Tryz.zeroValue299
 t222:=Tryz.underlying303
 a222:=Tryz.isAgg303
 z222:=Tryz.sizeOf303
 v222:=Tryz.zeroValue303
 t228:=Tryz.underlying317
 a228:=Tryz.isAgg317
 z228:=Tryz.sizeOf317
 v228:=Tryz.zeroValue317
 t229:=Tryz.underlying318
 a229:=Tryz.isAgg318
 z229:=Tryz.sizeOf318
 v229:=Tryz.zeroValue318 }
open Go.Sort Go.RowKit in
theorem Tryz.slices_Sort_string(blk off cap:Nat)(ss:List (List UInt8))(w:World)(hH:Holds encStr w blk off ss.toArray)(hblk:blk < w.heap.size)(hsz:ss.length < 4611686018427387904) :
  Calls Tryz.prog 85 #[.slice (some ⟨blk,off,none⟩) ss.length cap] w fun e w' =>
   e=.returned (.tuple #[])∧∃ n os,w'=grow (putRow encStr (Sort.ahead w n) blk off (ss.mergeSort fun x y=>decide (x≤y)).toArray) os:=Any.slices_Sort_string Tryz.lays190 blk off cap ss w hH hblk hsz
open Go.RowKit Go.Sort in
theorem Tryz.slices_Sort_string_none(p:Option Addr)(cap:Nat)(w:World) :
  Calls Tryz.prog 85 #[.slice p 0 cap] w fun e w'=>e=.returned (.tuple #[])∧w'=w:=Any.slices_Sort_string_none Tryz.lays190 p cap w
end
end Go.Proofs
