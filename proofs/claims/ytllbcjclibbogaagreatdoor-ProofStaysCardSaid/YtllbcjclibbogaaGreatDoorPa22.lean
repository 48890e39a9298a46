/- Parts of the proof, one behind the other: ShelfS. Each is under no condition but those that it states. -/
import Derived.Test.YtllbcjclibbogaaGreatDoorPa5
import Derived.Shelf.Sort.Plain
import Derived.Shelf.Slices.In.SortNone
/- The shelf, second part: sorting (parted from the print of lay-plain.mjs). -/
namespace Go.Proofs
section
open Go.Shelf
def Tryz.lays190_ren : Go.Shelf.Ren := ⟨fun | 190 => 80 | 125 => 116 | 258 => 115 | 128 => 156 | 129 => 157 | 302 => 147 | 303 => 148 | 304 => 149 | 305 => 150 | 306 => 151 | 307 => 152 | 308 => 153 | 309 => 154 | 310 => 155 | 333 => 178 | 329 => 179 | 330 => 180 | 334 => 181 | 335 => 182 | 336 => 183 | 344 => 198 | n => n, fun | 31 => 29 | 9 => 9 | 3 => 3 | 46 => 121 | 0 => 0 | 51 => 120 | 53 => 163 | 4 => 4 | 183 => 211 | 182 => 210 | 131 => 215 | 5 => 5 | 218 => 236 | 222 => 240 | 228 => 257 | 229 => 258 | n => n, fun | n => n⟩
theorem Tryz.lays190 : Go.Proofs.Lays.n190 Tryz.prog Tryz.lays190_ren := {
  mixed := by kernel_rfl
  f125 := Tryz.func116.trans (congrArg some (by kernel_rfl))
  f128 := Tryz.func156.trans (congrArg some (by kernel_rfl))
  f129 := Tryz.func157.trans (congrArg some (by kernel_rfl))
  f190 := Tryz.func80.trans (congrArg some (by kernel_rfl))
  f258 := Tryz.func115.trans (congrArg some (by kernel_rfl))
  f302 := Tryz.func147.trans (congrArg some (by kernel_rfl))
  f303 := Tryz.func148.trans (congrArg some (by kernel_rfl))
  f304 := Tryz.func149.trans (congrArg some (by kernel_rfl))
  f305 := Tryz.func150.trans (congrArg some (by kernel_rfl))
  f306 := Tryz.func151.trans (congrArg some (by kernel_rfl))
  f307 := Tryz.func152.trans (congrArg some (by kernel_rfl))
  f308 := Tryz.func153.trans (congrArg some (by kernel_rfl))
  f309 := Tryz.func154.trans (congrArg some (by kernel_rfl))
  f310 := Tryz.func155.trans (congrArg some (by kernel_rfl))
  f329 := Tryz.func179.trans (congrArg some (by kernel_rfl))
  f330 := Tryz.func180.trans (congrArg some (by kernel_rfl))
  f333 := Tryz.func178.trans (congrArg some (by kernel_rfl))
  f334 := Tryz.func181.trans (congrArg some (by kernel_rfl))
  f335 := Tryz.func182.trans (congrArg some (by kernel_rfl))
  f336 := Tryz.func183.trans (congrArg some (by kernel_rfl))
  f344 := Tryz.func198.trans (congrArg some (by kernel_rfl))
  t0 := Tryz.underlying0
  a0 := Tryz.isAgg0
  z0 := Tryz.sizeOf0
  v0 := Tryz.zeroValue0
  t3 := Tryz.underlying3
  a3 := Tryz.isAgg3
  z3 := Tryz.sizeOf3
  v3 := Tryz.zeroValue3
  t4 := Tryz.underlying4
  a4 := Tryz.isAgg4
  z4 := Tryz.sizeOf4
  v4 := Tryz.zeroValue4
  t5 := Tryz.underlying5
  a5 := Tryz.isAgg5
  z5 := Tryz.sizeOf5
  v5 := Tryz.zeroValue5
  t9 := Tryz.underlying9
  a9 := Tryz.isAgg9
  z9 := Tryz.sizeOf9
  v9 := Tryz.zeroValue9
  t31 := Tryz.underlying29
  a31 := Tryz.isAgg29
  z31 := Tryz.sizeOf29
  v31 := Tryz.zeroValue29
  t46 := Tryz.underlying121
  a46 := Tryz.isAgg121
  z46 := Tryz.sizeOf121
  v46 := Tryz.zeroValue121
  t51 := Tryz.underlying120
  a51 := Tryz.isAgg120
  z51 := Tryz.sizeOf120
  v51 := Tryz.zeroValue120
  t53 := Tryz.underlying163
  a53 := Tryz.isAgg163
  z53 := Tryz.sizeOf163
  v53 := Tryz.zeroValue163
  t131 := Tryz.underlying215
  a131 := Tryz.isAgg215
  z131 := Tryz.sizeOf215
  v131 := Tryz.zeroValue215
  t182 := Tryz.underlying210
  a182 := Tryz.isAgg210
  z182 := Tryz.sizeOf210
  v182 := Tryz.zeroValue210
  t183 := Tryz.underlying211
  a183 := Tryz.isAgg211
  z183 := Tryz.sizeOf211
  v183 := Tryz.zeroValue211
  t218 := Tryz.underlying236
  a218 := Tryz.isAgg236
  z218 := Tryz.sizeOf236
  v218 := Tryz.zeroValue236
  t222 := Tryz.underlying240
  a222 := Tryz.isAgg240
  z222 := Tryz.sizeOf240
  v222 := Tryz.zeroValue240
  t228 := Tryz.underlying257
  a228 := Tryz.isAgg257
  z228 := Tryz.sizeOf257
  v228 := Tryz.zeroValue257
  t229 := Tryz.underlying258
  a229 := Tryz.isAgg258
  z229 := Tryz.sizeOf258
  v229 := Tryz.zeroValue258 }
open Go.Sort Go.RowKit in
theorem Tryz.slices_Sort_string (blk off cap : Nat) (ss : List (List UInt8)) (w : World) (hH : Holds encStr w blk off ss.toArray) (hblk : blk < w.heap.size) (hsz : ss.length < 4611686018427387904) :
    Calls Tryz.prog 80 #[.slice (some ⟨blk, off, none⟩) ss.length cap] w fun e w' =>
      e = .returned (.tuple #[]) ∧ ∃ n os, w' = grow (putRow encStr (Sort.ahead w n) blk off (ss.mergeSort fun x y => decide (x ≤ y)).toArray) os := Any.slices_Sort_string Tryz.lays190 blk off cap ss w hH hblk hsz
open Go.RowKit Go.Sort in
/-- .. and plain. (LAID: no walk: one application.) -/
theorem Tryz.slices_Sort_string_none (p : Option Addr) (cap : Nat) (w : World) :
    Calls Tryz.prog 80 #[.slice p 0 cap] w fun e w' => e = .returned (.tuple #[]) ∧ w' = w := Any.slices_Sort_string_none Tryz.lays190 p cap w
end
end Go.Proofs
