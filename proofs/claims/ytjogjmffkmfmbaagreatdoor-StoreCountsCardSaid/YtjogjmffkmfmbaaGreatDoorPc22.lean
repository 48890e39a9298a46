/- Parts of the proof, one behind the other: ShelfS. Each is under no condition but those that it states. -/
import Derived.Test.YtjogjmffkmfmbaaGreatDoorPc5
import Derived.Shelf.Sort.Plain
import Derived.Shelf.Slices.In.SortNone
/- The shelf, second part: sorting (parted from the print of lay-plain.mjs). -/
namespace Go.Proofs
section
open Go.Shelf
def Tryz.lays190_ren : Go.Shelf.Ren := ⟨fun | 190 => 84 | 125 => 123 | 258 => 122 | 128 => 172 | 129 => 173 | 302 => 163 | 303 => 164 | 304 => 165 | 305 => 166 | 306 => 167 | 307 => 168 | 308 => 169 | 309 => 170 | 310 => 171 | 333 => 199 | 329 => 200 | 330 => 201 | 334 => 202 | 335 => 203 | 336 => 204 | 344 => 219 | n => n, fun | 31 => 22 | 9 => 9 | 3 => 3 | 46 => 155 | 0 => 0 | 51 => 180 | 53 => 183 | 4 => 4 | 183 => 240 | 182 => 239 | 131 => 244 | 5 => 5 | 218 => 263 | 222 => 267 | 228 => 284 | 229 => 285 | n => n, fun | n => n⟩
theorem Tryz.lays190 : Go.Proofs.Lays.n190 Tryz.prog Tryz.lays190_ren := {
  mixed := by kernel_rfl
  f125 := Tryz.func123.trans (congrArg some (by kernel_rfl))
  f128 := Tryz.func172.trans (congrArg some (by kernel_rfl))
  f129 := Tryz.func173.trans (congrArg some (by kernel_rfl))
  f190 := Tryz.func84.trans (congrArg some (by kernel_rfl))
  f258 := Tryz.func122.trans (congrArg some (by kernel_rfl))
  f302 := Tryz.func163.trans (congrArg some (by kernel_rfl))
  f303 := Tryz.func164.trans (congrArg some (by kernel_rfl))
  f304 := Tryz.func165.trans (congrArg some (by kernel_rfl))
  f305 := Tryz.func166.trans (congrArg some (by kernel_rfl))
  f306 := Tryz.func167.trans (congrArg some (by kernel_rfl))
  f307 := Tryz.func168.trans (congrArg some (by kernel_rfl))
  f308 := Tryz.func169.trans (congrArg some (by kernel_rfl))
  f309 := Tryz.func170.trans (congrArg some (by kernel_rfl))
  f310 := Tryz.func171.trans (congrArg some (by kernel_rfl))
  f329 := Tryz.func200.trans (congrArg some (by kernel_rfl))
  f330 := Tryz.func201.trans (congrArg some (by kernel_rfl))
  f333 := Tryz.func199.trans (congrArg some (by kernel_rfl))
  f334 := Tryz.func202.trans (congrArg some (by kernel_rfl))
  f335 := Tryz.func203.trans (congrArg some (by kernel_rfl))
  f336 := Tryz.func204.trans (congrArg some (by kernel_rfl))
  f344 := Tryz.func219.trans (congrArg some (by kernel_rfl))
  t0 := Tryz.underlying0
  a0 := Tryz.isAgg0
  z0 := Tryz.sizeOf0
  v0 := Tryz.zeroValue0
  t3 := Tryz.underlying3
  a3 := Tryz.isAgg3
  z3 := Tryz.sizeOf3
  v3 := Tryz.zeroValue3
  t4 := Tryz.underlying4
  a4 := Tryz.isAgg4
  z4 := Tryz.sizeOf4
  v4 := Tryz.zeroValue4
  t5 := Tryz.underlying5
  a5 := Tryz.isAgg5
  z5 := Tryz.sizeOf5
  v5 := Tryz.zeroValue5
  t9 := Tryz.underlying9
  a9 := Tryz.isAgg9
  z9 := Tryz.sizeOf9
  v9 := Tryz.zeroValue9
  t31 := Tryz.underlying22
  a31 := Tryz.isAgg22
  z31 := Tryz.sizeOf22
  v31 := Tryz.zeroValue22
  t46 := Tryz.underlying155
  a46 := Tryz.isAgg155
  z46 := Tryz.sizeOf155
  v46 := Tryz.zeroValue155
  t51 := Tryz.underlying180
  a51 := Tryz.isAgg180
  z51 := Tryz.sizeOf180
  v51 := Tryz.zeroValue180
  t53 := Tryz.underlying183
  a53 := Tryz.isAgg183
  z53 := Tryz.sizeOf183
  v53 := Tryz.zeroValue183
  t131 := Tryz.underlying244
  a131 := Tryz.isAgg244
  z131 := Tryz.sizeOf244
  v131 := Tryz.zeroValue244
  t182 := Tryz.underlying239
  a182 := Tryz.isAgg239
  z182 := Tryz.sizeOf239
  v182 := Tryz.zeroValue239
  t183 := Tryz.underlying240
  a183 := Tryz.isAgg240
  z183 := Tryz.sizeOf240
  v183 := Tryz.zeroValue240
  t218 := Tryz.underlying263
  a218 := Tryz.isAgg263
  z218 := Tryz.sizeOf263
  v218 := Tryz.zeroValue263
  t222 := Tryz.underlying267
  a222 := Tryz.isAgg267
  z222 := Tryz.sizeOf267
  v222 := Tryz.zeroValue267
  t228 := Tryz.underlying284
  a228 := Tryz.isAgg284
  z228 := Tryz.sizeOf284
  v228 := Tryz.zeroValue284
  t229 := Tryz.underlying285
  a229 := Tryz.isAgg285
  z229 := Tryz.sizeOf285
  v229 := Tryz.zeroValue285 }
open Go.Sort Go.RowKit in
theorem Tryz.slices_Sort_string (blk off cap : Nat) (ss : List (List UInt8)) (w : World) (hH : Holds encStr w blk off ss.toArray) (hblk : blk < w.heap.size) (hsz : ss.length < 4611686018427387904) :
    Calls Tryz.prog 84 #[.slice (some ⟨blk, off, none⟩) ss.length cap] w fun e w' =>
      e = .returned (.tuple #[]) ∧ ∃ n os, w' = grow (putRow encStr (Sort.ahead w n) blk off (ss.mergeSort fun x y => decide (x ≤ y)).toArray) os := Any.slices_Sort_string Tryz.lays190 blk off cap ss w hH hblk hsz
open Go.RowKit Go.Sort in
/-- .. and plain. (LAID: no walk: one application.) -/
theorem Tryz.slices_Sort_string_none (p : Option Addr) (cap : Nat) (w : World) :
    Calls Tryz.prog 84 #[.slice p 0 cap] w fun e w' => e = .returned (.tuple #[]) ∧ w' = w := Any.slices_Sort_string_none Tryz.lays190 p cap w
end
end Go.Proofs
