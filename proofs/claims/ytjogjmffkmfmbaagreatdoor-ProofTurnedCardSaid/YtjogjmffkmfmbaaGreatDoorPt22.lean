/- Parts of the proof, one behind the other: ShelfS. Each is under no condition but those that it states. -/
import Derived.Test.YtjogjmffkmfmbaaGreatDoorPt5
import Derived.Shelf.Sort.Plain
import Derived.Shelf.Slices.In.SortNone
/- The shelf, second part: sorting (parted from the print of lay-plain.mjs). -/
namespace Go.Proofs
section
open Go.Shelf
end
end Go.Proofs
