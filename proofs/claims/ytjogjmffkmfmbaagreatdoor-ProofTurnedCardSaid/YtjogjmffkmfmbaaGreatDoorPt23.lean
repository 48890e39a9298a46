/- Parts of the proof, one behind the other: SortS. Each is under no condition but those that it states. -/
import Derived.Test.YtjogjmffkmfmbaaGreatDoorPt21
import Derived.Test.YtjogjmffkmfmbaaGreatDoorPt22
import Derived.Sort.OwnSorted
/- Sort of strings of one's own. -/
namespace Go.Proofs.YtjogjmffkmfmbaaGreatDoor
section
open Go Go.RowKit
set_option linter.unusedSimpArgs false
set_option linter.unusedVariables false
attribute [local go_sem] Oper.semAt_some
end
end Go.Proofs.YtjogjmffkmfmbaaGreatDoor
