/- Parts of the proof, one behind the other: CurC. Each is under no condition but those that it states. -/
import Derived.Test.YtpaacnhboilkkaaGreatDoorPt22
import Derived.Test.YtpaacnhboilkkaaGreatDoorPt29
namespace Go.Proofs.YtpaacnhboilkkaaGreatDoor
set_option linter.unusedSimpArgs false
set_option linter.unusedVariables false
set_option maxRecDepth 100000
set_option maxHeartbeats 16000000
section
open Go Go.RowKit
attribute [local go_sem] Oper.semAt_some
end
end Go.Proofs.YtpaacnhboilkkaaGreatDoor
