/- Parts of the proof, one behind the other: GetA. Each is under no condition but those that it states. -/
import Derived.Test.YtpaacnhboilkkaaGreatDoorPh21
import Derived.Test.YtpaacnhboilkkaaGreatDoorPh11
namespace Go.Proofs.YtpaacnhboilkkaaGreatDoor
set_option linter.unusedSimpArgs false
set_option linter.unusedVariables false
set_option maxRecDepth 100000
set_option maxHeartbeats 16000000
section
open Go Go.RowKit
def jvL(w:World)(e:Ending)(w':World):Prop:=e=.returned (.tuple #[jbb.V,.int .i64 2])∧Ext w w'
end
end Go.Proofs.YtpaacnhboilkkaaGreatDoor
