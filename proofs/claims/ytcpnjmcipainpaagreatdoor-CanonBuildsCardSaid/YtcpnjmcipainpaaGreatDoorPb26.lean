/- Parts of the proof, one behind the other: MixR. Each is under no condition but those that it states. -/
import Derived.Test.YtcpnjmcipainpaaGreatDoorPb5
import Derived.Test.YtcpnjmcipainpaaGreatDoorPb14
import Derived.RangeFuncCalls
import Derived.OrdersIn
import Derived.Deep.MidRow
namespace Go.Proofs.YtcpnjmcipainpaaGreatDoor
set_option linter.unusedSimpArgs false
set_option linter.unusedVariables false
set_option maxRecDepth 100000
set_option maxHeartbeats 16000000
section
open Go Go.RowKit
section mixr
variable {P:Program} {l:List Oper} {lr:Nat} {R:Act→World→Prop}
end mixr
end
end Go.Proofs.YtcpnjmcipainpaaGreatDoor
