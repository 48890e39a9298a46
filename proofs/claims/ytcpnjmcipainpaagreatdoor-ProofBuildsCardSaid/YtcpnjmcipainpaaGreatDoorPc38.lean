/- Parts of the proof, one behind the other: CanonR, CanonS, IterM, CanonT, CanonU. Each is under no condition but those that it states. -/
import Derived.Test.YtcpnjmcipainpaaGreatDoorPc30
import Derived.Test.YtcpnjmcipainpaaGreatDoorPc18
import Derived.Test.YtcpnjmcipainpaaGreatDoorPc37
import Derived.Test.YtcpnjmcipainpaaGreatDoorPc13
import Derived.OwnWalk
namespace Go.Proofs.YtcpnjmcipainpaaGreatDoor
set_option linter.unusedSimpArgs false
set_option linter.unusedVariables false
set_option maxRecDepth 100000
set_option maxHeartbeats 16000000
section
open Go Go.RowKit
end
section
open Go Go.RowKit
attribute [local go_sem] Oper.semAt_some
end
end Go.Proofs.YtcpnjmcipainpaaGreatDoor
