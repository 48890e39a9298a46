/- Parts of the proof, one behind the other: CurD, CurE, CurF. Each is under no condition but those that it states. -/
import Derived.Test.YtpaacnhboilkkaaGreatDoorPt30
import Derived.Test.YtpaacnhboilkkaaGreatDoorPt22
namespace Go.Proofs.YtpaacnhboilkkaaGreatDoor
set_option linter.unusedSimpArgs false
set_option linter.unusedVariables false
set_option maxRecDepth 100000
set_option maxHeartbeats 16000000
section
open Go Go.RowKit
attribute [local go_sem] Oper.semAt_some
theorem path_key(k:ByteArray):keyOk (pathB k)=true:=by
 unfold keyOk
 rw[path_valid,path_size];simp
end
end Go.Proofs.YtpaacnhboilkkaaGreatDoor
