/- Parts of the proof, one behind the other: CanonV, CanonW, CanonX, MapA. Each is under no condition but those that it states. -/
import Derived.Test.YtcpnjmcipainpaaGreatDoorPc38
import Derived.Test.YtcpnjmcipainpaaGreatDoorPc22
import Derived.Test.YtcpnjmcipainpaaGreatDoorPc24
import Derived.Test.YtcpnjmcipainpaaGreatDoorPc35
namespace Go.Proofs.YtcpnjmcipainpaaGreatDoor
set_option linter.unusedSimpArgs false
set_option linter.unusedVariables false
set_option maxRecDepth 100000
set_option maxHeartbeats 16000000
section
open Go Go.RowKit
attribute [local go_sem] Oper.semAt_some
end
section
open Go Go.RowKit
theorem jfc(k:ByteArray):∀ l:List Pair,jdG l k=look l k.data.toList
 | []=>rfl
 | q :: r=>by
  have ih:=jfc k r;unfold jdG jfe at *;rw[jdQ,List.findIdx?_cons]
  by_cases h:k.data.toList=q.k
  ·have:(q.1.toList == k.toList)=true:=by rw[ByteArray.toList_eq,ByteArray.toList_eq];simpa using h.symm
   rw[if_pos h,this];rfl
  ·have:(q.1.toList == k.toList)=false:=by
    rw[ByteArray.toList_eq,ByteArray.toList_eq,Bool.eq_false_iff];intro e;exact h (eq_of_beq e).symm
   rw[if_neg h,this, ←ih];cases List.findIdx? (fun p=>p.1.toList == k.toList) r <;> rfl
end
end Go.Proofs.YtcpnjmcipainpaaGreatDoor
