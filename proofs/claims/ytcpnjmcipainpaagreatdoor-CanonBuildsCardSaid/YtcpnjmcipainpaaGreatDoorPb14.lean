/- Parts of the proof, one behind the other: Iter. Each is under no condition but those that it states. -/
import Derived.Test.YtcpnjmcipainpaaGreatDoorPb1
import Derived.Sort.QuietIn
namespace Go.Proofs.YtcpnjmcipainpaaGreatDoor
set_option linter.unusedSimpArgs false
set_option linter.unusedVariables false
set_option maxRecDepth 100000
set_option maxHeartbeats 16000000
section
open Go Go.RowKit
theorem jll(p q:Tmp)(x y:Value)(t:List Value):(#[p,q].zip #[x,y]).foldl (fun t (p,v)=>t.setIfInBounds p v) t.toArray=((t.set p x).set q y).toArray:=by simp
theorem jnY(p:Tmp)(x:Value)(t:List Value):(#[p].zip #[x]).foldl (fun t (p,v)=>t.setIfInBounds p v) t.toArray=(t.set p x).toArray:=by simp
end
end Go.Proofs.YtcpnjmcipainpaaGreatDoor
