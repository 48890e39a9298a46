/- Lemmas; each is under no condition but those that it states. -/
import Derived.Test.YtcpnjmcipainpaaGreatDoorPr1
import Derived.Sort.QuietIn
namespace Go.Proofs.YtcpnjmcipainpaaGreatDoor
set_option linter.unusedSimpArgs false
set_option linter.unusedVariables false
set_option maxRecDepth 100000
set_option maxHeartbeats 16000000
open Go Go.RowKit
def jjK(ops:Array Oper):Bool:=ops.toList.all fun o=>match o.op with | .defer _=>false | _=>true
theorem jqc(p q:Tmp)(x y:Value)(t:List Value):(#[p,q].zip #[x,y]).foldl (fun t (p,v)=>t.setIfInBounds p v) t.toArray=((t.set p x).set q y).toArray:=by simp
theorem jxm(p:Tmp)(x:Value)(t:List Value):(#[p].zip #[x]).foldl (fun t (p,v)=>t.setIfInBounds p v) t.toArray=(t.set p x).toArray:=by simp
end Go.Proofs.YtcpnjmcipainpaaGreatDoor
