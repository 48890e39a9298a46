/- Parts of the proof, one behind the other: NodeB. Each is under no condition but those that it states. -/
import Derived.Test.YtcpnjmcipainpaaGreatDoorPc8
import Derived.Test.YtcpnjmcipainpaaGreatDoorPc10
namespace Go.Proofs.YtcpnjmcipainpaaGreatDoor
set_option linter.unusedSimpArgs false
set_option linter.unusedVariables false
set_option maxRecDepth 100000
set_option maxHeartbeats 16000000
section
open Go Go.RowKit
structure jac where
 kind:Nat
 path:ByteArray
 value:ByteArray
 refs:List ByteArray
def jac.cells(n:jac):List Value:=.int .i64 (n.kind:Int) :: .string n.path :: .string n.value :: n.refs.map Value.string
def jac.V(n:jac):Value:=.agg n.cells.toArray
def jac.pathOk(n:jac)(least:Nat):Bool:=decide (least≤n.path.size) && decide (n.path.size≤12) && jaA n.path
theorem jac.cells_len(n:jac)(h:n.refs.length=16):n.cells.length=19:=by simp[jac.cells,h]
theorem jm0(w:World)(n:jac)(hr:n.refs.length=16)(least:Nat)(hs:n.path.size≤1000000):Calls Tryz.prog 229 #[n.V,.int .i64 least] w fun e w'=>e=.returned (.bool (n.pathOk least))∧Ext w w':=by
 obtain⟨k,p,v,rs⟩:=n
 have hl:(jac.cells ⟨k,p,v,rs⟩).length=19:=jac.cells_len _ hr;simp only at hr hs;have HL:=Hd hl;clear hl;unfold jac.V;have e1:(jac.cells ⟨k,p,v,rs⟩)[1]?=some (.string p):=rfl;have hres:∀ b:Bool,b=(jac.pathOk ⟨k,p,v,rs⟩ least)→Ending.returned (.bool b)=Ending.returned (.bool (jac.pathOk ⟨k,p,v,rs⟩ least)):=fun b h=>by rw[h]
 by_cases h1:least≤p.size
 ·have c1:(least:Int)≤(p.size:Int):=by omega
  by_cases h2:p.size≤12
  ·have c2:(p.size:Int)≤12:=by omega
   go_enter Tryz.func229,Tryz.ntmps229;go_wp2_with fail
   refine (jnJ _ p (by omega)).mono ?_;rintro e w1 ⟨rfl,hw1⟩;have HE:Hid (Ext w w1):=Hd (by rw[hw1];exact (ExtR w).alloc _);clear hw1;go_wp2_with fail
   go_ret
   exact⟨hres _ (by simp[jac.pathOk,h1,h2]),HE.o⟩
  ·have c2:¬(p.size:Int)≤12:=by omega
   go_enter Tryz.func229,Tryz.ntmps229;go_wp2_with fail
   go_ret
   exact⟨hres false (by simp[jac.pathOk,h2]),(ExtR w).alloc _⟩
 ·have c1:¬(least:Int)≤(p.size:Int):=by omega
  go_enter Tryz.func229,Tryz.ntmps229;go_wp2_with fail
  go_ret
  exact⟨hres false (by simp[jac.pathOk,h1]),(ExtR w).alloc _⟩
end
end Go.Proofs.YtcpnjmcipainpaaGreatDoor
