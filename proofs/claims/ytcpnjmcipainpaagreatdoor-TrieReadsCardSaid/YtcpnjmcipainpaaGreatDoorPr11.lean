/- Lemmas; each is under no condition but those that it states. -/
import Derived.Test.YtcpnjmcipainpaaGreatDoorPr8
import Derived.Test.YtcpnjmcipainpaaGreatDoorPr10
namespace Go.Proofs.YtcpnjmcipainpaaGreatDoor
set_option linter.unusedSimpArgs false
set_option linter.unusedVariables false
set_option maxRecDepth 100000
set_option maxHeartbeats 16000000
open Go Go.RowKit
structure jad where
 kind:Nat
 path:vB
 value:vB
 refs:List vB
def jad.cells(n:jad):List Value:=.int .i64 (n.kind:Int) :: .string n.path :: .string n.value :: n.refs.map Value.string
def jad.V(n:jad):Value:=.agg n.cells.toArray
def jad.pathOk(n:jad)(least:Nat):Bool:=decide (least<=n.path.size) && decide (n.path.size<=12) && jat n.path
theorem jad.cells_len(n:jad)(h:n.refs.length=16):n.cells.length=19:=by simp[jad.cells,h]
theorem jq5(w:World)(n:jad)(hr:n.refs.length=16)(least:Nat)(hs:n.path.size<=1000000):vR 229 #[n.V,.int .i64 least] w (.bool (n.pathOk least)):=by
 obtain⟨k,p,v,rs⟩:=n
 have hl:(jad.cells ⟨k,p,v,rs⟩).length=19:=jad.cells_len _ hr;simp only at hr hs;have HL:=Hd hl;clear hl;unfold jad.V;have e1:(jad.cells ⟨k,p,v,rs⟩)[1]?=some (.string p):=rfl;have hres:∀ b:Bool,b=(jad.pathOk ⟨k,p,v,rs⟩ least)->Ending.returned (.bool b)=Ending.returned (.bool (jad.pathOk ⟨k,p,v,rs⟩ least)):=fun b h=>by rw[h]
 by_cases h1:least<=p.size
 ·have c1:(least:Int)<=(p.size:Int):=by omega
  by_cases h2:p.size<=12
  ·have c2:(p.size:Int)<=12:=by omega
   go_enter Tryz.func229,Tryz.ntmps229;go_wp2_with fail
   refine vC (jkg _ p vO) fun w1 hw1=>?_;have HE:Hid (Ext w w1):=Hd (by rw[hw1];exact (ExtR w).alloc _);clear hw1;go_wp2_with fail
   go_ret
   exact⟨hres _ (by simp[jad.pathOk,h1,h2]),HE.o⟩
  ·have c2:¬(p.size:Int)<=12:=by omega
   go_enter Tryz.func229,Tryz.ntmps229;go_wp2_with fail
   go_ret
   exact⟨hres false (by simp[jad.pathOk,h2]),(ExtR w).alloc _⟩
 ·have c1:¬(least:Int)<=(p.size:Int):=by omega
  go_enter Tryz.func229,Tryz.ntmps229;go_wp2_with fail
  go_ret
  exact⟨hres false (by simp[jad.pathOk,h1]),(ExtR w).alloc _⟩
end Go.Proofs.YtcpnjmcipainpaaGreatDoor
