/- Parts of the proof, one behind the other: NodeB. Each is under no condition but those that it states. -/
import Derived.Test.YtpaacnhboilkkaaGreatDoorPh9
import Derived.Test.YtpaacnhboilkkaaGreatDoorPh15
namespace Go.Proofs.YtpaacnhboilkkaaGreatDoor
set_option linter.unusedSimpArgs false
set_option linter.unusedVariables false
set_option maxRecDepth 100000
set_option maxHeartbeats 16000000
section
open Go Go.RowKit
structure jaf where
 kind:Nat
 path:ByteArray
 value:ByteArray
 refs:List ByteArray
def jaf.cells(n:jaf):List Value:=.int .i64 (n.kind:Int) :: .string n.path :: .string n.value :: n.refs.map Value.string
def jaf.V(n:jaf):Value:=.agg n.cells.toArray
def jaf.pathOk(n:jaf)(least:Nat):Bool:=decide (least≤n.path.size) && decide (n.path.size≤12) && jaL n.path
theorem jaf.cells_len(n:jaf)(h:n.refs.length=16):n.cells.length=19:=by simp[jaf.cells,h]
theorem jqF(w:World)(n:jaf)(hr:n.refs.length=16)(least:Nat)(hs:n.path.size≤1000000):Calls Tryz.prog 214 #[n.V,.int .i64 least] w fun e w'=>e=.returned (.bool (n.pathOk least))∧Ext w w':=by
 obtain⟨k,p,v,rs⟩:=n
 have hl:(jaf.cells ⟨k,p,v,rs⟩).length=19:=jaf.cells_len _ hr;simp only at hr hs;have HL:=Hd hl;clear hl;unfold jaf.V;have e1:(jaf.cells ⟨k,p,v,rs⟩)[1]?=some (.string p):=rfl;have hres:∀ b:Bool,b=(jaf.pathOk ⟨k,p,v,rs⟩ least)→Ending.returned (.bool b)=Ending.returned (.bool (jaf.pathOk ⟨k,p,v,rs⟩ least)):=fun b h=>by rw[h]
 by_cases h1:least≤p.size
 ·have c1:(least:Int)≤(p.size:Int):=by omega
  by_cases h2:p.size≤12
  ·have c2:(p.size:Int)≤12:=by omega
   go_enter Tryz.func214,Tryz.ntmps214;go_wp2_with fail
   refine (jjF _ p (by omega)).mono ?_;rintro e w1 ⟨rfl,hw1⟩;have HE:Hid (Ext w w1):=Hd (by rw[hw1];exact (ExtR w).alloc _);clear hw1;go_wp2_with fail
   go_ret
   exact⟨hres _ (by simp[jaf.pathOk,h1,h2]),HE.o⟩
  ·have c2:¬(p.size:Int)≤12:=by omega
   go_enter Tryz.func214,Tryz.ntmps214;go_wp2_with fail
   go_ret
   exact⟨hres false (by simp[jaf.pathOk,h2]),(ExtR w).alloc _⟩
 ·have c1:¬(least:Int)≤(p.size:Int):=by omega
  go_enter Tryz.func214,Tryz.ntmps214;go_wp2_with fail
  go_ret
  exact⟨hres false (by simp[jaf.pathOk,h1]),(ExtR w).alloc _⟩
end
end Go.Proofs.YtpaacnhboilkkaaGreatDoor
