/- Lemmas; each is under no condition but those that it states. -/
import Derived.Test.YtcpnjmcipainpaaGreatDoorPr50
import Derived.ProofKit
import Derived.OpenShut
import Derived.Deep.DeepHandedRow
import Derived.Lay
import Derived.Lib.SmallJoins
namespace Go.Proofs.YtcpnjmcipainpaaGreatDoor
set_option linter.unusedSimpArgs false
set_option linter.unusedVariables false
set_option maxRecDepth 100000
set_option maxHeartbeats 16000000
section
open Go Go.ChangeShapes Go.WideShapes Go.ChangeAt Go.RowKit
def jtT:Obj->Obj
 | .cells _ t frozen=>.cells (jeC.map wv).toArray t frozen
 | o=>o
def jxX:Obj->Obj
 | .cells _ t frozen=>.cells #[.iface 269 (.agg #[.pointer (some ⟨3,162,none⟩)])] t frozen
 | o=>o
noncomputable def laidWorld(os:Os):World:=
 { World.holding Tryz.prog os ⟨#[],#[],[]⟩with heap:=((World.holding Tryz.prog os ⟨#[],#[],[]⟩).heap.modify 0 jtT).modify 1 jxX }
theorem jtd(os:Os)(args:Array Value):laidMetH Tryz.prog [("errors.errorType",Rows.laid_errors_errorType),("guilloche/sha.cubes",Rows.laid_guilloche_sha_cubes)] ((laidWorld os).forCall (fun _ _=>0) ⟨#[],args,[]⟩).memory:=
 laidMetH_of_parts (laidMet_of_run' 8 vY vY) vY
end
end Go.Proofs.YtcpnjmcipainpaaGreatDoor
namespace Go.Proofs.YtcpnjmcipainpaaGreatDoor
set_option linter.unusedSimpArgs false
set_option linter.unusedVariables false
set_option maxRecDepth 100000
set_option maxHeartbeats 16000000
section
open Go Go.ChangeShapes Go.WideShapes Go.ChangeAt Go.RowKit Go.ChangeMaps
theorem jo3:laidOutB Tryz.pinned.checked.prog=true:=by kernel_rfl
theorem jlD:mapsRowed Tryz.pinned.checked.prog=true:=by kernel_rfl
theorem jtV:(Tryz.pinned.checked.prog.stops == [])=true:=by kernel_rfl
theorem jlF:(Tryz.pinned.checked.prog.stopKnobs == [])=true:=by kernel_rfl
theorem jlE:(Rows.cursorAnyRow.plainKeys == Tryz.pinned.checked.prog.plainKeys)=true:=by kernel_rfl
theorem jj9:Tryz.pinned.checked.prog.stopsHeard=true:=by kernel_rfl
theorem jmI:Tryz.pinned.checked.prog.mayEnter=true:=by kernel_rfl
theorem jrL:(Rows.cursorAnyRow.lifted == Tryz.pinned.checked.prog.liftsFinal)=true:=by kernel_rfl
theorem jv3:(Tryz.pinned.checked.prog.make == some Rows.cursorAnyRow.make)=true:=by kernel_rfl
theorem jv2:Tryz.pinned.checked.prog.mainIs=some (true, "8c5f272a4f50c57b89adc642ff179197ab23413d260365b3032a29931c6330fb".toList):=by kernel_rfl
theorem jtU:true=Tryz.pinned.checked.prog.looks []:=by kernel_rfl
end
end Go.Proofs.YtcpnjmcipainpaaGreatDoor
