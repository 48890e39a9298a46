/- Parts of the proof, one behind the other: CanonWit. Each is under no condition but those that it states. -/
import Derived.Test.YtcpnjmcipainpaaGreatDoorPc42
import Derived.ProofKit
import Derived.OpenShut
import Derived.Deep.DeepHandedRow
import Derived.Lay
namespace Go.Proofs.YtcpnjmcipainpaaGreatDoor
set_option linter.unusedSimpArgs false
set_option linter.unusedVariables false
set_option maxRecDepth 100000
set_option maxHeartbeats 16000000
section
open Go Go.ChangeShapes Go.WideShapes Go.ChangeAt Go.RowKit
def joV:Obj→Obj
 | .cells _ t frozen=>.cells (jdA.map wv).toArray t frozen
 | o=>o
def jrW:Obj→Obj
 | .cells _ t frozen=>.cells #[.iface 269 (.agg #[.pointer (some ⟨3,162,none⟩)])] t frozen
 | o=>o
noncomputable def laidWorld(os:Os):World:=
 { World.holding Tryz.prog os ⟨#[],#[],[]⟩with heap:=((World.holding Tryz.prog os ⟨#[],#[],[]⟩).heap.modify 0 joV).modify 1 jrW }
theorem jow(os:Os)(args:Array Value):laidMetH Tryz.prog [("errors.errorType",Rows.laid_errors_errorType),("guilloche/sha.cubes",Rows.laid_guilloche_sha_cubes)] ((laidWorld os).forCall (fun _ _=>0) ⟨#[],args,[]⟩).memory:=
 laidMetH_of_parts (laidMet_of_run' 8 (by kernel_rfl) (by kernel_rfl)) (by kernel_rfl)
end
end Go.Proofs.YtcpnjmcipainpaaGreatDoor
