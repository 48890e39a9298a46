/- Parts of the proof, one behind the other: ShutDv. Each is under no condition but those that it states. -/
import Derived.Test.YtcpnjmcipainpaaGreatDoorPb36
import Derived.WalkKit
import Derived.ProofKit
import Derived.OpenShut
import Derived.Lib.SmallJoins
import Derived.Deep.DeepHandedRow
import Derived.Lay
import Derived.Carry
import Derived.ChangeMaps5
namespace Go.Proofs.YtcpnjmcipainpaaGreatDoor
set_option linter.unusedSimpArgs false
set_option linter.unusedVariables false
set_option maxRecDepth 100000
set_option maxHeartbeats 16000000
section
open Go Go.ChangeShapes Go.WideShapes Go.ChangeAt Go.RowKit Go.ChangeMaps
theorem ji3:laidOutB Tryz.pinned.checked.prog=true:=by kernel_rfl
theorem jg7:mapsRowed Tryz.pinned.checked.prog=true:=by kernel_rfl
theorem jlQ:(Tryz.pinned.checked.prog.stops == [])=true:=by kernel_rfl
theorem jg9:(Tryz.pinned.checked.prog.stopKnobs == [])=true:=by kernel_rfl
theorem jg8:(Rows.cursorAnyRow.plainKeys == Tryz.pinned.checked.prog.plainKeys)=true:=by kernel_rfl
theorem jgi:Tryz.pinned.checked.prog.stopsHeard=true:=by kernel_rfl
theorem jhM:Tryz.pinned.checked.prog.mayEnter=true:=by kernel_rfl
theorem jkB:(Rows.cursorAnyRow.lifted == Tryz.pinned.checked.prog.liftsFinal)=true:=by kernel_rfl
theorem jnc:(Tryz.pinned.checked.prog.make == some Rows.cursorAnyRow.make)=true:=by kernel_rfl
theorem jnb:Tryz.pinned.checked.prog.mainIs=some (true, "8c5f272a4f50c57b89adc642ff179197ab23413d260365b3032a29931c6330fb".toList):=by kernel_rfl
theorem jlP:true=Tryz.pinned.checked.prog.looks []:=by kernel_rfl
end
end Go.Proofs.YtcpnjmcipainpaaGreatDoor
