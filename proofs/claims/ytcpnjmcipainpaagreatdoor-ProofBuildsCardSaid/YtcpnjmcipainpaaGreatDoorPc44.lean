/- Parts of the proof, one behind the other: ShutDv. Each is under no condition but those that it states. -/
import Derived.Test.YtcpnjmcipainpaaGreatDoorPc43
import Derived.WalkKit
import Derived.ProofKit
import Derived.OpenShut
import Derived.Lib.SmallJoins
import Derived.Deep.DeepHandedRow
import Derived.Lay
import Derived.Carry
import Derived.ChangeMaps5
namespace Go.Proofs.YtcpnjmcipainpaaGreatDoor
set_option linter.unusedSimpArgs false
set_option linter.unusedVariables false
set_option maxRecDepth 100000
set_option maxHeartbeats 16000000
section
open Go Go.ChangeShapes Go.WideShapes Go.ChangeAt Go.RowKit Go.ChangeMaps
theorem jlA:laidOutB Tryz.pinned.checked.prog=true:=by kernel_rfl
theorem ji6:mapsRowed Tryz.pinned.checked.prog=true:=by kernel_rfl
theorem joX:(Tryz.pinned.checked.prog.stops == [])=true:=by kernel_rfl
theorem ji8:(Tryz.pinned.checked.prog.stopKnobs == [])=true:=by kernel_rfl
theorem ji7:(Rows.cursorAnyRow.plainKeys == Tryz.pinned.checked.prog.plainKeys)=true:=by kernel_rfl
theorem jhZ:Tryz.pinned.checked.prog.stopsHeard=true:=by kernel_rfl
theorem jjO:Tryz.pinned.checked.prog.mayEnter=true:=by kernel_rfl
theorem jnu:(Rows.cursorAnyRow.lifted == Tryz.pinned.checked.prog.liftsFinal)=true:=by kernel_rfl
theorem jqD:(Tryz.pinned.checked.prog.make == some Rows.cursorAnyRow.make)=true:=by kernel_rfl
theorem jqC:Tryz.pinned.checked.prog.mainIs=some (true, "8c5f272a4f50c57b89adc642ff179197ab23413d260365b3032a29931c6330fb".toList):=by kernel_rfl
theorem joW:true=Tryz.pinned.checked.prog.looks []:=by kernel_rfl
end
end Go.Proofs.YtcpnjmcipainpaaGreatDoor
