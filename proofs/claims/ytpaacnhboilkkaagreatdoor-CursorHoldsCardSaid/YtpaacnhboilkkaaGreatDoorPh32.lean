/- Parts of the proof, one behind the other: ShutTr. Each is under no condition but those that it states. -/
import Derived.Test.YtpaacnhboilkkaaGreatDoorPh13
import Derived.WalkKit
import Derived.ProofKit
import Derived.OpenShut
import Derived.Lib.SmallJoins
import Derived.Deep.DeepHandedRow
import Derived.Lay
import Derived.Carry
import Derived.ChangeMaps5
namespace Go.Proofs.YtpaacnhboilkkaaGreatDoor
set_option linter.unusedSimpArgs false
set_option linter.unusedVariables false
set_option maxRecDepth 100000
set_option maxHeartbeats 16000000
section
open Go Go.ChangeShapes Go.WideShapes Go.ChangeAt Go.RowKit Go.ChangeMaps
theorem jor:laidOutB Tryz.pinned.checked.prog=true:=by kernel_rfl
theorem jk5:mapsRowed Tryz.pinned.checked.prog=true:=by kernel_rfl
theorem jtf:(Tryz.pinned.checked.prog.stops == [])=true:=by kernel_rfl
theorem jk7:(Tryz.pinned.checked.prog.stopKnobs == [])=true:=by kernel_rfl
theorem jk6:(Rows.triePathsRow.plainKeys == Tryz.pinned.checked.prog.plainKeys)=true:=by kernel_rfl
theorem jjB:Tryz.pinned.checked.prog.stopsHeard=true:=by kernel_rfl
theorem jl2:Tryz.pinned.checked.prog.mayEnter=true:=by kernel_rfl
theorem jrd:(Rows.triePathsRow.lifted == Tryz.pinned.checked.prog.liftsFinal)=true:=by kernel_rfl
theorem jvn:(Tryz.pinned.checked.prog.make == some Rows.triePathsRow.make)=true:=by kernel_rfl
theorem jvm:Tryz.pinned.checked.prog.mainIs=some (true, "9fb79214ed06701ec0b3f3513425a8bf5e13fc2681c6014fe8d6313db7ec54e5".toList):=by kernel_rfl
theorem jte:true=Tryz.pinned.checked.prog.looks []:=by kernel_rfl
end
end Go.Proofs.YtpaacnhboilkkaaGreatDoor
