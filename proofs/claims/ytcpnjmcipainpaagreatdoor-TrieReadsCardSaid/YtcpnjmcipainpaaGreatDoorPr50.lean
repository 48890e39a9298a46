/- Lemmas; each is under no condition but those that it states. -/
import Derived.Test.YtcpnjmcipainpaaGreatDoorPr8
import Derived.Test.YtcpnjmcipainpaaGreatDoorCards
import Derived.Test.YtcpnjmcipainpaaGreatDoorTie
import Derived.Lib.LaidTab
namespace Go.Proofs.YtcpnjmcipainpaaGreatDoor
set_option linter.unusedSimpArgs false
set_option linter.unusedVariables false
set_option maxRecDepth 100000
set_option maxHeartbeats 16000000
open Go Go.RowKit
def jpW:List Int:=jeC.map fun x=>(x.toNat:Int)
theorem jpX:(Rows.laid_guilloche_sha_cubes:DataW Unit)=Lib.tabData .u32 jpW:=by kernel_rfl
theorem Tryz.gCubes:Tryz.prog.globalNamed "guilloche/sha.cubes"=some 0:=by kernel_rfl
theorem Tryz.gCubesType:(Tryz.prog.globals[0]?).map (·.type)=some 296:=by kernel_rfl
theorem Tryz.uCubes:Tryz.prog.underlying 296=some (.array 64 206):=by kernel_rfl
theorem Tryz.cellsU32:Tryz.prog.cellsOf 206=1:=by kernel_rfl
theorem Tryz.cellsCubes:Tryz.prog.cellsOf 296=64:=by kernel_rfl
theorem jsz{W:World}(h:laidMetH Tryz.prog [("errors.errorType",Rows.laid_errors_errorType),("guilloche/sha.cubes",Rows.laid_guilloche_sha_cubes)] W):jb2 W:=by
 have h1:laidMet Tryz.prog [("guilloche/sha.cubes",Rows.laid_guilloche_sha_cubes)] W:=(laidMetH_iff.1 h).1;rw[jpX]at h1;have ht:=Lib.tabIs_of_head Tryz.gCubes Tryz.gCubesType Tryz.uCubes Tryz.uU32 Tryz.cellsU32 Tryz.cellsCubes h1;intro i hi
 have:=ht.cell Tryz.gCubes i (by unfold jpW;rw[List.length_map];exact hi)
 rw[this];unfold jpW wv;simp only[List.getD_eq_getElem?_getD,List.getElem?_map];cases jeC[i]? <;> rfl
end Go.Proofs.YtcpnjmcipainpaaGreatDoor
