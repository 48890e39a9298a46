/- Lemmas; each is under no condition but those that it states. -/
import Derived.Test.YtcpnjmcipainpaaGreatDoorPr50
import Derived.Test.YtcpnjmcipainpaaGreatDoorPr35
namespace Go.Proofs.YtcpnjmcipainpaaGreatDoor
set_option linter.unusedSimpArgs false
set_option linter.unusedVariables false
set_option maxRecDepth 100000
set_option maxHeartbeats 16000000
open Go Go.RowKit
theorem Tryz.gErr:Tryz.prog.globalNamed "errors.errorType"=some 1:=by kernel_rfl
theorem Tryz.rtypeCut:(Tryz.prog.cutTypes.find? (·.1 == "internal/reflectlite.rtype")).map (·.2)=some 269:=by kernel_rfl
theorem Tryz.errRow:(List.range Tryz.prog.types.size).all (fun t => !(Tryz.prog.rowNamed t [101,114,114,111,114]) || t == 162)=true:=by kernel_rfl
theorem Tryz.errHandle:typeHandle Tryz.prog 162=.pointer (some ⟨3,162,none⟩):=by kernel_rfl
theorem jxh{W:World}(h:laidMetH Tryz.prog [("errors.errorType",Rows.laid_errors_errorType),("guilloche/sha.cubes",Rows.laid_guilloche_sha_cubes)] W):ErrT W:=by
 have h2:=(laidMetH_iff.1 h).2 ("errors.errorType",Rows.laid_errors_errorType) (by simp[Rows.laid_errors_errorType,DataW.handleName?]);have h3:∃ name u ty,(Rows.laid_errors_errorType:DataW Unit).handleName?=some name/\(Tryz.prog.cutTypes.find? (·.1 == "internal/reflectlite.rtype")).map (·.2)=some u/\ty < Tryz.prog.types.size/\Tryz.prog.rowNamed ty name=true/\W.var? Tryz.prog "errors.errorType"=some #[.iface u (.agg #[typeHandle Tryz.prog ty])]:=h2
 obtain⟨name,u,ty,e1,e2,e3,e4,e5⟩:=h3
 obtain rfl:u=269:=Option.some.inj (e2.symm.trans Tryz.rtypeCut);obtain rfl:name=[101,114,114,111,114]:=(Option.some.inj (show some [101,114,114,111,114]=some name from e1)).symm;have h6:=List.all_eq_true.1 Tryz.errRow ty (List.mem_range.2 e3);rw[e4]at h6;obtain rfl:ty=162:=by simpa using h6
 rw[Tryz.errHandle]at e5
 have:=World.var?_cell Tryz.gErr e5 0
 exact this
end Go.Proofs.YtcpnjmcipainpaaGreatDoor
