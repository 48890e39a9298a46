/- Parts of the proof, one behind the other: CurG. Each is under no condition but those that it states. -/
import Derived.Test.YtpaacnhboilkkaaGreatDoorPt31
import Derived.Test.YtpaacnhboilkkaaGreatDoorPt27
namespace Go.Proofs.YtpaacnhboilkkaaGreatDoor
set_option linter.unusedSimpArgs false
set_option linter.unusedVariables false
set_option maxRecDepth 100000
set_option maxHeartbeats 16000000
section
open Go Go.RowKit
attribute [local go_sem] Oper.semAt_some
theorem pairs_pathL:∀ l:List UInt8,pairsL (pathL l)=l
 | []=>rfl
 | b :: l=>by
  have h:(b >>> 4) <<< 4 |||(b &&& 15)=b:=by
   have h:∀ b:Fin 256,((UInt8.ofNat b.1) >>> 4) <<< 4 |||((UInt8.ofNat b.1) &&& 15)=UInt8.ofNat b.1:=by decide +kernel
   have:=h ⟨b.toNat,b.toNat_lt⟩
   simpa only[UInt8.ofNat_toNat]using this
  show ((b >>> 4) <<< 4 |||(b &&& 15)) :: pairsL (pathL l)=_
  rw[h,pairs_pathL l]
theorem pairs_path(k:ByteArray):pairsB (pathB k)=k:=by
 unfold pairsB pathB
 show (⟨(pairsL (pathL k.data.toList)).toArray⟩:ByteArray)=k
 rw[pairs_pathL]
end
end Go.Proofs.YtpaacnhboilkkaaGreatDoor
