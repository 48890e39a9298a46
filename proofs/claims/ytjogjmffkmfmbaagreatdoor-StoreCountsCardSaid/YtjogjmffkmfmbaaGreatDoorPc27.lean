/- Parts of the proof, one behind the other: RlpR. Each is under no condition but those that it states. -/
import Derived.Test.YtjogjmffkmfmbaaGreatDoorPc26
import Derived.Test.YtjogjmffkmfmbaaGreatDoorPc9
/- rlp.Split, node.plain, node.Hash of any text. -/
namespace Go.Proofs.YtjogjmffkmfmbaaGreatDoor
section
open Go Go.RowKit
set_option linter.unusedSimpArgs false
set_option linter.unusedVariables false
attribute [local go_sem] Oper.semAt_some
set_option maxRecDepth 100000 in
set_option maxHeartbeats 1000000 in
theorem split_no (w : World) (s : ByteArray) (hs : s.size ≤ 1000000000) (h : cutN s = none) : Calls Tryz.prog 130 #[.string s] w fun e w' => e = .returned (.tuple #[.bool false, .string ⟨#[]⟩, .string ⟨#[]⟩, .int .i64 2]) ∧ Ext w w' := by
  have HC := Lib.hid (cut_no w s hs h)
  clear h
  go_enter Tryz.func130, Tryz.ntmps130
  go_wp2_with fail
  refine HC.out.mono ?_
  rintro e w1 ⟨v, rfl, hE, b, k, rfl, hB, _⟩
  have HE := Lib.hid hE
  have HB := Lib.hid hB
  clear hE hB
  go_wp2_with fail
  refine (show Calls Tryz.prog 61 #[.iface 274 (.pointer (some ⟨b, 0, none⟩)), .iface 26 (.int .i64 2)] w1 fun e w' => e = .returned (.bool true) ∧ w1 = w' from is_fault w1 b k HB.out).mono ?_
  rintro e w2 ⟨rfl, rfl⟩
  go_wp2_with fail
  exact bodyPost_ret (v := .tuple #[.bool false, .string ⟨#[]⟩, .string ⟨#[]⟩, .int .i64 2]) (by simp [results, Tryz.results130, go_sem]) rfl ⟨rfl, HE.out⟩
set_option maxRecDepth 100000 in
set_option maxHeartbeats 1000000 in
theorem plain_no (w : World) (s : ByteArray) (hs : s.size ≤ 1000000000) (h : cutN s = none) : Calls Tryz.prog 178 #[.string s] w fun e w' => e = .returned (optV none) ∧ Ext w w' := by
  have HC := Lib.hid (split_no w s hs h)
  clear h
  go_enter Tryz.func178, Tryz.ntmps178
  go_wp2_with fail
  refine HC.out.mono ?_
  rintro e w1 ⟨rfl, hE⟩
  have HE := Lib.hid hE
  clear hE
  go_wp2_with fail
  go_ret2
  exact ⟨rfl, HE.out⟩
/-- What plain answers of any text. -/
def plainA (s : ByteArray) : Option ByteArray := match cutN s with | some r => plainB s r | none => none
theorem plain_any (w : World) (s : ByteArray) (hs : s.size ≤ 1000000000) : Calls Tryz.prog 178 #[.string s] w fun e w' => e = .returned (optV (plainA s)) ∧ Ext w w' := by
  unfold plainA
  cases h : cutN s with
  | none => exact plain_no w s hs h
  | some r => exact plain_c w s r hs h
set_option maxRecDepth 100000 in
set_option maxHeartbeats 1000000 in
theorem hash_no (w : World) (s : ByteArray) (hs : s.size ≤ 1000000000) (h : cutN s = none) : Calls Tryz.prog 127 #[.string s] w fun e w' => e = .returned (optV none) ∧ Ext w w' := by
  have HC := Lib.hid (plain_no w s hs h)
  clear h
  go_enter Tryz.func127, Tryz.ntmps127
  go_wp2_with fail
  refine HC.out.mono ?_
  rintro e w1 ⟨rfl, hE⟩
  unfold optV
  have HE := Lib.hid hE
  clear hE
  go_wp2_with fail
  go_ret2
  exact ⟨rfl, HE.out⟩
def hashA (s : ByteArray) : Option ByteArray := match cutN s with | some r => hashB s r | none => none
theorem hash_any (w : World) (s : ByteArray) (hs : s.size ≤ 1000000000) : Calls Tryz.prog 127 #[.string s] w fun e w' => e = .returned (optV (hashA s)) ∧ Ext w w' := by
  unfold hashA
  cases h : cutN s with
  | none => exact hash_no w s hs h
  | some r => exact hash_c w s r hs h
end
end Go.Proofs.YtjogjmffkmfmbaaGreatDoor
