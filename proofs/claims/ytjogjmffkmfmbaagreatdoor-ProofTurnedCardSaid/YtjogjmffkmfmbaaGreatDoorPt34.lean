/- Parts of the proof, one behind the other: RlpZa. Each is under no condition but those that it states. -/
import Derived.Test.YtjogjmffkmfmbaaGreatDoorPt30
/- rlp.Why of a fault that holds a fault. -/
namespace Go.Proofs.YtjogjmffkmfmbaaGreatDoor
section
open Go Go.RowKit
set_option linter.unusedSimpArgs false
set_option linter.unusedVariables false
attribute [local go_sem] Oper.semAt_some
theorem at_c (w : World) (b : Nat) (k : Int) (c : Value) (hB : Blk w b (.cells #[.int .i64 k, c] 276)) : Calls Tryz.prog 265 #[.pointer (some ⟨b, 0, none⟩)] w fun e w' => e = .returned (.int .i64 k) ∧ w = w' := by
  have q0 := hB.cell (i := 0) (v := .int .i64 k) (by rfl)
  clear hB
  go_enter Tryz.func265, Tryz.ntmps265
  go_wp2_with fail
  go_ret
  exact ⟨rfl, rfl⟩
theorem Tryz.methodAt (n : Nat) (v : Value) (w : World) : (Go.method (n + 1) 274 v "At").run Tryz.prog w = .ok (265, v) w := by kernel_rfl
def WhyP (w : World) (e : Ending) (w' : World) : Prop := ∃ k : Int, e = .returned (.tuple #[.int .i64 k, .int .i64 2]) ∧ Ext w w'
set_option maxRecDepth 100000 in
set_option maxHeartbeats 2000000 in
theorem why_c (w : World) (b : Nat) (hG : ErrT w) (hF : Fa2 w b) : Calls Tryz.prog 182 #[.iface 274 (.pointer (some ⟨b, 0, none⟩))] w (WhyP w) := by
  have HG := Lib.hid hG
  have HF := Lib.hid hF
  have hM := fun v w => Tryz.methodAt 435 v w
  clear hG hF
  go_enter Tryz.func182, Tryz.ntmps182
  go_wp2_with fail
  have hx1 : Ext w (w.alloc (.cells #[.nilIface] 277)) := (ExtR w).alloc _
  refine (As_place _ w.heap.size b (Blk.new w _)).mono ?_
  rintro e w1 ⟨rfl, hk, hB⟩
  have hE1 : Ext w w1 := hx1.trans' hk (fun z hz e => by have e : z = w.heap.size := e; omega)
  have HF1 := Lib.hid (HF.out.ext hE1)
  have HE1 := Lib.hid hE1
  have q1 := hB.cell (i := 0) (v := .iface 274 (.pointer (some ⟨b, 0, none⟩))) (by rfl)
  clear hk hB hE1 hx1
  go_wp2_with fail
  obtain ⟨c, k, l, hF1, hF2⟩ := HF1.out
  refine (at_c w1 b k _ hF1).mono ?_
  rintro e w2 ⟨rfl, rfl⟩
  clear hF1 hF2 q1
  go_wp2_with fail
  have hx2 : Ext w1 (w1.alloc (.cells #[.int .i64 0] 26)) := (ExtR w1).alloc _
  refine (As_errno _ w1.heap.size b 0 (HG.out.ext (HE1.out.trans hx2)) (HF1.out.ext hx2) (Blk.new w1 _)).mono ?_
  rintro e w3 ⟨rfl, hk, hB⟩
  have HE3 := Lib.hid (HE1.out.trans (hx2.trans' hk (fun z hz e => by have e : z = w1.heap.size := e; omega)))
  have q1 := hB.cell (i := 0) (v := .int .i64 2) (by rfl)
  clear hk hB hx2
  go_wp2_with fail
  go_ret2
  exact ⟨k, rfl, HE3.out⟩
end
end Go.Proofs.YtjogjmffkmfmbaaGreatDoor
