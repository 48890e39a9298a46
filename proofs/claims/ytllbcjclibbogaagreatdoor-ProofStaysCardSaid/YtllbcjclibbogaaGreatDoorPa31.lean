/- Parts of the proof, one behind the other: PrfC, PrfD, IterT, PrfE, PrfF, MixH, PrfG, PrfH. Each is under no condition but those that it states. -/
import Derived.Test.YtllbcjclibbogaaGreatDoorPa30
import Derived.Test.YtllbcjclibbogaaGreatDoorPa13
import Derived.Test.YtllbcjclibbogaaGreatDoorPa20
import Derived.Test.YtllbcjclibbogaaGreatDoorPa18
import Derived.Test.YtllbcjclibbogaaGreatDoorPa27
/- proof: Step, claimed. -/
namespace Go.Proofs.YtllbcjclibbogaaGreatDoor
section
open Go Go.RowKit
set_option linter.unusedSimpArgs false
set_option linter.unusedVariables false
attribute [local go_sem] Oper.semAt_some
set_option maxRecDepth 100000 in
set_option maxHeartbeats 4000000 in
theorem cutPre_c (w : World) (s p : ByteArray) (hs : s.size ≤ 1000000) (hp : p.size ≤ 1000000) : Calls Tryz.prog 159 #[.string s, .string p] w fun e w' => e = .returned (.tuple #[.string (if preB p s then s.extract p.size s.size else s), .bool (preB p s)]) ∧ w' = w := by
  have key : Calls Tryz.prog 184 #[.string s, .string p] w fun e w' => e = .returned (.tuple #[.string (if preB p s then s.extract p.size s.size else s), .bool (preB p s)]) ∧ w' = w := by
    obtain ⟨b, hb⟩ : ∃ b, b = preB p s := ⟨_, rfl⟩
    have HB := Lib.hid hb
    rw [← hb]
    cases b with
    | false =>
      clear hb
      rw [if_neg (by simp)]
      go_enter Tryz.func184, Tryz.ntmps184
      go_wp2_with fail
      refine (prefix_c w s p hs hp).mono ?_
      rintro e w1 ⟨rfl, hw1⟩
      rw [hw1, ← HB.out]
      clear hw1
      go_wp2_with fail
      go_ret2
      exact ⟨rfl, rfl⟩
    | true =>
      have hle := pre_size hb.symm
      have c1 : (p.size : Int) ≤ (s.size : Int) := by omega
      clear hb hle
      rw [if_pos rfl]
      go_enter Tryz.func184, Tryz.ntmps184
      go_wp2_with fail
      refine (prefix_c w s p hs hp).mono ?_
      rintro e w1 ⟨rfl, hw1⟩
      rw [hw1, ← HB.out]
      clear hw1
      go_wp2_with fail
      go_ret2
      exact ⟨rfl, rfl⟩
  obtain ⟨r, hr⟩ : ∃ r, r = (if preB p s then s.extract p.size s.size else s) := ⟨_, rfl⟩
  obtain ⟨b, hb⟩ : ∃ b, b = preB p s := ⟨_, rfl⟩
  rw [← hr, ← hb] at key ⊢
  have HK := Lib.hid key
  clear key hr hb
  go_enter Tryz.func159, Tryz.ntmps159
  go_wp2_with fail
  refine HK.out.mono ?_
  rintro e w1 ⟨rfl, hw1⟩
  rw [hw1]
  clear hw1
  go_wp2_with fail
  go_ret2
  exact ⟨rfl, rfl⟩
def Step0 (k : Nat) (pa : ByteArray) (rs : List ByteArray) (p : ByteArray) : Prop :=
  k = 0 ∨ k = 1 ∨ (k = 2 ∧ preB pa p = false) ∨ (k = 3 ∧ p = ⟨#[]⟩) ∨ (k = 3 ∧ ∃ x t, p.data.toList = x :: t ∧ rs[x.toNat]? = some ⟨#[]⟩)
theorem step_zero {d : Nat} {k : Nat} {pa va : ByteArray} {rs : List ByteArray} (hg : GoodW (InlD d) ⟨k, pa, va, rs⟩) {p q : ByteArray} (hp : validN p = true) (hs : stepN ⟨k, pa, va, rs⟩ p = (⟨#[]⟩, q)) : Step0 k pa rs p := by
  cases hc : claimN ⟨k, pa, va, rs⟩ p with
  | some u =>
    rcases step_is hc with ⟨h, _⟩ | ⟨h, h2, _⟩
    · exact .inr (.inl h)
    · exact .inr (.inr (.inr (.inl ⟨h, h2⟩)))
  | none =>
    rcases step_no hg hp hs hc with h | h | h | h | h
    · exact .inl h
    · exact .inr (.inl h.1)
    · exact .inr (.inr (.inl h))
    · exact .inr (.inr (.inr (.inl ⟨h.1, h.2.1⟩)))
    · exact .inr (.inr (.inr (.inr h)))
theorem step_left {n : NodeT} {p : ByteArray} {d : Nat} (hg : GoodW (InlD d) n) (h : (stepN n p).1.size = 0) : stepN n p = (⟨#[]⟩, p) := by
  unfold stepN at h ⊢
  split
  · rename_i h3
    rw [if_pos h3] at h
    cases hpl : p.data.toList with
    | nil => rfl
    | cons x t =>
      rw [hpl] at h
      show (if (n.refs.getD x.toNat ⟨#[]⟩).size = 0 then (⟨#[]⟩, p) else (n.refs.getD x.toNat ⟨#[]⟩, p.extract 1 p.size)) = _
      have h : (if (n.refs.getD x.toNat ⟨#[]⟩).size = 0 then ((⟨#[]⟩ : ByteArray), p) else (n.refs.getD x.toNat ⟨#[]⟩, p.extract 1 p.size)).1.size = 0 := h
      by_cases h0 : (n.refs.getD x.toNat ⟨#[]⟩).size = 0
      · rw [if_pos h0]
      · rw [if_neg h0] at h; exact absurd h h0
  · rename_i h3
    rw [if_neg h3] at h
    split
    · rename_i h2
      rw [if_pos h2] at h
      split
      · rename_i hp
        rw [if_pos hp] at h
        cases hg with
        | ext p r a1 a2 a3 => exact absurd h a2
        | none => cases h2
        | leaf p v => cases h2
        | branch v rs => cases h2
      · rfl
    · rfl
theorem one_three {k : Nat} {pa va : ByteArray} {rs : List ByteArray} {i : Nat} {r : ByteArray} (hi : rs[i]? = some r) : (NodeT.cells ⟨k, pa, va, rs⟩)[3 + i]? = some (.string r) := by
  show (_ :: _ :: _ :: rs.map Value.string)[3 + i]? = _
  rw [show 3 + i = i + 1 + 1 + 1 by omega]
  simp [hi]
set_option maxRecDepth 100000 in
set_option maxHeartbeats 8000000 in
theorem step_c (W : World) (d : Nat) (n : NodeT) (hg : GoodW (InlD d) n) (p : ByteArray) (hp : validN p = true) (hs : p.size ≤ 2000) :
    Calls Tryz.prog 124 #[n.V, .string p] W fun e w' => e = .returned (.tuple #[.string (stepN n p).1, .string (stepN n p).2]) ∧ Ext W w' := by
  have h1 := hg.one (inlP d)
  obtain ⟨⟨r, q⟩, hrq⟩ : ∃ rq, rq = stepN n p := ⟨_, rfl⟩
  rw [← hrq]
  simp only
  have hz : r.size = 0 → r = ⟨#[]⟩ ∧ q = p := fun h => by
    have := step_left hg (p := p) (by rw [← hrq]; exact h)
    rw [this] at hrq
    exact Prod.mk.inj hrq
  obtain ⟨k, pa, va, rs⟩ := n
  have hr : rs.length = 16 := h1.refs
  have hps : pa.size ≤ 12 := h1.path
  have HP := Lib.hid hp
  have HL := Lib.hid hr
  clear h1 hr
  unfold NodeT.V
  have hem : (⟨#[]⟩ : ByteArray).toList.isEmpty = true := by rw [ByteArray.toList_eq]; rfl
  by_cases hr0 : r.size = 0
  case pos =>
    obtain ⟨rfl, rfl⟩ := hz hr0
    have h0 := step_zero hg hp hrq.symm
    clear hz hrq hg hr0 hp
    rcases h0 with rfl | rfl | ⟨rfl, hpre⟩ | ⟨rfl, rfl⟩ | ⟨rfl, x, t, hx, hrx⟩
    · have e0 : (NodeT.cells ⟨0, pa, va, rs⟩)[0]? = some (.int .i64 0) := rfl
      have e1 : (NodeT.cells ⟨0, pa, va, rs⟩)[1]? = some (.string pa) := rfl
      go_enter Tryz.func124, Tryz.ntmps124
      go_wp2_with fail
      go_ret2
      exact ⟨rfl, (ExtR W).alloc _⟩
    · have e0 : (NodeT.cells ⟨1, pa, va, rs⟩)[0]? = some (.int .i64 1) := rfl
      have e1 : (NodeT.cells ⟨1, pa, va, rs⟩)[1]? = some (.string pa) := rfl
      go_enter Tryz.func124, Tryz.ntmps124
      go_wp2_with fail
      go_ret2
      exact ⟨rfl, (ExtR W).alloc _⟩
    · have HPR := Lib.hid hpre
      clear hpre
      have e0 : (NodeT.cells ⟨2, pa, va, rs⟩)[0]? = some (.int .i64 2) := rfl
      have e1 : (NodeT.cells ⟨2, pa, va, rs⟩)[1]? = some (.string pa) := rfl
      go_enter Tryz.func124, Tryz.ntmps124
      go_wp2_with fail
      refine (cutPre_c _ q pa (by omega) (by omega)).mono ?_
      rintro e w1' ⟨rfl, hw1⟩
      rw [hw1, HPR.out, if_neg (by simp)]
      clear hw1
      go_wp2_with fail
      go_ret2
      exact ⟨rfl, (ExtR W).alloc _⟩
    · have e0 : (NodeT.cells ⟨3, pa, va, rs⟩)[0]? = some (.int .i64 3) := rfl
      have e1 : (NodeT.cells ⟨3, pa, va, rs⟩)[1]? = some (.string pa) := rfl
      go_enter Tryz.func124, Tryz.ntmps124
      go_wp2_with fail
      go_ret2
      exact ⟨rfl, (ExtR W).alloc _⟩
    · obtain ⟨h0, hx0⟩ := first_is hx
      have hx16 : x.toNat < 16 := nib_lt (p := (q, q)) HP.out hx
      have e3 := one_three (k := 3) (pa := pa) (va := va) hrx
      rw [← hx0] at e3 hx16
      have hpe : q.toList.isEmpty = false := by
        rw [Bool.eq_false_iff]
        intro e
        rw [List.isEmpty_iff, ByteArray.toList_eq] at e
        rw [hx] at e; cases e
      have c1 : (0 : Int) < (q.size : Int) := by omega
      have c2 : ((q[0]'h0).toNat : Int) < 16 := by omega
      have c3 : (1 : Int) ≤ (q.size : Int) := by omega
      clear hx hrx hx0
      have e0 : (NodeT.cells ⟨3, pa, va, rs⟩)[0]? = some (.int .i64 3) := rfl
      have e1 : (NodeT.cells ⟨3, pa, va, rs⟩)[1]? = some (.string pa) := rfl
      go_enter Tryz.func124, Tryz.ntmps124
      go_wp2_with fail
      go_quiet (fail)
      go_wp2_with fail
      go_ret2
      exact ⟨rfl, ((ExtR W).alloc _).trans (drewNE _ _)⟩
  case neg =>
    have h0 := step_yes hg hp hrq.symm hr0
    have hre : r.toList.isEmpty = false := by
      rw [Bool.eq_false_iff]
      intro e
      rw [List.isEmpty_iff, ByteArray.toList_eq] at e
      exact hr0 (by rw [← size_list, e]; rfl)
    clear hz hrq hg hr0 hp
    rcases h0 with ⟨rfl, hpre, hrr, rfl, hle⟩ | ⟨rfl, x, t, hx, hrx, rfl⟩
    · have HPR := Lib.hid hpre
      clear hpre
      have e0 : (NodeT.cells ⟨2, pa, va, rs⟩)[0]? = some (.int .i64 2) := rfl
      have e1 : (NodeT.cells ⟨2, pa, va, rs⟩)[1]? = some (.string pa) := rfl
      have e3 : (NodeT.cells ⟨2, pa, va, rs⟩)[3]? = some (.string r) := one_three (i := 0) hrr
      clear hrr
      go_enter Tryz.func124, Tryz.ntmps124
      go_wp2_with fail
      refine (cutPre_c _ p pa (by omega) (by omega)).mono ?_
      rintro e w1' ⟨rfl, hw1⟩
      rw [hw1, HPR.out, if_pos rfl]
      clear hw1
      go_wp2_with fail
      go_ret2
      exact ⟨rfl, (ExtR W).alloc _⟩
    · obtain ⟨h0, hx0⟩ := first_is hx
      have hx16 : x.toNat < 16 := nib_lt (p := (p, p)) HP.out hx
      have e3 := one_three (k := 3) (pa := pa) (va := va) hrx
      rw [← hx0] at e3 hx16
      have hpe : p.toList.isEmpty = false := by
        rw [Bool.eq_false_iff]
        intro e
        rw [List.isEmpty_iff, ByteArray.toList_eq] at e
        rw [hx] at e; cases e
      have c1 : (0 : Int) < (p.size : Int) := by omega
      have c2 : ((p[0]'h0).toNat : Int) < 16 := by omega
      have c3 : (1 : Int) ≤ (p.size : Int) := by omega
      clear hx hrx hx0
      have e0 : (NodeT.cells ⟨3, pa, va, rs⟩)[0]? = some (.int .i64 3) := rfl
      have e1 : (NodeT.cells ⟨3, pa, va, rs⟩)[1]? = some (.string pa) := rfl
      go_enter Tryz.func124, Tryz.ntmps124
      go_wp2_with fail
      go_quiet (fail)
      go_wp2_with fail
      go_ret2
      exact ⟨rfl, ((ExtR W).alloc _).trans (drewNE _ _)⟩
end
end Go.Proofs.YtllbcjclibbogaaGreatDoor
/- proof: claimed, follow. -/
namespace Go.Proofs.YtllbcjclibbogaaGreatDoor
section
open Go Go.RowKit
set_option linter.unusedSimpArgs false
set_option linter.unusedVariables false
attribute [local go_sem] Oper.semAt_some
theorem Tryz.isClaim : isStruct (Tryz.prog.underlying 46) = true := by kernel_rfl
theorem Tryz.szClaim : (Tryz.prog.info? 46).map (·.size) = some 2 := by kernel_rfl
def clmL : Option ByteArray → List Value | some u => [.bool true, .string u] | none => [.bool false, .string ⟨#[]⟩]
def clmV (o : Option ByteArray) : Value := .agg (clmL o).toArray
theorem clm_len (o : Option ByteArray) : (clmL o).length = 2 := by cases o <;> rfl
theorem clm_one (o : Option ByteArray) : ∀ v ∈ clmL o, v.oneCell' = true := by
  cases o <;> (intro v hv; simp [clmL] at hv; rcases hv with rfl | rfl <;> rfl)
theorem run_load_clm {w : World} {b : Nat} {o : Option ByteArray} (hB : Blk w b (.cells (clmL o).toArray 46)) : (Instr.loadAt 46 (.pointer (some ⟨b, 0, none⟩))).run Tryz.prog w = .ok (clmV o) w := by
  obtain ⟨fs, hu⟩ := und_struct Tryz.isClaim
  exact run_load_agg hu (by rw [clm_len]; exact Tryz.szClaim) (fun j v hv => by rw [add_none]; exact hB.cellL hv)
theorem run_loadVar_clm {w : World} {b : Nat} {o : Option ByteArray} (hB : Blk w b (.cells (clmL o).toArray 46)) : (loadVar 46 ⟨b, 0, none⟩).run Tryz.prog w = .ok (clmV o) w := by
  have := run_load_clm hB
  simpa [Instr.loadAt, Instr.sureAddr, Sem.run_bind, Result.andThen] using this
theorem Tryz.allocClaim : ∀ w, (Instr.alloc 46 true (.tuple #[])).run Tryz.prog w = .ok (.pointer (some ⟨w.heap.size, 0, none⟩)) (w.alloc (.cells (clmL none).toArray 46)) := fun w => by kernel_rfl
set_option maxRecDepth 100000 in
set_option maxHeartbeats 4000000 in
theorem clm_leaf (W : World) (pa va p : ByteArray) (rs : List ByteArray) (hr : rs.length = 16) :
    Calls Tryz.prog 88 #[(NodeT.mk 1 pa va rs).V, .string pa] W fun e w' => e = .returned (clmV (some va)) ∧ Ext W w' := by
  have HL := Lib.hid (NodeT.cells_len ⟨1, pa, va, rs⟩ hr)
  clear hr
  have hem : (⟨#[]⟩ : ByteArray).toList.isEmpty = true := by rw [ByteArray.toList_eq]; rfl
  skip
  have Q0 := Lib.hid ((Blk.new W (.cells (NodeT.cells ⟨1, pa, va, rs⟩).toArray 60)).cellL (i := 0) (v := .int .i64 1) (by rfl))
  have Q1 := Lib.hid ((Blk.new W (.cells (NodeT.cells ⟨1, pa, va, rs⟩).toArray 60)).cellL (i := 1) (v := .string pa) (by rfl))
  have Q2 := Lib.hid ((Blk.new W (.cells (NodeT.cells ⟨1, pa, va, rs⟩).toArray 60)).cellL (i := 2) (v := .string va) (by rfl))
  unfold NodeT.V
  go_enter Tryz.func88, Tryz.ntmps88
  go_wp2_with (first | (refine wpList_new Tryz.allocClaim rfl rfl ?_; intro W2 hB2 hE2; rw [World.size_alloc] at hB2; have q0 := cell_ext Q0.out hE2; have q1 := cell_ext Q1.out hE2; have q2 := cell_ext Q2.out hE2) | (refine wpList_fill (old := clmL none) (vs := clmL (some va)) rfl rfl rfl rfl hB2 rfl Tryz.szClaim (clm_one _) ?_; intro W8 hB8 hE8))
  refine bodyPost_ret (results_cell rfl rfl (run_loadVar_clm hB8)) rfl ?_
  exact ⟨rfl, (((ExtR W).alloc _).trans hE2).trans' hE8 (fun x hx e => by have e : x = _ := e; have := (((ExtR W).alloc (.cells (NodeT.cells ⟨1, pa, va, rs⟩).toArray 60)) : Ext W _).size; omega)⟩
set_option maxRecDepth 100000 in
set_option maxHeartbeats 4000000 in
theorem clm_leafno (W : World) (pa va p : ByteArray) (rs : List ByteArray) (hr : rs.length = 16) (h : pa ≠ p) :
    Calls Tryz.prog 88 #[(NodeT.mk 1 pa va rs).V, .string p] W fun e w' => e = .returned (clmV (none)) ∧ Ext W w' := by
  have HL := Lib.hid (NodeT.cells_len ⟨1, pa, va, rs⟩ hr)
  clear hr
  have hem : (⟨#[]⟩ : ByteArray).toList.isEmpty = true := by rw [ByteArray.toList_eq]; rfl
  have h1 := toList_ne h
  clear h
  have Q0 := Lib.hid ((Blk.new W (.cells (NodeT.cells ⟨1, pa, va, rs⟩).toArray 60)).cellL (i := 0) (v := .int .i64 1) (by rfl))
  have Q1 := Lib.hid ((Blk.new W (.cells (NodeT.cells ⟨1, pa, va, rs⟩).toArray 60)).cellL (i := 1) (v := .string pa) (by rfl))
  have Q2 := Lib.hid ((Blk.new W (.cells (NodeT.cells ⟨1, pa, va, rs⟩).toArray 60)).cellL (i := 2) (v := .string va) (by rfl))
  unfold NodeT.V
  go_enter Tryz.func88, Tryz.ntmps88
  go_wp2_with (first | (refine wpList_new Tryz.allocClaim rfl rfl ?_; intro W2 hB2 hE2; rw [World.size_alloc] at hB2; have q0 := cell_ext Q0.out hE2; have q1 := cell_ext Q1.out hE2; have q2 := cell_ext Q2.out hE2) | (refine wpList_fill (old := clmL none) (vs := clmL (none)) rfl rfl rfl rfl hB2 rfl Tryz.szClaim (clm_one _) ?_; intro W8 hB8 hE8))
  refine bodyPost_ret (results_cell rfl rfl (run_loadVar_clm hB8)) rfl ?_
  exact ⟨rfl, (((ExtR W).alloc _).trans hE2).trans' hE8 (fun x hx e => by have e : x = _ := e; have := (((ExtR W).alloc (.cells (NodeT.cells ⟨1, pa, va, rs⟩).toArray 60)) : Ext W _).size; omega)⟩
set_option maxRecDepth 100000 in
set_option maxHeartbeats 4000000 in
theorem clm_br (W : World) (pa va p : ByteArray) (rs : List ByteArray) (hr : rs.length = 16) (h : va.size ≠ 0) :
    Calls Tryz.prog 88 #[(NodeT.mk 3 pa va rs).V, .string ⟨#[]⟩] W fun e w' => e = .returned (clmV (some va)) ∧ Ext W w' := by
  have HL := Lib.hid (NodeT.cells_len ⟨3, pa, va, rs⟩ hr)
  clear hr
  have hem : (⟨#[]⟩ : ByteArray).toList.isEmpty = true := by rw [ByteArray.toList_eq]; rfl
  have hne : va.toList.isEmpty = false := by
    rw [Bool.eq_false_iff]
    intro e
    rw [List.isEmpty_iff, ByteArray.toList_eq] at e
    exact h (by rw [← size_list, e]; rfl)
  clear h
  have Q0 := Lib.hid ((Blk.new W (.cells (NodeT.cells ⟨3, pa, va, rs⟩).toArray 60)).cellL (i := 0) (v := .int .i64 3) (by rfl))
  have Q1 := Lib.hid ((Blk.new W (.cells (NodeT.cells ⟨3, pa, va, rs⟩).toArray 60)).cellL (i := 1) (v := .string pa) (by rfl))
  have Q2 := Lib.hid ((Blk.new W (.cells (NodeT.cells ⟨3, pa, va, rs⟩).toArray 60)).cellL (i := 2) (v := .string va) (by rfl))
  unfold NodeT.V
  go_enter Tryz.func88, Tryz.ntmps88
  go_wp2_with (first | (refine wpList_new Tryz.allocClaim rfl rfl ?_; intro W2 hB2 hE2; rw [World.size_alloc] at hB2; have q0 := cell_ext Q0.out hE2; have q1 := cell_ext Q1.out hE2; have q2 := cell_ext Q2.out hE2) | (refine wpList_fill (old := clmL none) (vs := clmL (some va)) rfl rfl rfl rfl hB2 rfl Tryz.szClaim (clm_one _) ?_; intro W8 hB8 hE8))
  refine bodyPost_ret (results_cell rfl rfl (run_loadVar_clm hB8)) rfl ?_
  exact ⟨rfl, (((ExtR W).alloc _).trans hE2).trans' hE8 (fun x hx e => by have e : x = _ := e; have := (((ExtR W).alloc (.cells (NodeT.cells ⟨3, pa, va, rs⟩).toArray 60)) : Ext W _).size; omega)⟩
set_option maxRecDepth 100000 in
set_option maxHeartbeats 4000000 in
theorem clm_brno (W : World) (pa va p : ByteArray) (rs : List ByteArray) (hr : rs.length = 16) (h : va = ⟨#[]⟩) :
    Calls Tryz.prog 88 #[(NodeT.mk 3 pa va rs).V, .string ⟨#[]⟩] W fun e w' => e = .returned (clmV (none)) ∧ Ext W w' := by
  have HL := Lib.hid (NodeT.cells_len ⟨3, pa, va, rs⟩ hr)
  clear hr
  have hem : (⟨#[]⟩ : ByteArray).toList.isEmpty = true := by rw [ByteArray.toList_eq]; rfl
  subst h
  have Q0 := Lib.hid ((Blk.new W (.cells (NodeT.cells ⟨3, pa, ⟨#[]⟩, rs⟩).toArray 60)).cellL (i := 0) (v := .int .i64 3) (by rfl))
  have Q1 := Lib.hid ((Blk.new W (.cells (NodeT.cells ⟨3, pa, ⟨#[]⟩, rs⟩).toArray 60)).cellL (i := 1) (v := .string pa) (by rfl))
  have Q2 := Lib.hid ((Blk.new W (.cells (NodeT.cells ⟨3, pa, ⟨#[]⟩, rs⟩).toArray 60)).cellL (i := 2) (v := .string ⟨#[]⟩) (by rfl))
  unfold NodeT.V
  go_enter Tryz.func88, Tryz.ntmps88
  go_wp2_with (first | (refine wpList_new Tryz.allocClaim rfl rfl ?_; intro W2 hB2 hE2; rw [World.size_alloc] at hB2; have q0 := cell_ext Q0.out hE2; have q1 := cell_ext Q1.out hE2; have q2 := cell_ext Q2.out hE2) | (refine wpList_fill (old := clmL none) (vs := clmL (none)) rfl rfl rfl rfl hB2 rfl Tryz.szClaim (clm_one _) ?_; intro W8 hB8 hE8))
  refine bodyPost_ret (results_cell rfl rfl (run_loadVar_clm hB8)) rfl ?_
  exact ⟨rfl, (((ExtR W).alloc _).trans hE2).trans' hE8 (fun x hx e => by have e : x = _ := e; have := (((ExtR W).alloc (.cells (NodeT.cells ⟨3, pa, ⟨#[]⟩, rs⟩).toArray 60)) : Ext W _).size; omega)⟩
set_option maxRecDepth 100000 in
set_option maxHeartbeats 4000000 in
theorem clm_brp (W : World) (pa va p : ByteArray) (rs : List ByteArray) (hr : rs.length = 16) (h : p.size ≠ 0) :
    Calls Tryz.prog 88 #[(NodeT.mk 3 pa va rs).V, .string p] W fun e w' => e = .returned (clmV (none)) ∧ Ext W w' := by
  have HL := Lib.hid (NodeT.cells_len ⟨3, pa, va, rs⟩ hr)
  clear hr
  have hem : (⟨#[]⟩ : ByteArray).toList.isEmpty = true := by rw [ByteArray.toList_eq]; rfl
  have hne : p.toList.isEmpty = false := by
    rw [Bool.eq_false_iff]
    intro e
    rw [List.isEmpty_iff, ByteArray.toList_eq] at e
    exact h (by rw [← size_list, e]; rfl)
  clear h
  have Q0 := Lib.hid ((Blk.new W (.cells (NodeT.cells ⟨3, pa, va, rs⟩).toArray 60)).cellL (i := 0) (v := .int .i64 3) (by rfl))
  have Q1 := Lib.hid ((Blk.new W (.cells (NodeT.cells ⟨3, pa, va, rs⟩).toArray 60)).cellL (i := 1) (v := .string pa) (by rfl))
  have Q2 := Lib.hid ((Blk.new W (.cells (NodeT.cells ⟨3, pa, va, rs⟩).toArray 60)).cellL (i := 2) (v := .string va) (by rfl))
  unfold NodeT.V
  go_enter Tryz.func88, Tryz.ntmps88
  go_wp2_with (first | (refine wpList_new Tryz.allocClaim rfl rfl ?_; intro W2 hB2 hE2; rw [World.size_alloc] at hB2; have q0 := cell_ext Q0.out hE2; have q1 := cell_ext Q1.out hE2; have q2 := cell_ext Q2.out hE2) | (refine wpList_fill (old := clmL none) (vs := clmL (none)) rfl rfl rfl rfl hB2 rfl Tryz.szClaim (clm_one _) ?_; intro W8 hB8 hE8))
  refine bodyPost_ret (results_cell rfl rfl (run_loadVar_clm hB8)) rfl ?_
  exact ⟨rfl, (((ExtR W).alloc _).trans hE2).trans' hE8 (fun x hx e => by have e : x = _ := e; have := (((ExtR W).alloc (.cells (NodeT.cells ⟨3, pa, va, rs⟩).toArray 60)) : Ext W _).size; omega)⟩
set_option maxRecDepth 100000 in
set_option maxHeartbeats 4000000 in
theorem clm_none (W : World) (pa va p : ByteArray) (rs : List ByteArray) (hr : rs.length = 16) :
    Calls Tryz.prog 88 #[(NodeT.mk 0 pa va rs).V, .string p] W fun e w' => e = .returned (clmV (none)) ∧ Ext W w' := by
  have HL := Lib.hid (NodeT.cells_len ⟨0, pa, va, rs⟩ hr)
  clear hr
  have hem : (⟨#[]⟩ : ByteArray).toList.isEmpty = true := by rw [ByteArray.toList_eq]; rfl
  skip
  have Q0 := Lib.hid ((Blk.new W (.cells (NodeT.cells ⟨0, pa, va, rs⟩).toArray 60)).cellL (i := 0) (v := .int .i64 0) (by rfl))
  have Q1 := Lib.hid ((Blk.new W (.cells (NodeT.cells ⟨0, pa, va, rs⟩).toArray 60)).cellL (i := 1) (v := .string pa) (by rfl))
  have Q2 := Lib.hid ((Blk.new W (.cells (NodeT.cells ⟨0, pa, va, rs⟩).toArray 60)).cellL (i := 2) (v := .string va) (by rfl))
  unfold NodeT.V
  go_enter Tryz.func88, Tryz.ntmps88
  go_wp2_with (first | (refine wpList_new Tryz.allocClaim rfl rfl ?_; intro W2 hB2 hE2; rw [World.size_alloc] at hB2; have q0 := cell_ext Q0.out hE2; have q1 := cell_ext Q1.out hE2; have q2 := cell_ext Q2.out hE2) | (refine wpList_fill (old := clmL none) (vs := clmL (none)) rfl rfl rfl rfl hB2 rfl Tryz.szClaim (clm_one _) ?_; intro W8 hB8 hE8))
  refine bodyPost_ret (results_cell rfl rfl (run_loadVar_clm hB8)) rfl ?_
  exact ⟨rfl, (((ExtR W).alloc _).trans hE2).trans' hE8 (fun x hx e => by have e : x = _ := e; have := (((ExtR W).alloc (.cells (NodeT.cells ⟨0, pa, va, rs⟩).toArray 60)) : Ext W _).size; omega)⟩
set_option maxRecDepth 100000 in
set_option maxHeartbeats 4000000 in
theorem clm_ext (W : World) (pa va p : ByteArray) (rs : List ByteArray) (hr : rs.length = 16) :
    Calls Tryz.prog 88 #[(NodeT.mk 2 pa va rs).V, .string p] W fun e w' => e = .returned (clmV (none)) ∧ Ext W w' := by
  have HL := Lib.hid (NodeT.cells_len ⟨2, pa, va, rs⟩ hr)
  clear hr
  have hem : (⟨#[]⟩ : ByteArray).toList.isEmpty = true := by rw [ByteArray.toList_eq]; rfl
  skip
  have Q0 := Lib.hid ((Blk.new W (.cells (NodeT.cells ⟨2, pa, va, rs⟩).toArray 60)).cellL (i := 0) (v := .int .i64 2) (by rfl))
  have Q1 := Lib.hid ((Blk.new W (.cells (NodeT.cells ⟨2, pa, va, rs⟩).toArray 60)).cellL (i := 1) (v := .string pa) (by rfl))
  have Q2 := Lib.hid ((Blk.new W (.cells (NodeT.cells ⟨2, pa, va, rs⟩).toArray 60)).cellL (i := 2) (v := .string va) (by rfl))
  unfold NodeT.V
  go_enter Tryz.func88, Tryz.ntmps88
  go_wp2_with (first | (refine wpList_new Tryz.allocClaim rfl rfl ?_; intro W2 hB2 hE2; rw [World.size_alloc] at hB2; have q0 := cell_ext Q0.out hE2; have q1 := cell_ext Q1.out hE2; have q2 := cell_ext Q2.out hE2) | (refine wpList_fill (old := clmL none) (vs := clmL (none)) rfl rfl rfl rfl hB2 rfl Tryz.szClaim (clm_one _) ?_; intro W8 hB8 hE8))
  refine bodyPost_ret (results_cell rfl rfl (run_loadVar_clm hB8)) rfl ?_
  exact ⟨rfl, (((ExtR W).alloc _).trans hE2).trans' hE8 (fun x hx e => by have e : x = _ := e; have := (((ExtR W).alloc (.cells (NodeT.cells ⟨2, pa, va, rs⟩).toArray 60)) : Ext W _).size; omega)⟩
theorem claimed_c (W : World) (n : NodeT) (h : n.refs.length = 16) (hk : n.kind ≤ 3) (p : ByteArray) : Calls Tryz.prog 88 #[n.V, .string p] W fun e w' => e = .returned (clmV (claimN n p)) ∧ Ext W w' := by
  obtain ⟨k, pa, va, rs⟩ := n
  have hk : k ≤ 3 := hk
  unfold claimN
  rcases (show k = 0 ∨ k = 1 ∨ k = 2 ∨ k = 3 by omega) with rfl | rfl | rfl | rfl
  · exact clm_none W pa va p rs h
  · rw [if_pos rfl]
    show Calls _ _ _ W fun e w' => e = .returned (clmV (if pa = p then some va else none)) ∧ _
    by_cases he : pa = p
    · subst he; rw [if_pos rfl]; exact clm_leaf W pa va pa rs h
    · rw [if_neg he]; exact clm_leafno W pa va p rs h he
  · exact clm_ext W pa va p rs h
  · rw [if_neg (show ¬ (3 : Nat) = 1 by decide), if_pos rfl]
    show Calls _ _ _ W fun e w' => e = .returned (clmV (if p.size = 0 ∧ va.size ≠ 0 then some va else none)) ∧ _
    by_cases hp : p.size = 0
    · by_cases hv : va.size = 0
      · rw [if_neg (fun e => e.2 hv), ba_empty hp]; exact clm_brno W pa va p rs h (ba_empty hv)
      · rw [if_pos ⟨hp, hv⟩, ba_empty hp]; exact clm_br W pa va p rs h hv
    · rw [if_neg (fun e => hp e.1)]; exact clm_brp W pa va p rs h hp
set_option maxRecDepth 100000 in
set_option maxHeartbeats 8000000 in
theorem wfollow_small (W : World) (wb d : Nat) (r : ByteArray) (m : NodeT) (hI : InlD d r m) :
    Calls Tryz.prog 125 #[.pointer (some ⟨wb, 0, none⟩), .string r] W fun e w' => e = .returned (.tuple #[m.V, .bool true]) ∧ Ext W w' := by
  have hm := (inlP d).refs _ _ hI
  have HI := Lib.hid (fun w => (inlP d).inl _ _ hI w)
  have HM := Lib.hid hm
  have HL := Lib.hid (m.cells_len hm)
  clear hI hm
  go_enter Tryz.func125, Tryz.ntmps125
  go_wp2_with (refine wpList_new Tryz.allocNode rfl rfl ?_; intro W1 hB1 hE1)
  refine (HI.out W1).mono ?_
  rintro e w2 ⟨rfl, hE⟩
  have hB2 := hB1.keeps hE (fun h => h)
  have HE2 := Lib.hid (hE1.trans hE)
  clear hB1 hE1 hE
  unfold NodeT.V
  go_wp2_with (first | (refine wpList_new Tryz.allocNode rfl rfl ?_; intro W3 hB3 hE3; refine wpList_fill (vs := m.cells) rfl rfl rfl rfl hB3 (by rw [HL.out]; rfl) (by rw [HL.out]; exact Tryz.szNode) m.one ?_; intro W4 hB4 hE4; have hB24 := (hB2.keeps hE3 (fun h => h)).keeps hE4 (by have := hB2.lt; omega)) | (refine wpList_load_known 60 (.tmp 6) rfl rfl _ _ rfl (run_load_api _ _ m HM.out hB4) ?_) | (refine wpList_fill (vs := m.cells) rfl rfl rfl rfl hB24 (by rw [HL.out]; rfl) (by rw [HL.out]; exact Tryz.szNode) m.one ?_; intro W8 hB8 hE8))
  refine bodyPost_ret (results_cell_tmp rfl rfl rfl (run_loadVar_api W8 _ m HM.out hB8)) rfl ?_
  have hX4 : Ext w2 W4 := hE3.trans' hE4 (fun x hx e => by have e : x = w2.heap.size := e; omega)
  exact ⟨rfl, (HE2.out.trans hX4).trans' hE8 (fun x hx e => by have e : x = W.heap.size := e; omega)⟩
set_option maxRecDepth 100000 in
set_option maxHeartbeats 8000000 in
theorem wfollow_big (W : World) (wb : Nat) (root : ByteArray) (v : Value) (u : Nat) (ev : Value) (hs : ByteArray) (h32 : hs.size = 32) (hW : WayAt W wb root v u ev) (res : Option NodeT)
    (ht : ∀ w, Ext W w → WayAt w wb root v u ev → Calls Tryz.prog 123 #[.pointer (some ⟨wb, 0, none⟩), .string hs] w (TakeP w wb root v u ev res)) :
    Calls Tryz.prog 125 #[.pointer (some ⟨wb, 0, none⟩), .string (textB hs)] W (TakeP W wb root v u ev res) := by
  have h33 : (textB hs).size = 33 := IsHash.size ⟨hs, h32, rfl⟩
  obtain ⟨qh, h1, h2⟩ := hash_text hs h32
  obtain ⟨r, hr⟩ : ∃ r, r = textB hs := ⟨_, rfl⟩
  rw [← hr] at h33 h1 h2 ⊢
  have HI := Lib.hid (fun w => inl_big w r (by omega))
  have HH := Lib.hid (fun w => hash_c w r qh (by omega) h1)
  rw [h2] at HH
  have HW := Lib.hid hW
  have HLT := Lib.hid hW.lt
  have HT := Lib.hid ht
  clear hr h33 h1 h2 h32 hW ht
  go_enter Tryz.func125, Tryz.ntmps125
  go_wp2_with (refine wpList_new Tryz.allocNode rfl rfl ?_; intro W1 hB1 hE1)
  refine (HI.out W1).mono ?_
  rintro e w2 ⟨rfl, hE⟩
  have hB2 := hB1.keeps hE (fun h => h)
  have HE2 := Lib.hid (hE1.trans hE)
  clear hB1 hE1 hE
  unfold NodeT.V
  go_wp2_with (refine wpList_new Tryz.allocNode rfl rfl ?_; intro W3 hB3 hE3; refine wpList_fill (vs := emptyN.cells) rfl rfl rfl rfl hB3 rfl Tryz.szNode emptyN.one ?_; intro W4 hB4 hE4; have hB24 := (hB2.keeps hE3 (fun h => h)).keeps hE4 (by have := hB2.lt; omega))
  have hX4 : Ext w2 W4 := hE3.trans' hE4 (fun x hx e => by have e : x = w2.heap.size := e; omega)
  have HB4 := Lib.hid hB24
  have HE4 := Lib.hid (HE2.out.trans hX4)
  clear hX4 hB2 hB3 hE3 hB4 hE4 hB24
  refine (HH.out W4).mono ?_
  rintro e w5 ⟨rfl, hE⟩
  have HB5 := Lib.hid (HB4.out.keeps hE (fun h => h))
  have HE5 := Lib.hid (HE4.out.trans hE)
  clear hE HB4 HE4 HE2
  unfold optV
  go_wp2_with fail
  have hW5 : WayAt w5 wb root v u ev := Blk.keeps HW.out HE5.out (fun h => h)
  refine (HT.out w5 HE5.out hW5).mono ?_
  rintro e w6 ⟨hK, hc⟩
  have hB6 := HB5.out.keeps hK (fun e => by have e : W.heap.size = wb := e; have := HLT.out; omega)
  have HK := Lib.hid hK
  clear hK hW5
  cases res with
  | none =>
    obtain ⟨rfl, ev', hER, hWA⟩ := hc
    have HR := Lib.hid hER
    have HWA := Lib.hid hWA
    clear hER hWA
    unfold NodeT.V
    go_wp2_with (refine wpList_fill (vs := emptyN.cells) rfl rfl rfl rfl hB6 rfl Tryz.szNode emptyN.one ?_; intro W8 hB8 hE8)
    refine bodyPost_ret (results_cell_tmp rfl rfl rfl (run_loadVar_api W8 _ emptyN rfl hB8)) rfl ?_
    have hle := HE5.out.size
    refine ⟨((ExtK HE5.out : Keeps (fun b => b = wb) W w5).trans HK.out).trans' hE8 (fun x hx e => by have e : x = W.heap.size := e; omega), rfl, ev', ?_, ?_⟩
    · obtain ⟨b, k, h1, h2, h3⟩ := HR.out
      exact ⟨b, k, h1, h2.keeps hE8 (fun e => by have e : b = W.heap.size := e; have := HB5.out.lt; omega), by omega⟩
    · have h9 : WayAt w6 wb root v u ev' := HWA.out
      exact Blk.keeps h9 hE8 (fun e => by have e : wb = W.heap.size := e; have := HLT.out; omega)
  | some m =>
    obtain ⟨rfl, hWA, hm⟩ := hc
    have HWA := Lib.hid hWA
    have HM := Lib.hid hm
    have HL := Lib.hid (m.cells_len hm)
    clear hWA hm
    unfold NodeT.V
    go_wp2_with (refine wpList_fill (vs := m.cells) rfl rfl rfl rfl hB6 (by rw [HL.out]; rfl) (by rw [HL.out]; exact Tryz.szNode) m.one ?_; intro W8 hB8 hE8)
    refine bodyPost_ret (results_cell_tmp rfl rfl rfl (run_loadVar_api W8 _ m HM.out hB8)) rfl ?_
    have hle := HE5.out.size
    refine ⟨((ExtK HE5.out : Keeps (fun b => b = wb) W w5).trans HK.out).trans' hE8 (fun x hx e => by have e : x = W.heap.size := e; omega), rfl, ?_, HM.out⟩
    have h9 : WayAt w6 wb root v (u + 1) ev := HWA.out
    exact Blk.keeps h9 hE8 (fun e => by have e : wb = W.heap.size := e; have := HLT.out; omega)
end
end Go.Proofs.YtllbcjclibbogaaGreatDoor
/- A range over a function whose loop is never left early: as XIter's law, for iterators that end otherwise where they are done than where yield says no. -/
namespace Go.Proofs.YtllbcjclibbogaaGreatDoor
section
open Go Go.RowKit
set_option linter.unusedSimpArgs false
set_option linter.unusedVariables false

/-- The iterator's contract, towards one who never says no. -/
def IterT (P : Program) (gf : FuncId) (lb : Array Value) (N : Nat) (vals : Nat → Array Value) (M : BSet) (S : BSet → World → Prop) (SE : Nat → BSet → World → Prop) : Prop :=
  ∀ (l : Nat) (C : Nat → BSet → World → Prop) (Cx : Nat → BSet → World → Prop), (∀ k, Supp (C k)) → (∀ k D W, ¬ Cx k D W) →
    ∀ D O W, (∀ k D' W', k < N → C k D' W' → Keeps (fun b => D b ∨ M b) W W' → YieldOwes P l (vals k) D' W' (C (k + 1)) (Cx (k + 1))) →
      C 0 D W → S O W → (∀ b, D b → ¬ O b) →
      CallsIn Fence.wide 0 P gf (#[.func (.yield l) #[] #[]] ++ lb) W (IterPost W M D O N C Cx SE)

set_option maxHeartbeats 1000000 in
/-- THE LAW: 'for .. := range g { body }' in a plain frame. -/
theorem wp_rangeT {P : Program} {g : Operand} {ps : Array Tmp} {assign body : Code} {Q : Exit → Act → World → Prop} {a : Act} {w : World}
    {gf : Nat} {lb : Array Value} (hg : a.eval g = .func (.func gf) #[] lb) (eg : ∀ args w, (callFunc gf args).run P w = .ok (.enter gf args) w)
    {N : Nat} {vals : Nat → Array Value} {M : BSet} {S : BSet → World → Prop} {SE : Nat → BSet → World → Prop} (IS : IterT P gf lb N vals M S SE)
    (hS : Supp S) (hps : ∀ k, (vals k).size = ps.size)
    (C : Nat → BSet → World → Prop) (Cj : Code → Nat → BSet → World → Prop) (hC : ∀ k, Supp (C k)) (hCj : ∀ c k D W, ¬ Cj c k D W)
    (D₀ O₀ : BSet) (h0 : C 0 D₀ w) (hS0 : S O₀ w) (hdis : ∀ b, D₀ b → ¬ O₀ b) (A : Nat → Act → World → Prop) (hA : ∀ k a1 W1 W2, A k a1 W1 → Keeps (fun b => b = w.heap.size + 1) W1 W2 → A k a1 W2)
    (hassign : ∀ (l k : Nat) (W : World) (K : Act → World → Prop), k < N → w.heap.size + 1 < W.heap.size → (∀ a1 W1, Ext W W1 → A k a1 W1 → K a1 W1) →
      assign.wpIn (Fence.wide.inRound l) 0 P (Exit.then K (fun _ _ _ => False)) { tmps := (ps.zip (vals k)).foldl (fun t (p, v) => t.setIfInBounds p v) a.tmps, defers := [] } W)
    (hbody : ∀ (l k : Nat) (D : BSet) (W : World) (a1 : Act), k < N → C k D W → A k a1 W → Keeps (fun b => D₀ b ∨ M b) w W → body.wpIn (Fence.wide.inRound l) 0 P (RoundQ D W (C (k + 1)) (fun c => Cj c (k + 1))) a1 W)
    (hdone : ∀ (D O : BSet) (W : World), Keeps (fun b => D₀ b ∨ M b) w W → C N D W → SE N O W → (∀ b, D b → ¬ O b) → (∀ b, D b → D₀ b ∨ w.heap.size ≤ b) → (∀ b, O b → O₀ b ∨ w.heap.size ≤ b) →
      Blk W w.heap.size (.deferred (some [])) → ¬ D w.heap.size → ¬ O w.heap.size →
      Q .normal { a with defers := { target := .collected w.heap.size, args := #[] } :: a.defers } W)
    (hSE : ∀ k, Supp (SE k)) :
    (Code.rangeFunc g ps assign body).wpIn Fence.wide 0 P Q a w := by
  refine wpIn_rangeFunc ?_
  intro fn _
  show ∃ l mark w₁ d w₁' f args w₂, (Instr.enterLoop fn a.tmps ps assign body none).run P w = _ ∧ _
  obtain ⟨rec, hrec⟩ : ∃ rec : LoopState → Option Code → Loop, rec = fun st pe => { state := st, pending := pe, fn, tmps := a.tmps, params := ps, assign, body, defers := w.heap.size } := ⟨_, rfl⟩
  obtain ⟨W1, hW1⟩ : ∃ W1, (w.alloc (.deferred (some []))).alloc (.loop (rec .ready none)) = W1 := ⟨_, rfl⟩
  have hL1 : Blk W1 (w.heap.size + 1) (.loop (rec .ready none)) := by
    rw [← hW1]; have := Blk.new (w.alloc (.deferred (some []))) (.loop (rec .ready none)); rwa [World.size_alloc] at this
  have hK1 : Blk W1 w.heap.size (.deferred (some [])) := by
    rw [← hW1]; exact (Blk.new w _).alloc _
  have hX1 : Ext w W1 := by rw [← hW1]; exact ((Keeps.refl _ w).alloc _).alloc _
  have hs1 : W1.heap.size = w.heap.size + 2 := by rw [← hW1]; simp
  have hD0 : ∀ b, D₀ b → b < w.heap.size := (hC 0).lt _ _ h0
  have hO0 : ∀ b, O₀ b → b < w.heap.size := hS.lt _ _ hS0
  refine ⟨w.heap.size + 1, [{ target := .collected w.heap.size, args := #[] }], W1, { target := .fn (.func gf) lb, args := #[.func (.yield (w.heap.size + 1)) #[] #[]] }, W1, gf,
    #[.func (.yield (w.heap.size + 1)) #[] #[]] ++ lb, W1, ?_, ?_, ?_, ?_, fun h => by simp [Fence.wide] at h, ?_⟩
  · rw [← hW1, hrec]; exact run_enterLoop_outer _ _ _ _ _
  · simp only [resolve, hg]
    simp [go_sem]
  · intro f' _; trivial
  · simp [invoke, go_sem, eg]
  · -- the consumer's invariant with the two blocks of book-keeping
    let CC : Nat → BSet → World → Prop := fun k D W => ∃ D' : BSet, C k D' W ∧ (∀ b, D b ↔ D' b ∨ b = w.heap.size + 1 ∨ b = w.heap.size) ∧ ¬ D' (w.heap.size + 1) ∧ ¬ D' w.heap.size ∧
      Blk W (w.heap.size + 1) (.loop (rec .ready none)) ∧ Blk W w.heap.size (.deferred (some []))
    let CX : Nat → BSet → World → Prop := fun k D W => ∃ (c : Code) (D' : BSet), Cj c k D' W ∧ (∀ b, D b ↔ D' b ∨ b = w.heap.size + 1 ∨ b = w.heap.size) ∧ ¬ D' (w.heap.size + 1) ∧ ¬ D' w.heap.size ∧
      Blk W (w.heap.size + 1) (.loop (rec .done (some c))) ∧ Blk W w.heap.size (.deferred (some []))
    have sCC : ∀ k, Supp (CC k) := fun k => ⟨fun D W ⟨D', h1, h2, _, _, h3, h4⟩ b hb => by
        rcases (h2 b).1 hb with h | rfl | rfl
        · exact (hC k).lt _ _ h1 b h
        · exact h3.lt
        · exact h4.lt,
      fun D W W' ⟨D', h1, h2, h5, h6, h3, h4⟩ hs hb => ⟨D', (hC k).st _ _ _ h1 hs (fun b h => hb b ((h2 b).2 (.inl h))), h2, h5, h6,
        (hb _ ((h2 _).2 (.inr (.inl rfl)))).trans h3, (hb _ ((h2 _).2 (.inr (.inr rfl)))).trans h4⟩⟩
    have sCX : ∀ k D W, ¬ CX k D W := fun k D W ⟨c, D', h, _⟩ => hCj _ _ _ _ h
    have key := IS (w.heap.size + 1) CC CX sCC sCX (fun b => D₀ b ∨ b = w.heap.size + 1 ∨ b = w.heap.size) O₀ W1 ?_
      ⟨D₀, (hC 0).keeps h0 hX1 (fun _ _ h => h), fun _ => Iff.rfl, fun h => by have := hD0 _ h; omega, fun h => by have := hD0 _ h; omega, hL1, hK1⟩
      (hS.keeps hS0 hX1 (fun _ _ h => h)) (fun b hb ho => by
        have := hO0 b ho
        rcases hb with h | rfl | rfl
        · exact hdis b h ho
        · omega
        · omega)
    · refine CallsIn.mono key ?_
      rintro e W' ⟨⟨v, rfl⟩, D', O', hk, hD', hO', hdis', hcase⟩
      have hkw : Keeps (fun b => D₀ b ∨ M b) w W' := (hX1.mono (fun _ _ h => h.elim)).trans' hk (fun x hx h => by
          rcases h with (h | rfl | rfl) | h
          · exact .inl h
          · omega
          · omega
          · exact .inr h)
      have hOo : ∀ b, O' b → O₀ b ∨ w.heap.size ≤ b := fun b hb => (hO' b hb).imp id (fun h => by omega)
      rcases hcase with ⟨⟨D'', h1, h2, h5, h6, h3, h4⟩, hse⟩ | ⟨k, hk1, hk2, ⟨c, D'', h1, h2, h5, h6, h3, h4⟩, hse⟩
      · have hO1 : ¬ O' (w.heap.size + 1) := hdis' _ ((h2 _).2 (.inr (.inl rfl)))
        have hO2 : ¬ O' w.heap.size := hdis' _ ((h2 _).2 (.inr (.inr rfl)))
        obtain ⟨ox, he⟩ : ∃ ox, (Instr.endLoop (w.heap.size + 1)).run P W' = .ok none (W'.putObj (w.heap.size + 1) ox) := ⟨_, (run_endLoop (r := rec .ready none) h3 (by rw [hrec]; simp)).trans (by rw [hrec])⟩
        have hkl := Keeps.onePut W' (w.heap.size + 1) ox
        refine ⟨none, _, he, ?_⟩
        refine hdone D'' O' _ (hkw.trans' hkl (fun x hx e => by omega)) ((hC N).keeps h1 hkl (fun b hb e => h5 (e ▸ hb))) ((hSE N).keeps hse hkl (fun b hb e => hO1 (e ▸ hb)))
          (fun b hb ho => hdis' b ((h2 b).2 (.inl hb)) ho) (fun b hb => ?_) hOo (h4.put_other (by omega) _) h6 hO2
        rcases hD' b ((h2 b).2 (.inl hb)) with (h | rfl | rfl) | h
        · exact .inl h
        · exact absurd hb h5
        · exact absurd hb h6
        · exact .inr (by omega)
      · exact (hCj _ _ _ _ h1).elim
    · rintro k D W hk ⟨D', h1, h2, h5, h6, h3, h4⟩ hkk
      have hkw : Keeps (fun b => D₀ b ∨ M b) w W := (hX1.mono (fun _ _ h => h.elim)).trans' hkk (fun x hx h => by
          rcases h with (h | rfl | rfl) | h
          · exact .inl h
          · omega
          · omega
          · exact .inr h)
      have hD1 : D (w.heap.size + 1) := (h2 _).2 (.inr (.inl rfl))
      refine ⟨_, _, _, _, run_yield h3 (by rw [hrec]; exact hps k), ?_⟩
      refine roundIn_of_wpIn trivial ?_
      rw [show (rec .ready none).tmps = a.tmps from by rw [hrec], show (rec .ready none).params = ps from by rw [hrec], show (rec .ready none).assign = assign from by rw [hrec], show (rec .ready none).body = body from by rw [hrec]]
      refine hassign _ k W _ hk h3.lt ?_
      intro a1 W1 hX hA1
      have h1 := (hC k).keeps h1 hX (fun _ _ h => h)
      have h3 := h3.keeps hX (fun h => h)
      have h4 := h4.keeps hX (fun h => h)
      have hkw := hkw.trans' hX (fun _ _ h => h.elim)
      have hXs := hX.size
      refine ⟨_, run_beginRound h3 (by rw [hrec]), ?_⟩
      have hkb : Keeps (fun b => b = w.heap.size + 1) W1 (W1.putObj (w.heap.size + 1) (.loop { rec .ready none with state := .busy })) := Keeps.onePut _ _ _
      have hsz : w.heap.size ≤ W1.heap.size := by have := h4.lt; omega
      refine Code.wpIn_mono ?_ (hbody (w.heap.size + 1) k D' _ a1 hk ((hC k).keeps h1 hkb (fun b hb e => h5 (e ▸ hb))) (hA k a1 _ _ hA1 hkb) (hkw.trans' hkb (fun x hx e => by omega)))
      have fin : ∀ (j : Option Code) (D'' : BSet) (W1' : World), Keeps D' (W1.putObj (w.heap.size + 1) (.loop { rec .ready none with state := .busy })) W1' →
          (∀ b, D'' b → D' b ∨ (W1.putObj (w.heap.size + 1) (.loop { rec .ready none with state := .busy })).heap.size ≤ b) →
          (Instr.endRound (w.heap.size + 1) j).run P W1' = .ok (.bool j.isNone) (W1'.putObj (w.heap.size + 1) (.loop (rec (if j.isNone then .ready else .done) j))) ∧
          Keeps D W1 (W1'.putObj (w.heap.size + 1) (.loop (rec (if j.isNone then .ready else .done) j))) ∧
          Keeps (fun b => b = w.heap.size + 1) W1' (W1'.putObj (w.heap.size + 1) (.loop (rec (if j.isNone then .ready else .done) j))) ∧
          (∀ b, (D'' b ∨ b = w.heap.size + 1 ∨ b = w.heap.size) → D b ∨ W1.heap.size ≤ b) ∧ ¬ D'' (w.heap.size + 1) ∧ ¬ D'' w.heap.size ∧
          Blk (W1'.putObj (w.heap.size + 1) (.loop (rec (if j.isNone then .ready else .done) j))) (w.heap.size + 1) (.loop (rec (if j.isNone then .ready else .done) j)) ∧
          Blk (W1'.putObj (w.heap.size + 1) (.loop (rec (if j.isNone then .ready else .done) j))) w.heap.size (.deferred (some [])) := by
        intro j D'' W1' hK hD''
        have hl : Blk W1' (w.heap.size + 1) (.loop { rec .ready none with state := .busy }) := (h3.put_same _).keeps hK h5
        have hd : Blk W1' w.heap.size (.deferred (some [])) := (h4.put_other (by omega) _).keeps hK h6
        have hke : Keeps (fun b => b = w.heap.size + 1) W1' (W1'.putObj (w.heap.size + 1) (.loop (rec (if j.isNone then .ready else .done) j))) := Keeps.onePut _ _ _
        rw [World.putObj_size] at hD''
        have hlt3 := h3.lt
        have hlt4 := h4.lt
        refine ⟨?_, ?_, hke, ?_, ?_, ?_, ?_, ?_⟩
        · rw [run_endRound j hl, hrec]
        · exact ((hkb.mono (fun x _ e => e ▸ hD1)).trans' hK (fun x hx h => (h2 x).2 (.inl h))).trans' hke (fun x hx e => e ▸ hD1)
        · rintro b (h | rfl | rfl)
          · exact (hD'' b h).imp (fun h => (h2 b).2 (.inl h)) id
          · exact .inl hD1
          · exact .inl ((h2 _).2 (.inr (.inr rfl)))
        · intro h; rcases hD'' _ h with h | h
          · exact h5 h
          · omega
        · intro h; rcases hD'' _ h with h | h
          · exact h6 h
          · omega
        · exact hl.put_same _
        · exact hd.put_other (by omega) _
      intro e a' W1' hq
      cases e with
      | normal =>
        obtain ⟨D'', hK, hD'', hc⟩ := hq
        obtain ⟨f1, f2, f3, f4, f5, f6, f7, f8⟩ := fin none D'' W1' hK hD''
        exact ⟨_, _, f1, fun b => D'' b ∨ b = w.heap.size + 1 ∨ b = w.heap.size, (hX.mono (fun _ _ h => h.elim)).trans f2, fun b hb => (f4 b hb).imp id (fun h => Nat.le_trans hXs h), .inl ⟨rfl, D'', (hC _).keeps hc f3 (fun b hb e => f5 (e ▸ hb)), fun _ => Iff.rfl, f5, f6, f7, f8⟩⟩
      | ret =>
        obtain ⟨D'', hK, hD'', hc⟩ := hq
        obtain ⟨f1, f2, f3, f4, f5, f6, f7, f8⟩ := fin (some .ret) D'' W1' hK hD''
        exact ⟨_, _, f1, fun b => D'' b ∨ b = w.heap.size + 1 ∨ b = w.heap.size, (hX.mono (fun _ _ h => h.elim)).trans f2, fun b hb => (f4 b hb).imp id (fun h => Nat.le_trans hXs h), .inr ⟨rfl, .ret, D'', (hCj _ _ _ _ hc).elim, fun _ => Iff.rfl, f5, f6, f7, f8⟩⟩
      | exit i =>
        obtain ⟨D'', hK, hD'', hc⟩ := hq
        obtain ⟨f1, f2, f3, f4, f5, f6, f7, f8⟩ := fin (some (.exit i)) D'' W1' hK hD''
        exact ⟨_, _, f1, fun b => D'' b ∨ b = w.heap.size + 1 ∨ b = w.heap.size, (hX.mono (fun _ _ h => h.elim)).trans f2, fun b hb => (f4 b hb).imp id (fun h => Nat.le_trans hXs h), .inr ⟨rfl, .exit i, D'', (hCj _ _ _ _ hc).elim, fun _ => Iff.rfl, f5, f6, f7, f8⟩⟩
      | goto t => exact hq.elim
      | panic ch => exact hq.elim
      | outgrown => exact hq.elim
end
end Go.Proofs.YtllbcjclibbogaaGreatDoor
/- proof: met, as an iterator. -/
namespace Go.Proofs.YtllbcjclibbogaaGreatDoor
section
open Go Go.RowKit
set_option linter.unusedSimpArgs false
set_option linter.unusedVariables false
attribute [local go_sem] Oper.semAt_some
section wide
variable {P : Program}
theorem wpIn_of_wpW {o : Oper} {a : Act} {w : World} {K : Act → World → Prop} {Q : Exit → Act → World → Prop} (hd : ∀ c, o.op ≠ .defer c) (h : o.wp P a w K (fun _ _ _ => False)) :
    o.wpIn Fence.wide 0 P a w K Q := by
  unfold Oper.wp at h
  refine ⟨fun _ _ => trivial, ?_⟩
  rw [Oper.semAt_eq _ _ _ hd]
  generalize (execOp a.eval o).run P w = r at *
  cases r with
  | ok x w' =>
    cases x with
    | value v => exact h
    | skip => exact h
    | defer d => exact h
    | enter f args =>
      refine And.intro (fun hh => absurd hh (by simp [Fence.wide])) (callsIn_wide.2 (Calls.mono h fun e w'' he => ?_))
      cases e with
      | returned v => exact he
      | panicked c => exact he.elim
      | outgrown => exact absurd he (fun ⟨_, _, h⟩ => h)
    | row r args => exact And.intro (fun hh => absurd hh (by simp [Fence.wide])) (fun c cs _ => let ⟨v, w', r, s⟩ := h c cs; ⟨v, w', r, stepsIn_wide.2 s⟩)
    | round l f t a b => exact h.elim
    | _ => exact h.elim
  | halt x w' =>
    cases x <;> first | exact h.elim | exact h
/-- A new variable, inside the wide fence, its world a letter. -/
theorem wpListIn_newW {ops : Array Oper} {rest : List Oper} {o : Oper} {a : Act} {w : World} {Q : Exit → Act → World → Prop} {T : TypeId} {cs : List Value} (hrun : ∀ w, (Instr.alloc T true (.tuple #[])).run P w = .ok (.pointer (some ⟨w.heap.size, 0, none⟩)) (w.alloc (.cells cs.toArray T))) (hgd : o.guard = none) (ho : o.op = .alloc T)
    (h : ∀ W, Blk W w.heap.size (.cells cs.toArray T) → Ext w W → wpListIn Fence.wide 0 P ops Q rest (a.put o.dst (.pointer (some ⟨w.heap.size, 0, none⟩))) W) : wpListIn Fence.wide 0 P ops Q (o :: rest) a w :=
  wpListIn_plain hgd fun K hK => wpIn_of_wpW (by rw [ho]; intro c hc; cases hc) (wp_value (v := .pointer (some ⟨w.heap.size, 0, none⟩)) (w' := w.alloc (.cells cs.toArray T)) (by simp only [execOp, ho, Sem.run_bind, hrun, Result.andThen, Sem.run_pure]) (hK _ _ (h _ (Blk.new w _) ((ExtR w).alloc _))))
/-- An array or a struct stored over a whole block, inside the wide fence. -/
theorem wpListIn_fillW {ops : Array Oper} {rest : List Oper} {o : Oper} {a : Act} {w : World} {Q : Exit → Act → World → Prop} {T T2 : TypeId} {x y : Operand} {b : Nat} {old vs : List Value} (hgd : o.guard = none) (ho : o.op = .store T x y) (hx : a.eval x = .pointer (some ⟨b, 0, none⟩)) (hy : a.eval y = .agg vs.toArray)
    (hB : Blk w b (.cells old.toArray T2)) (hl : old.length = vs.length) (hi : (P.info? T).map (·.size) = some vs.length) (h1 : ∀ v ∈ vs, v.oneCell' = true)
    (h : ∀ W, Blk W b (.cells vs.toArray T2) → Keeps (fun z => z = b) w W → wpListIn Fence.wide 0 P ops Q rest (a.put o.dst undef) W) : wpListIn Fence.wide 0 P ops Q (o :: rest) a w := by
  refine wpListIn_plain hgd fun K hK => wpIn_of_wpW (by rw [ho]; intro c hc; cases hc) ?_
  refine wp_store_mid T x y ho b 0 vs.toArray hx hy (by have := thereOf hB; rw [hl] at this; simpa using this) (by simpa using hi) (all_oneCell_toArray h1) (hK _ _ (h _ ?_ (Keeps.oneSetCells b vs 0 w)))
  have := Blk.setCells vs 0 w old hB (by omega)
  rw [List.drop_of_length_le (by omega)] at this
  simpa using this
end wide
theorem textH_inj {a b : ByteArray} (ha : a.size = 32) (hb : b.size = 32) (h : textB a = textB b) : a = b := by
  obtain ⟨q, h1, h2⟩ := hash_text a ha
  obtain ⟨r, k1, k2⟩ := hash_text b hb
  rw [h] at h1 h2
  rw [h1] at k1
  obtain rfl := Option.some.inj k1
  rw [h2] at k2
  exact Option.some.inj k2
theorem step_ref {d : Nat} {n : NodeT} {p r q : ByteArray} (hg : GoodW (InlD d) n) (hp : validN p = true) (hs : stepN n p = (r, q)) (hr : r.size ≠ 0) : MayP (InlD d) r ∧ q.size < p.size ∧ validN q = true := by
  obtain ⟨k, pa, va, rs⟩ := n
  have hy := step_yes hg hp hs hr
  rcases hy with ⟨rfl, h1, h2, rfl, h3⟩ | ⟨rfl, x, t, h1, h2, rfl⟩
  · cases hg with
    | ext p' r' a1 a2 a3 =>
      have e : r' = r := Option.some.inj h2
      subst e
      have hps : 1 ≤ pa.size := by
        unfold NodeT.pathOk at a1
        simp only [Bool.and_eq_true, decide_eq_true_eq] at a1
        exact a1.1.1
      refine ⟨a3.imp id (fun ⟨m, h, _⟩ => ⟨m, h⟩), by rw [ext_size]; omega, valid_ext hp _ _⟩
  · cases hg with
    | branch v rs a1 a2 a3 a4 =>
      have hps : 0 < p.size := by
        have := congrArg List.length h1
        rw [size_list] at this; simp at this; omega
      exact ⟨a3 r (List.mem_of_getElem? h2) hr, by rw [ext_size]; omega, valid_ext hp _ _⟩
/-- What is there ahead of a way. -/
structure PrS (W0 : World) (wb : Nat) (v : Value) (nodes : List ByteArray) : Prop where
  cubes : Cubes W0
  rd : RdS W0 v nodes
  lo : W0.heap.size ≤ wb
  few : nodes.length ≤ 1000000
  get : GetAll W0 nodes
theorem PrS.at' {W0 W : World} {wb : Nat} {v : Value} {nodes : List ByteArray} (h : PrS W0 wb v nodes) (hz : W0.heap.size ≤ W.heap.size) (hb : ∀ b, b < W0.heap.size → W.heap[b]? = W0.heap[b]?) : PrB { W with heap := W0.heap } W wb v nodes :=
  ⟨h.cubes, h.rd, ⟨rfl, rfl, rfl, hz, fun b hl _ => hb b hl⟩, h.lo, h.few, h.get⟩
structure MetS (W0 : World) (b1 wb pc : Nat) (root : ByteArray) (v : Value) (p0 : ByteArray) (O : BSet) (W : World) : Prop where
  is : ∀ b, O b ↔ b < W0.heap.size ∨ b = b1 ∨ b = wb ∨ b = pc
  size : W0.heap.size ≤ W.heap.size
  old : ∀ b, b < W0.heap.size → W.heap[b]? = W0.heap[b]?
  way : WayAt W wb root v 0 .nilIface
  cap : Blk W b1 (.cells #[.pointer (some ⟨wb, 0, none⟩)] 175)
  path : Blk W pc (.cells #[.string p0] 9)
theorem MetS.supp (W0 : World) (b1 wb pc : Nat) (root : ByteArray) (v : Value) (p0 : ByteArray) : Supp (MetS W0 b1 wb pc root v p0) := by
  refine ⟨fun D W h b hb => ?_, fun D W W' h hz hb => ⟨h.is, Nat.le_trans h.size hz, fun b hl => (hb b ((h.is b).2 (.inl hl))).trans (h.old b hl), (hb _ ((h.is _).2 (.inr (.inr (.inl rfl))))).trans h.way, (hb _ ((h.is _).2 (.inr (.inl rfl)))).trans h.cap, (hb _ ((h.is _).2 (.inr (.inr (.inr rfl))))).trans h.path⟩⟩
  rcases (h.is b).1 hb with h1 | rfl | rfl | rfl
  · exact Nat.lt_of_lt_of_le h1 h.size
  · exact h.cap.lt
  · exact Blk.lt h.way
  · exact h.path.lt
def EndW (wb : Nat) (root : ByteArray) (v : Value) (nodes rest : List ByteArray) (okf : Bool) (O : BSet) (W : World) : Prop :=
  ∃ (u : Nat) (ev : Value), WayAt W wb root v u ev ∧ ((okf = true ∧ ev = .nilIface ∧ u + rest.length = nodes.length) ∨
    (okf = false ∧ ∃ (eb : Nat) (k : Int), O eb ∧ ev = .iface 139 (.pointer (some ⟨eb, 0, none⟩)) ∧ Blk W eb (.cells #[.int .i64 k, prfE] 141)))
def MetE (wb : Nat) (root : ByteArray) (v : Value) (nodes rest : List ByteArray) (okf : Bool) (_ : Nat) (O : BSet) (W : World) : Prop := (∀ b, O b → b < W.heap.size) ∧ O wb ∧ EndW wb root v nodes rest okf O W
theorem MetE.supp (wb : Nat) (root : ByteArray) (v : Value) (nodes rest : List ByteArray) (okf : Bool) (k : Nat) : Supp (MetE wb root v nodes rest okf k) :=
  ⟨fun D W h b hb => h.1 b hb, fun D W W' ⟨h1, h2, u, ev, h3, h4⟩ hz hb => ⟨fun b h => Nat.lt_of_lt_of_le (h1 b h) hz, h2, u, ev, (hb _ h2).trans h3, h4.imp id (fun ⟨e, eb, k, ho, e2, hB⟩ => ⟨e, eb, k, ho, e2, (hb _ ho).trans hB⟩)⟩⟩
def atV (vs : List (NodeT × ByteArray)) (k : Nat) : NodeT × ByteArray := vs.getD k (emptyN, ⟨#[]⟩)
def meV (vs : List (NodeT × ByteArray)) (k : Nat) : Array Value := #[(atV vs k).1.V, .string (atV vs k).2]
structure MtR (W : World) (wb b1 pc L : Nat) (C : Nat → BSet → World → Prop) (D : BSet) (k : Nat) (Dk : BSet) (p : ByteArray) (n : NodeT) (wr : World) : Prop where
  at' : C k Dk wr
  sub : ∀ b, Dk b → D b ∨ W.heap.size ≤ b
  kp : Keeps (fun b => D b ∨ b = wb ∨ b = pc) W wr
  path : Blk wr pc (.cells #[.string p] 9)
  var : Blk wr L (.cells n.cells.toArray 60)
  nL : ¬ Dk L
  len : n.refs.length = 16
structure MtGo (wb : Nat) (root : ByteArray) (v : Value) (nodes : List ByteArray) (vs : List (NodeT × ByteArray)) (rest : List ByteArray) (okf : Bool) (k u f d : Nat) (p : ByteArray) (n : NodeT) (wr : World) : Prop where
  way : WayAt wr wb root v u .nilIface
  run : runN f (nodes.drop u) n p = (vs.drop k, rest, okf)
  lt : k < vs.length
  fuel : p.size ≤ f
  valid : validN p = true
  size : p.size ≤ 2000
  good : GoodW (InlD d) n
  le : u ≤ nodes.length
def MtEnd (z wb : Nat) (root : ByteArray) (v : Value) (vs : List (NodeT × ByteArray)) (okf : Bool) (k : Nat) (Dk : BSet) (wr : World) : Prop :=
  k = vs.length ∧ okf = false ∧ ∃ (u eb : Nat) (ek : Int), ¬ Dk eb ∧ z ≤ eb ∧ WayAt wr wb root v u (.iface 139 (.pointer (some ⟨eb, 0, none⟩))) ∧ Blk wr eb (.cells #[.int .i64 ek, prfE] 141)
def MtRel (W : World) (wb b1 pc L : Nat) (root : ByteArray) (v : Value) (nodes : List ByteArray) (vs : List (NodeT × ByteArray)) (rest : List ByteArray) (okf : Bool) (C : Nat → BSet → World → Prop) (D : BSet) (okv : Value) (wr : World) : Prop :=
  ∃ k Dk p n, MtR W wb b1 pc L C D k Dk p n wr ∧ ((okv = .bool true ∧ ∃ u f d, MtGo wb root v nodes vs rest okf k u f d p n wr) ∨ (okv = .bool false ∧ MtEnd W.heap.size wb root v vs okf k Dk wr))
def mtM (pc : Nat) (okv : Value) (wr : World) : Nat := match okv, wr.cell? ⟨pc, 0, none⟩ with | .bool true, some pv => strSz pv + 1 | _, _ => 0
noncomputable def onW (hs : ByteArray) (g : Nat) (n : NodeT) (p q : ByteArray) : List ByteArray → List (NodeT × ByteArray) × List ByteArray × Bool
  | [] => ([(n, p)], [], false)
  | t :: ts => if shaB t = hs then (match getN t with
      | some m => ((n, p) :: (runN g ts m q).1, (runN g ts m q).2)
      | none => ([(n, p)], t :: ts, false))
    else ([(n, p)], t :: ts, false)
/-- What a step on the way comes to. -/
theorem run_at (w : World) {d f : Nat} {ts : List ByteArray} {n : NodeT} {p r q : ByteArray} {xs : List (NodeT × ByteArray) × List ByteArray × Bool} (hg : GoodW (InlD d) n) (hp : validN p = true) (hf : p.size ≤ f) (hs : stepN n p = (r, q)) (hx : runN f ts n p = xs) :
    (r.size = 0 ∧ xs = ([(n, p)], ts, true)) ∨
    (r.size ≠ 0 ∧ ∃ g, f = g + 1 ∧ q.size ≤ g ∧ q.size < p.size ∧ validN q = true ∧
      ((∃ d' m, d = d' + 1 ∧ InlD d r m ∧ GoodW (InlD d') m ∧ xs = ((n, p) :: (runN g ts m q).1, (runN g ts m q).2)) ∨
       ∃ hs, hs.size = 32 ∧ r = textB hs ∧ xs = onW hs g n p q ts)) := by
  by_cases hr : r.size = 0
  · refine .inl ⟨hr, ?_⟩
    cases f with
    | zero => exact hx.symm
    | succ f => rw [runN_succ, hs, if_pos hr] at hx; exact hx.symm
  · obtain ⟨hm, h1, h2⟩ := step_ref hg hp hs hr
    obtain ⟨g, rfl⟩ : ∃ g, f = g + 1 := ⟨f - 1, by omega⟩
    refine .inr ⟨hr, g, rfl, by omega, h1, h2, ?_⟩
    rw [runN_succ, hs, if_neg hr] at hx
    rcases hm with ⟨hh, hh1, hh2⟩ | ⟨m, hI⟩
    · refine .inr ⟨hh, hh1, hh2, ?_⟩
      have h33 : r.size = 33 := IsHash.size ⟨hh, hh1, hh2⟩
      rw [if_neg (show ¬ (r, q).1.size < 32 by show ¬ r.size < 32; omega)] at hx
      rw [← hx]
      cases ts with
      | nil => rfl
      | cons t ts =>
        show (if textB (shaB t) = r then _ else _) = (if shaB t = hh then _ else _)
        by_cases he : shaB t = hh
        · rw [if_pos he, if_pos (by rw [he, hh2])]; rfl
        · rw [if_neg he, if_neg (fun e => he (textH_inj (shaB_size t) hh1 (e.trans hh2)))]
    · left
      cases d with
      | zero => exact hI.elim
      | succ d =>
        refine ⟨d, m, rfl, hI, hI.1, ?_⟩
        have hsm := (inlP _).small _ _ hI
        rw [if_pos (show (r, q).1.size < 32 from hsm)] at hx
        have hIs : IsNode r m := ⟨hI.2.1, d, hI.1⟩
        have e : nodeOf r = m := isNode_inj w (nodeOf_is hIs) hIs
        rw [← hx]
        show ((n, p) :: (runN g ts (nodeOf r) q).1, (runN g ts (nodeOf r) q).2) = _
        rw [e]
end
end Go.Proofs.YtllbcjclibbogaaGreatDoor
/- proof: met, as an iterator: the walk. -/
namespace Go.Proofs.YtllbcjclibbogaaGreatDoor
section
open Go Go.RowKit
set_option linter.unusedSimpArgs false
set_option linter.unusedVariables false
attribute [local go_sem] Oper.semAt_some
theorem wpListIn_load_known_w {F : Fence} {n : Nat} {P : Program} {w : World} {ops : Array Oper} {rest : List Oper} {o : Oper} {a : Act} {Q : Exit → Act → World → Prop} (t : TypeId) (x : Operand) (ho : o.op = .load t x) (hw : Region.wanted o (yielded ops a.tmps) = true) (v : Value) (p : Addr) (hx : a.eval x = .pointer (some p))
    (hr : (Instr.loadAt t (.pointer (some p))).run P w = .ok v w) (h : wpListIn F n P ops Q rest (a.put o.dst v) w) : wpListIn F n P ops Q (o :: rest) a w := by
  refine wpListIn_step fun K hK' => ?_
  rw [if_pos hw]
  unfold Oper.wpIn
  refine ⟨?_, ?_⟩
  · simp [Oper.about, ho]
  · rw [Oper.semAt_plain F _ _ (by rw [ho]; intro c hc'; cases hc')]
    simp only [execOp, ho, hx, Sem.run_bind, hr, Result.andThen, Sem.run_pure]
    exact hK' _ _ h
theorem Tryz.enterTake : ∀ args w, (callFunc 123 args).run Tryz.prog w = .ok (.enter 123 args) w := fun _ _ => by kernel_rfl
theorem take_any (W0 W : World) (wb : Nat) (root : ByteArray) (v : Value) (nodes : List ByteArray) (u : Nat) (ev : Value) (hash : ByteArray) (hB : PrB W0 W wb v nodes) (hW : WayAt W wb root v u ev) (hu : u ≤ nodes.length) :
    Calls Tryz.prog 123 #[.pointer (some ⟨wb, 0, none⟩), .string hash] W (TakeP W wb root v u ev (takeN nodes u hash)) := by
  have := hB.few
  unfold takeN
  cases h : nodes[u]? with
  | none => exact take_end W0 W wb root v nodes u ev hash hB hW h (by omega)
  | some t => exact take_at W0 W wb root v nodes u ev hash t hB hW h
theorem TakeP.split {W : World} {wb : Nat} {root : ByteArray} {v : Value} {u : Nat} {ev : Value} {r : Option NodeT} {e : Ending} {w' : World} (h : TakeP W wb root v u ev r e w') :
    ∃ m okb, e = .returned (.tuple #[m.V, .bool okb]) ∧ m.refs.length = 16 ∧ Keeps (fun b => b = wb) W w' ∧ ((okb = true ∧ r = some m ∧ WayAt w' wb root v (u + 1) ev) ∨ (okb = false ∧ r = none ∧ ∃ ev', ErrW W.heap.size w' ev' ∧ WayAt w' wb root v u ev')) := by
  obtain ⟨hK, hc⟩ := h
  cases r with
  | none => exact ⟨emptyN, false, hc.1, rfl, hK, .inr ⟨rfl, rfl, hc.2⟩⟩
  | some m => exact ⟨m, true, hc.1, hc.2.2, hK, .inl ⟨rfl, rfl, hc.2.1⟩⟩
theorem WayAt.root' {W : World} {wb : Nat} {root : ByteArray} {v : Value} {u : Nat} {ev : Value} (h : WayAt W wb root v u ev) : W.cell? ⟨wb, 0, none⟩ = some (.string root) := Blk.cell (i := 0) h (by rfl)
theorem getN_good {t : ByteArray} {m : NodeT} (h : getN t = some m) : ∃ d, GoodW (InlD d) m := by
  unfold getN at h
  split at h
  · rename_i hn
    obtain ⟨n, hn⟩ := hn
    obtain ⟨_, f, h2⟩ := nodeOf_is hn
    rw [Option.some.inj h] at h2
    exact ⟨f, h2⟩
  · cases h
theorem run_ne (f : Nat) (ts : List ByteArray) (n : NodeT) (p : ByteArray) : ∃ t, (runN f ts n p).1 = (n, p) :: t := by
  cases f with
  | zero => exact ⟨_, rfl⟩
  | succ f =>
    rw [runN_succ]
    split
    · exact ⟨_, rfl⟩
    · split
      · exact ⟨_, rfl⟩
      · split
        · exact ⟨_, rfl⟩
        · split
          · split
            · exact ⟨_, rfl⟩
            · exact ⟨_, rfl⟩
          · exact ⟨_, rfl⟩
theorem drop_cons {α : Type} {l t : List α} {k : Nat} {x d : α} (h : l.drop k = x :: t) : k < l.length ∧ l.getD k d = x ∧ l.drop (k + 1) = t ∧ l.length = k + 1 + t.length := by
  have hlt : k < l.length := by
    rcases Nat.lt_or_ge k l.length with h1 | h1
    · exact h1
    · rw [List.drop_of_length_le h1] at h; cases h
  rw [List.drop_eq_getElem_cons hlt] at h
  obtain ⟨h1, h2⟩ := List.cons.inj h
  refine ⟨hlt, by rw [List.getD_eq_getElem?_getD, List.getElem?_eq_getElem hlt]; exact h1, h2, ?_⟩
  rw [← h2, List.length_drop]; omega
/-- How a way begins. -/
theorem prove_at {root p : ByteArray} {nodes : List ByteArray} {vs : List (NodeT × ByteArray)} {rest : List ByteArray} {okf : Bool} (h : proveN root p nodes = (vs, rest, okf)) :
    (takeN nodes 0 root = none ∧ vs = [] ∧ rest = nodes ∧ okf = false) ∨ ∃ m, takeN nodes 0 root = some m ∧ runN p.size (nodes.drop 1) m p = (vs, rest, okf) ∧ 1 ≤ nodes.length := by
  unfold takeN
  have bad : ∀ l, proveN root p nodes = ([], l, false) → l = nodes → vs = [] ∧ rest = nodes ∧ okf = false := fun l e el => by
    rw [h] at e
    obtain ⟨e1, e2⟩ := Prod.mk.inj e
    obtain ⟨e3, e4⟩ := Prod.mk.inj e2
    exact ⟨e1, e3.trans el, e4⟩
  cases nodes with
  | nil => exact .inl ⟨rfl, bad [] rfl rfl⟩
  | cons t ts =>
    have hu : proveN root p (t :: ts) = (if shaB t = root then (match getN t with
      | some n => runN p.size ts n p
      | none => ([], t :: ts, false)) else ([], t :: ts, false)) := rfl
    show ((if shaB t = root then getN t else none) = none ∧ _) ∨ ∃ m, (if shaB t = root then getN t else none) = some m ∧ _
    by_cases he : shaB t = root
    · rw [if_pos he] at hu ⊢
      cases hg : getN t with
      | none => rw [hg] at hu; exact .inl ⟨rfl, bad _ hu rfl⟩
      | some m => rw [hg] at hu; exact .inr ⟨m, rfl, hu.symm.trans h, by simp⟩
    · rw [if_neg he] at hu ⊢
      exact .inl ⟨rfl, bad _ hu rfl⟩
/-- What the next one is, with what stays. -/
structure NextW (W w w' : World) (wb pc L : Nat) (root : ByteArray) (v : Value) (nodes : List ByteArray) (vs : List (NodeT × ByteArray)) (rest : List ByteArray) (okf : Bool) (k : Nat) (q : ByteArray) (m : NodeT) (okb : Bool) : Prop where
  len : m.refs.length = 16
  kp : Keeps (fun b => b = wb) w w'
  on : (okb = true ∧ ∃ u f d, MtGo wb root v nodes vs rest okf k u f d q m w') ∨ (okb = false ∧ k = vs.length ∧ okf = false ∧ ∃ (u eb : Nat) (ek : Int), w.heap.size ≤ eb ∧ WayAt w' wb root v u (.iface 139 (.pointer (some ⟨eb, 0, none⟩))) ∧ Blk w' eb (.cells #[.int .i64 ek, prfE] 141))
/-- follow, where a step leads on. -/
theorem wfollow_next (W0 w : World) (wb pc L : Nat) (root : ByteArray) (v : Value) (nodes : List ByteArray) (vs : List (NodeT × ByteArray)) (rest : List ByteArray) (okf : Bool) (k u f d : Nat) (p r q : ByteArray) (n : NodeT) (hB : PrB W0 w wb v nodes)
    (hG : MtGo wb root v nodes vs rest okf k u f d p n w) (hs : stepN n p = (r, q)) (hr : r.size ≠ 0) :
    Calls Tryz.prog 125 #[.pointer (some ⟨wb, 0, none⟩), .string r] w (fun e w' => ∃ m okb, e = .returned (.tuple #[m.V, .bool okb]) ∧ NextW w w w' wb pc L root v nodes vs rest okf (k + 1) q m okb) := by
  rcases run_at w hG.good hG.valid hG.fuel hs hG.run with ⟨h, _⟩ | ⟨_, g, hg, hq, hlt, hval, h⟩
  · exact absurd h hr
  have h2000 : q.size ≤ 2000 := by have := hG.size; omega
  rcases h with ⟨d', m, rfl, hI, hgd, hx⟩ | ⟨hh, h32, rfl, hx⟩
  · refine (wfollow_small w wb _ r m hI).mono ?_
    rintro e w' ⟨rfl, hE⟩
    obtain ⟨hd, h1⟩ := Prod.mk.inj hx
    obtain ⟨_, _, h3, h4⟩ := drop_cons (d := (n, p)) hd
    obtain ⟨t, ht⟩ := run_ne g (nodes.drop u) m q
    refine ⟨m, true, rfl, (inlP _).refs _ _ hI, ExtK hE, .inl ⟨rfl, u, g, d', Blk.keeps hG.way hE (fun h => h), ?_, ?_, hq, hval, h2000, hgd, hG.le⟩⟩
    · rw [h3]; show _ = (_, (rest, okf)); rw [h1]
    · rw [h4, ht]; simp
  · refine (wfollow_big w wb root v u .nilIface hh h32 hG.way (takeN nodes u hh) (fun w' hE hW => take_any W0 w' wb root v nodes u .nilIface hh (hB.grow hE) hW hG.le)).mono ?_
    intro e w' hT
    obtain ⟨m, okb, rfl, hm, hK, hc⟩ := hT.split
    refine ⟨m, okb, rfl, hm, hK, ?_⟩
    unfold takeN at hc
    cases hu : nodes[u]? with
    | none =>
      have hul := List.getElem?_eq_none_iff.1 hu
      rw [List.drop_of_length_le hul] at hx
      rw [hu] at hc
      obtain ⟨hd, h1⟩ := Prod.mk.inj hx
      obtain ⟨_, _, h3, h4⟩ := drop_cons (d := (n, p)) hd
      rcases hc with ⟨_, hc, _⟩ | ⟨rfl, _, ev', ⟨eb, ek, rfl, hbe, hz⟩, hW⟩
      · cases hc
      · exact .inr ⟨rfl, h4.symm, (Prod.mk.inj h1).2, u, eb, ek, hz, hW, hbe⟩
    | some t =>
      have hul : u < nodes.length := (List.getElem?_eq_some_iff.1 hu).1
      have hdr : nodes.drop u = t :: nodes.drop (u + 1) := by rw [List.drop_eq_getElem_cons hul]; congr 1; exact (List.getElem?_eq_some_iff.1 hu).2
      rw [hdr] at hx
      rw [hu] at hc
      have hc : (okb = true ∧ (if shaB t = hh then getN t else none) = some m ∧ WayAt w' wb root v (u + 1) .nilIface) ∨ (okb = false ∧ (if shaB t = hh then getN t else none) = none ∧ ∃ ev', ErrW w.heap.size w' ev' ∧ WayAt w' wb root v u ev') := hc
      have hx : (vs.drop k, rest, okf) = (if shaB t = hh then (match getN t with
              | some m => ((n, p) :: (runN g (nodes.drop (u + 1)) m q).1, (runN g (nodes.drop (u + 1)) m q).2)
              | none => ([(n, p)], t :: nodes.drop (u + 1), false))
            else ([(n, p)], t :: nodes.drop (u + 1), false)) := hx
      have bad : (vs.drop k, rest, okf) = ([(n, p)], t :: nodes.drop (u + 1), false) → (∃ ev', ErrW w.heap.size w' ev' ∧ WayAt w' wb root v u ev') → okb = false → ((okb = true ∧ ∃ u f d, MtGo wb root v nodes vs rest okf (k + 1) u f d q m w') ∨ (okb = false ∧ k + 1 = vs.length ∧ okf = false ∧ ∃ (u eb : Nat) (ek : Int), w.heap.size ≤ eb ∧ WayAt w' wb root v u (.iface 139 (.pointer (some ⟨eb, 0, none⟩))) ∧ Blk w' eb (.cells #[.int .i64 ek, prfE] 141))) := fun hx ⟨ev', ⟨eb, ek, e1, hbe, hz⟩, hW⟩ ho => by
        obtain ⟨hd, h1⟩ := Prod.mk.inj hx
        obtain ⟨_, _, h3, h4⟩ := drop_cons (d := (n, p)) hd
        subst e1
        exact Or.inr ⟨ho, h4.symm, (Prod.mk.inj h1).2, u, eb, ek, hz, hW, hbe⟩
      by_cases he : shaB t = hh
      · rw [if_pos he] at hc hx
        rcases hc with ⟨rfl, hc, hW⟩ | ⟨rfl, hc, hcc⟩
        · rw [hc] at hx
          obtain ⟨hd, h1⟩ := Prod.mk.inj (show (vs.drop k, rest, okf) = ((n, p) :: (runN g (nodes.drop (u + 1)) m q).1, (runN g (nodes.drop (u + 1)) m q).2) from hx)
          obtain ⟨_, _, h3, h4⟩ := drop_cons (d := (n, p)) hd
          obtain ⟨tl, ht⟩ := run_ne g (nodes.drop (u + 1)) m q
          obtain ⟨d', hgd⟩ := getN_good hc
          exact .inl ⟨rfl, u + 1, g, d', hW, by rw [h3]; show _ = (_, (rest, okf)); rw [h1], by rw [h4, ht]; simp, hq, hval, h2000, hgd, hul⟩
        · rw [hc] at hx; exact bad hx hcc rfl
      · rw [if_neg he] at hc hx
        rcases hc with ⟨_, hc, _⟩ | ⟨rfl, _, hcc⟩
        · cases hc
        · exact bad hx hcc rfl
end
end Go.Proofs.YtllbcjclibbogaaGreatDoor
/- The law of XMixD, where several hard operations may be ready at once: each order of them. Over any program. -/
namespace Go.Proofs.YtllbcjclibbogaaGreatDoor
section
open Go Go.RowKit
set_option linter.unusedSimpArgs false
set_option linter.unusedVariables false
section mixh
variable {P : Program} {l : List Oper} {E D : World → World → Prop}
def MixH (P : Program) (l : List Oper) (hd : List Nat) (E D : World → World → Prop) (Q : Act → World → Prop) : Nat → List Nat → Act → World → Prop
  | 0, done, a, w => ∀ w1, E w w1 → Region.ready .any l.toArray (marks l done) = [] ∧ Q a w1
  | n + 1, done, a, w =>
    (∃ k, k ∈ Region.ready .any l.toArray (marks l done) ∧ Region.free .any l.toArray (marks l done) k = true ∧ ∃ o v, l[k]? = some o ∧ YieldsD P l.toArray E D w o v a ∧ MixH P l hd E D Q n (k :: done) (a.put o.dst v) w) ∨
    (Region.ready .any l.toArray (marks l done) ≠ [] ∧ ∀ i ∈ Region.ready .any l.toArray (marks l done), i ∈ hd ∧ ∀ w1, E w w1 → wpOp P l.toArray NoQ i (fun a' w' => D w1 w' ∧ MixH P l hd E D Q n (i :: done) a' w') a w1)

theorem anyD_of_mixh (hE : ∀ w, E w w) (hT : ∀ x y z, E x y → E y z → E x z) (hD : ∀ x y z, D x y → D y z → D x z) (hED : ∀ x y, E x y → D x y) (hs : Region.noSelect l.toArray = true) {hd : List Nat} {Q : Act → World → Prop} : ∀ (n : Nat) (done : List Nat) (a : Act) (w : World),
    MixH P l hd E D Q n done a w → anyD P l.toArray hd E D Q n (marks l done) a w
  | 0, _, _, _, h => h
  | n + 1, done, a, w, h => by
    rcases h with ⟨k, hr, hf, o, v, ho, hy, h⟩ | ⟨hr, h⟩
    · have ho' : l.toArray[k]? = some o := by simpa using ho
      exact anyD_first hE hT hD hED ho' (Region.noSelect_spec hs) n (marks l done) a w (Region.free_spec ho' hf) hr hy (anyD_of_mixh hE hT hD hED hs n _ _ _ h)
    · intro w1 he
      refine ⟨fun h0 => absurd h0 hr, fun i hi => ?_⟩
      obtain ⟨hk, h⟩ := h i hi
      exact wpOp_mono (fun a' w' h2 => ⟨h2.1, fun hn => absurd hk hn, anyD_of_mixh hE hT hD hED hs n _ _ _ h2.2⟩) (h w1 he)

theorem wp_region_mixH (hd : List Nat) (E D : World → World → Prop) (hE : ∀ w, E w w) (hT : ∀ x y z, E x y → E y z → E x z) (hD : ∀ x y z, D x y → D y z → D x z) (hED : ∀ x y, E x y → D x y) {id : Nat} {Q : Exit → Act → World → Prop} {a : Act} {w : World}
    (hm : P.follows .mixedOrders = true) (hs : Region.noSelect l.toArray = true) (n : Nat) (hl : n = l.toArray.size)
    (h : MixH P l hd E D (fun a w => Q .normal a w) n [] a w.drew) : (Code.region id l.toArray true).wp P Q a w := by
  refine wp_region_any hm ?_
  rw [← hl]
  have := anyD_of_mixh hE hT hD hED hs n _ _ _ h
  unfold marks at this
  rw [← hl] at this
  exact anyD_sound hE (fun _ _ h => h) _ _ _ _ this

/-! The steps. -/
variable {Q : Act → World → Prop} {done hd : List Nat} {a : Act} {w : World} {k n : Nat} {o : Oper}
theorem mixh_pure (o : Oper) (ho : l[k]? = some o) (hk : headD l done k = true) (hw : Region.wanted o (yielded l.toArray a.tmps) = true) (hq : isPure o.op = true)
    (h : ∀ K : Act → Prop, (∀ a', MixH P l hd E D Q n (k :: done) a' w → K a') → o.quiet P a (fun _ => True) K) : MixH P l hd E D Q (n + 1) done a w := by
  simp only [headD, Bool.and_eq_true, List.contains_iff_mem] at hk
  obtain ⟨v, h1, h2⟩ := h _ (fun _ h => h)
  have key : YieldsD P l.toArray E D w o v a := by
    refine .inl ⟨hw, fun w1 _ => ?_⟩
    have h3 := h1 w1 trivial
    unfold Oper.quietAt at h3
    have h4 := fun f args w' => pure_no (ρ := a.eval) hq P w1 w' f args
    generalize (execOp a.eval o).run P w1 = r at *
    cases r with
    | ok n w' => cases n <;> simp only [Oper.quietUpon] at h3 <;> first | exact h3 | exact absurd rfl (h4 _ _ _)
    | halt x w' => simp only [Oper.quietUpon] at h3
  exact .inl ⟨_, hk.1, hk.2, o, v, ho, key, h2⟩

theorem mixh_val (o : Oper) (v : Value) (ho : l[k]? = some o) (hk : headD l done k = true) (hw : Region.wanted o (yielded l.toArray a.tmps) = true)
    (hv : ∀ w1, D w w1 → (execOp a.eval o).run P w1 = .ok (.value v) w1) (h : MixH P l hd E D Q n (k :: done) (a.put o.dst v) w) : MixH P l hd E D Q (n + 1) done a w := by
  simp only [headD, Bool.and_eq_true, List.contains_iff_mem] at hk
  exact .inl ⟨_, hk.1, hk.2, o, v, ho, .inl ⟨hw, fun w1 hc => by rw [hv w1 hc]; exact ⟨rfl, rfl⟩⟩, h⟩

theorem mixh_load (p : Addr) (v : Value) {t : TypeId} {x : Operand} {d : Option Tmp} {ty : TypeId} {pos : String} {af : Array Edge} {g : Option (Nat × Bool)} (ho : l[k]? = some ⟨d, .load t x, ty, pos, af, g⟩) (hk : headD l done k = true)
    (hw : Region.wanted ⟨d, .load t x, ty, pos, af, g⟩ (yielded l.toArray a.tmps) = true) (hx : a.eval x = .pointer (some p))
    (hv : ∀ w1, D w w1 → (Instr.loadAt t (.pointer (some p))).run P w1 = .ok v w1) (h : MixH P l hd E D Q n (k :: done) (a.put d v) w) : MixH P l hd E D Q (n + 1) done a w := by
  refine mixh_val _ v ho hk hw (fun w1 hc => ?_) h
  have := hv w1 hc
  simp only [execOp, hx, Sem.run_bind, this, Result.andThen, Sem.run_pure]

theorem mixh_call (o : Oper) (f : FuncId) (args : Array Value) (v : Value) (ho : l[k]? = some o) (hk : headD l done k = true) (hw : Region.wanted o (yielded l.toArray a.tmps) = true)
    (hv : ∀ w1, (execOp a.eval o).run P w1 = .ok (.enter f args) w1) (hc : ∀ w1, D w w1 → Calls P f args w1 (fun e w2 => e = .returned v ∧ E w1 w2))
    (h : MixH P l hd E D Q n (k :: done) (a.put o.dst v) w) : MixH P l hd E D Q (n + 1) done a w := by
  simp only [headD, Bool.and_eq_true, List.contains_iff_mem] at hk
  exact .inl ⟨_, hk.1, hk.2, o, v, ho, .inl ⟨hw, fun w1 hw1 => by rw [hv w1]; exact ⟨rfl, hc w1 hw1⟩⟩, h⟩

/-- An operation that stands alone. -/
theorem mixh_hard (o : Oper) (ho : l[k]? = some o) (hk : aloneD l hd done k = true) (hw : Region.wanted o (yielded l.toArray a.tmps) = true)
    (h : ∀ w1, E w w1 → ∀ K : Act → World → Prop, (∀ a' w', D w1 w' → MixH P l hd E D Q n (k :: done) a' w' → K a' w') → o.wp P a w1 K NoQ) : MixH P l hd E D Q (n + 1) done a w := by
  simp only [aloneD, Bool.and_eq_true, beq_iff_eq, List.contains_iff_mem] at hk
  refine .inr ⟨by rw [hk.1]; simp, fun i hi => ?_⟩
  rw [hk.1] at hi
  obtain rfl : i = k := by simpa using hi
  refine ⟨hk.2, fun w1 he => ?_⟩
  unfold wpOp
  have ho' : l.toArray[i]? = some o := by simpa using ho
  simp only [ho', hw, if_true]
  exact .inl (h w1 he _ (fun _ _ h1 h2 => ⟨h1, h2⟩))
def twoD (l : List Oper) (hd done : List Nat) (j k : Nat) : Bool := Region.ready .any l.toArray (marks l done) == [j, k] && hd.contains j && hd.contains k
/-- Two that may come in either order. -/
theorem mixh_two (j k : Nat) (o1 o2 : Oper) (hk : twoD l hd done j k = true) (h01 : l[j]? = some o1) (h02 : l[k]? = some o2)
    (hw1 : Region.wanted o1 (yielded l.toArray a.tmps) = true) (hw2 : Region.wanted o2 (yielded l.toArray a.tmps) = true)
    (h1 : ∀ w1, E w w1 → ∀ K : Act → World → Prop, (∀ a' w', D w1 w' → MixH P l hd E D Q n (j :: done) a' w' → K a' w') → o1.wp P a w1 K NoQ)
    (h2 : ∀ w1, E w w1 → ∀ K : Act → World → Prop, (∀ a' w', D w1 w' → MixH P l hd E D Q n (k :: done) a' w' → K a' w') → o2.wp P a w1 K NoQ) : MixH P l hd E D Q (n + 1) done a w := by
  simp only [twoD, Bool.and_eq_true, beq_iff_eq, List.contains_iff_mem] at hk
  refine .inr ⟨by rw [hk.1.1]; simp, fun i hi => ?_⟩
  rw [hk.1.1] at hi
  have hi : i = j ∨ i = k := by simpa using hi
  rcases hi with rfl | rfl
  · refine ⟨hk.1.2, fun w1 he => ?_⟩
    unfold wpOp
    have ho' : l.toArray[i]? = some o1 := by simpa using h01
    simp only [ho', hw1, if_true]
    exact .inl (h1 w1 he _ (fun _ _ h1 h2 => ⟨h1, h2⟩))
  · refine ⟨hk.2, fun w1 he => ?_⟩
    unfold wpOp
    have ho' : l.toArray[i]? = some o2 := by simpa using h02
    simp only [ho', hw2, if_true]
    exact .inl (h2 w1 he _ (fun _ _ h1 h2 => ⟨h1, h2⟩))

theorem mixh_end (hk : (Region.ready .any l.toArray (marks l done)).isEmpty = true) (h : ∀ w1, E w w1 → Q a w1) : MixH P l hd E D Q 0 done a w :=
  fun w1 he => ⟨by simpa using hk, h w1 he⟩
end mixh
end
end Go.Proofs.YtllbcjclibbogaaGreatDoor
/- proof: met, as an iterator: the contract. -/
namespace Go.Proofs.YtllbcjclibbogaaGreatDoor
section
open Go Go.RowKit
set_option linter.unusedSimpArgs false
set_option linter.unusedVariables false
attribute [local go_sem] Oper.semAt_some
def DrW (wb z : Nat) (x y : World) : Prop := Keeps (fun b => b = wb ∨ z ≤ b) x y ∧ ∀ rt, x.cell? ⟨wb, 0, none⟩ = some (.string rt) → y.cell? ⟨wb, 0, none⟩ = some (.string rt)
theorem DrW.trans (wb z : Nat) (a b c : World) (h : DrW wb z a b) (k : DrW wb z b c) : DrW wb z a c := ⟨h.1.trans k.1, fun rt e => k.2 rt (h.2 rt e)⟩
theorem DrW.ext (wb z : Nat) (x y : World) (h : Ext x y) : DrW wb z x y := ⟨ExtK h, fun rt e => cell_ext e h⟩
/-- What the first one is. -/
structure FirstW (w w' : World) (wb : Nat) (root : ByteArray) (v : Value) (nodes : List ByteArray) (vs : List (NodeT × ByteArray)) (rest : List ByteArray) (okf : Bool) (p : ByteArray) (m : NodeT) (okb : Bool) : Prop where
  len : m.refs.length = 16
  kp : Keeps (fun b => b = wb) w w'
  rt : w'.cell? ⟨wb, 0, none⟩ = some (.string root)
  on : (okb = true ∧ ∃ u f d, MtGo wb root v nodes vs rest okf 0 u f d p m w') ∨ (okb = false ∧ 0 = vs.length ∧ okf = false ∧ ∃ (u eb : Nat) (ek : Int), w.heap.size ≤ eb ∧ WayAt w' wb root v u (.iface 139 (.pointer (some ⟨eb, 0, none⟩))) ∧ Blk w' eb (.cells #[.int .i64 ek, prfE] 141))
theorem take_first (W0 w : World) (wb : Nat) (root : ByteArray) (v : Value) (nodes : List ByteArray) (vs : List (NodeT × ByteArray)) (rest : List ByteArray) (okf : Bool) (p : ByteArray) (hB : PrB W0 w wb v nodes)
    (hW : WayAt w wb root v 0 .nilIface) (hp : validN p = true) (hps : p.size ≤ 2000) (hvs : proveN root p nodes = (vs, rest, okf)) :
    Calls Tryz.prog 123 #[.pointer (some ⟨wb, 0, none⟩), .string root] w (fun e w' => ∃ m okb, e = .returned (.tuple #[m.V, .bool okb]) ∧ FirstW w w' wb root v nodes vs rest okf p m okb) := by
  refine (take_any W0 w wb root v nodes 0 .nilIface root hB hW (Nat.zero_le _)).mono ?_
  intro e w' hT
  obtain ⟨m, okb, rfl, hm, hK, hc⟩ := hT.split
  refine ⟨m, okb, rfl, hm, hK, ?_, ?_⟩
  · rcases hc with ⟨_, _, h⟩ | ⟨_, _, ev', _, h⟩
    · exact h.root'
    · exact h.root'
  · rcases prove_at hvs with ⟨h1, rfl, rfl, rfl⟩ | ⟨m', h1, h2, h3⟩
    · rw [h1] at hc
      rcases hc with ⟨_, hc, _⟩ | ⟨rfl, _, ev', ⟨eb, ek, rfl, hbe, hz⟩, hW'⟩
      · cases hc
      · exact .inr ⟨rfl, rfl, rfl, 0, eb, ek, hz, hW', hbe⟩
    · rw [h1] at hc
      rcases hc with ⟨rfl, hc, hW'⟩ | ⟨_, hc, _⟩
      · obtain rfl := Option.some.inj hc
        obtain ⟨d, hgd⟩ := getN_good (show ∃ t, getN t = some m' from by
          unfold takeN at h1
          split at h1
          · cases h1
          · split at h1
            · exact ⟨_, h1⟩
            · cases h1).choose_spec
        obtain ⟨t, ht⟩ := run_ne p.size (nodes.drop 1) m' p
        refine .inl ⟨rfl, 0 + 1, p.size, d, hW', by rw [h2]; rfl, ?_, Nat.le_refl _, hp, hps, hgd, h3⟩
        have hv : (runN p.size (nodes.drop 1) m' p).1 = vs := by rw [h2]
        rw [← hv, ht]; simp
      · cases hc
def metAct (y b1 pc wb : Nat) (root : ByteArray) (L : Nat) (m : NodeT) (okb : Bool) : Act :=
  { tmps := #[.func (.yield y) #[] #[], .pointer (some ⟨b1, 0, none⟩), .pointer (some ⟨pc, 0, none⟩), undef, .pointer (some ⟨L, 0, none⟩), .bool okb, undef, undef, .tuple #[m.V, .bool okb], .pointer (some ⟨wb, 0, none⟩), .pointer (some ⟨wb, 0, none⟩), .pointer (some ⟨wb, 0, none⟩), .pointer (some ⟨wb, 0, none⟩), .string root, .tuple #[m.V, .bool okb], m.V, .bool okb,
    undef, undef, undef, undef, undef, undef, undef, undef, undef, undef, undef, undef, undef, undef, undef, undef, undef, undef, undef, undef, undef, undef], defers := [] }
structure FirstL (W w' : World) (wb : Nat) (root : ByteArray) (v : Value) (nodes : List ByteArray) (vs : List (NodeT × ByteArray)) (rest : List ByteArray) (okf : Bool) (p : ByteArray) (L : Nat) (m : NodeT) (okb : Bool) : Prop where
  len : m.refs.length = 16
  kp : Keeps (fun b => b = wb) W w'
  new : W.heap.size ≤ L
  var : Blk w' L (.cells m.cells.toArray 60)
  on : (okb = true ∧ ∃ u f d, MtGo wb root v nodes vs rest okf 0 u f d p m w') ∨ (okb = false ∧ 0 = vs.length ∧ okf = false ∧ ∃ (u eb : Nat) (ek : Int), W.heap.size ≤ eb ∧ WayAt w' wb root v u (.iface 139 (.pointer (some ⟨eb, 0, none⟩))) ∧ Blk w' eb (.cells #[.int .i64 ek, prfE] 141))
set_option maxRecDepth 100000 in
set_option maxHeartbeats 16000000 in
theorem met_it (W0 : World) (b1 wb pc : Nat) (root : ByteArray) (v : Value) (nodes : List ByteArray) (p0 : ByteArray) (hp : validN p0 = true) (hps : p0.size ≤ 2000) (hS : PrS W0 wb v nodes) (hne : W0.heap.size ≤ b1 ∧ W0.heap.size ≤ pc ∧ b1 ≠ wb ∧ b1 ≠ pc ∧ wb ≠ pc)
    (vs : List (NodeT × ByteArray)) (rest : List ByteArray) (okf : Bool) (hvs : proveN root p0 nodes = (vs, rest, okf)) :
    IterT Tryz.prog 122 #[.pointer (some ⟨b1, 0, none⟩), .pointer (some ⟨pc, 0, none⟩)] vs.length (meV vs) (fun b => b = wb ∨ b = pc) (MetS W0 b1 wb pc root v p0) (MetE wb root v nodes rest okf) := by
  intro y C Cx hC hCx D O W hY h0 hS' hdis
  have HPB := Lib.hid (show ∀ w, Keeps (fun b => D b ∨ b = wb ∨ b = pc) W w → PrB { w with heap := W0.heap } w wb v nodes from fun w k => hS.at' (Nat.le_trans hS'.size k.size) fun b hb => (k.block b (Nat.lt_of_lt_of_le hb hS'.size) (fun e => by
    rcases e with e | e | e
    · exact hdis b e ((hS'.is b).2 (.inl hb))
    · have := hS.lo; omega
    · omega)).trans (hS'.old b hb))
  have HND := Lib.hid (show ¬ D b1 ∧ ¬ D wb ∧ ¬ D pc from ⟨fun h => hdis _ h ((hS'.is _).2 (.inr (.inl rfl))), fun h => hdis _ h ((hS'.is _).2 (.inr (.inr (.inl rfl)))), fun h => hdis _ h ((hS'.is _).2 (.inr (.inr (.inr rfl))))⟩)
  have HLT := Lib.hid (show b1 < W.heap.size ∧ wb < W.heap.size ∧ pc < W.heap.size from ⟨hS'.cap.lt, Blk.lt hS'.way, hS'.path.lt⟩)
  have HOW := Lib.hid (show O wb from (hS'.is _).2 (.inr (.inr (.inl rfl))))
  have Q1 := Lib.hid (hS'.cap.cell (i := 0) (v := .pointer (some ⟨wb, 0, none⟩)) (by rfl))
  have QR := Lib.hid (WayAt.root' hS'.way)
  have HFI := Lib.hid (fun w hB hW => take_first { w with heap := W0.heap } w wb root v nodes vs rest okf p0 hB hW hp hps hvs)
  have HY := Lib.hid hY
  have HC := Lib.hid hC
  have HCX := Lib.hid hCx
  have H0 := Lib.hid h0
  have HS := Lib.hid hS'
  have HNE := Lib.hid hne
  obtain ⟨N, hN⟩ : ∃ N, N = vs.length := ⟨_, rfl⟩
  have HN := Lib.hid hN
  rw [← hN] at HY
  clear hY hC hCx h0 hS' hdis hS hne hp hps hvs
  rw [← hN]
  have HN1 := Lib.hid (show ¬ (b1 = wb ∨ W.heap.size ≤ b1) from fun e => by have := HNE.out; have := HLT.out; omega)
  clear hN
  refine callsIn_of_wp Tryz.func122 rfl trivial ?_ rfl
  simp only [Tryz.ntmps122, List.size_toArray, List.length_cons, List.length_nil, Nat.reduceAdd, Nat.reduceSub, Array.replicate_succ, Array.replicate_zero, List.push_toArray, List.append_toArray, List.nil_append, List.cons_append]
  gi_wp2_with fail
  refine wpIn_wide.2 (wp_mono (Q := fun e a' w' => e = .normal ∧ ∃ (L : Nat) (m : NodeT) (okb : Bool), a' = metAct y b1 pc wb root L m okb ∧ FirstL W w' wb root v nodes vs rest okf p0 L m okb) (wp_region_mixH [5,9,10] Ext (DrW wb W.heap.size) ExtR ExtT (DrW.trans wb W.heap.size) (DrW.ext wb W.heap.size) (by kernel_rfl) (by kernel_rfl) 12 (by kernel_rfl) ?_) ?_)
  refine mixh_load (k := 0) ⟨b1, 0, none⟩ (.pointer (some ⟨wb, 0, none⟩)) rfl (by kernel_rfl) rfl rfl (fun w1 h1 => run_load_plain Tryz.underlying175 rfl (cell_keeps (by exact Q1.out) h1.1 HN1.out)) ?_
  simp only [Act.put, List.setIfInBounds_toArray, List.set_cons_zero, List.set_cons_succ]
  refine mixh_load (k := 1) ⟨b1, 0, none⟩ (.pointer (some ⟨wb, 0, none⟩)) rfl (by kernel_rfl) rfl rfl (fun w1 h1 => run_load_plain Tryz.underlying175 rfl (cell_keeps (by exact Q1.out) h1.1 HN1.out)) ?_
  simp only [Act.put, List.setIfInBounds_toArray, List.set_cons_zero, List.set_cons_succ]
  refine mixh_val (k := 2) _ (.pointer (some ⟨wb, 0, none⟩)) rfl (by kernel_rfl) rfl (fun w1 _ => by kernel_rfl) ?_
  simp only [Act.put, List.setIfInBounds_toArray, List.set_cons_zero, List.set_cons_succ]
  refine mixh_pure (k := 3) _ rfl (by kernel_rfl) rfl rfl (fun K hK => ?_); go_big_quiet_op; refine hK _ ?_; clear hK K
  refine mixh_load (k := 4) ⟨wb, 0, none⟩ (.string root) rfl (by kernel_rfl) rfl rfl (fun w1 h1 => run_load_plain Tryz.underlying9 rfl (h1.2 _ (by exact QR.out))) ?_
  simp only [Act.put, List.setIfInBounds_toArray, List.set_cons_zero, List.set_cons_succ]
  refine mixh_two 5 9 _ _ (by kernel_rfl) rfl rfl rfl rfl (fun w2 h2 K hK => ?_) (fun w2 h2 K hK => ?_)
  · -- take first
    have h02 := (drewE W).trans h2
    refine wp_callop (exec_call Tryz.enterTake (by kernel_rfl)) ((HFI.out w2 (HPB.out w2 (ExtK h02)) (Blk.keeps HS.out.way h02 (fun h => h))).mono ?_)
    rintro e w3 ⟨m, okb, rfl, hF⟩
    refine ⟨_, rfl, hK _ _ ⟨hF.kp.mono (fun _ _ h => .inl h), fun rt e => ?_⟩ ?_⟩
    · have hr := WayAt.root' (Blk.keeps HS.out.way h02 (fun h => h))
      rw [hr] at e
      rw [hF.rt]; exact e
    clear hK K
    have HF := Lib.hid hF
    have HX := Lib.hid h02
    clear hF h02 h2
    simp only [Act.put, List.setIfInBounds_toArray, List.set_cons_zero, List.set_cons_succ]
    refine mixh_pure (k := 6) _ rfl (by kernel_rfl) rfl rfl (fun K hK => ?_); go_big_quiet_op; refine hK _ ?_; clear hK K
    refine mixh_pure (k := 7) _ rfl (by kernel_rfl) rfl rfl (fun K hK => ?_); go_big_quiet_op; refine hK _ ?_; clear hK K
    refine mixh_pure (k := 8) _ rfl (by kernel_rfl) rfl rfl (fun K hK => ?_); go_big_quiet_op; refine hK _ ?_; clear hK K
    refine mixh_hard (k := 9) _ rfl (by kernel_rfl) rfl (fun w4 h4 K hK => ?_)
    refine wp_new1 Tryz.allocNode rfl ?_
    intro W5 hB5 hE5
    refine hK _ _ (DrW.ext _ _ _ _ hE5) ?_
    clear hK K
    simp only [Act.put, List.setIfInBounds_toArray, List.set_cons_zero, List.set_cons_succ]
    refine mixh_hard (k := 10) _ rfl (by kernel_rfl) rfl (fun w6 h6 K hK => ?_)
    refine wp_fill (vs := m.cells) rfl rfl rfl (hB5.keeps h6 (fun h => h)) (by rw [m.cells_len HF.out.len]; rfl) (by rw [m.cells_len HF.out.len]; exact Tryz.szNode) m.one ?_
    intro W7 hB7 hE7
    have h34 : Ext w3 w4 := h4
    have hz3 : W.heap.size ≤ w3.heap.size := Nat.le_trans HX.out.size HF.out.kp.size
    have hz4 := h34.size
    refine hK _ _ ⟨hE7.mono (fun x hx e => by have e : x = w4.heap.size := e; exact .inr (by omega)), fun rt e => cell_keeps e hE7 (fun e => by have e : wb = w4.heap.size := e; have := HLT.out; omega)⟩ ?_
    clear hK K
    simp only [Act.put, List.setIfInBounds_toArray, List.set_cons_zero, List.set_cons_succ]
    refine mixh_pure (k := 11) _ rfl (by kernel_rfl) rfl rfl (fun K hK => ?_); go_big_quiet_op; refine hK _ ?_; clear hK K
    refine mixh_end (by kernel_rfl) (fun w8 h8 => ?_)
    have h37 : Ext w3 W7 := ((h34.trans hE5).trans h6).trans' hE7 (fun x hx e => by have e : x = w4.heap.size := e; omega)
    have h38 := h37.trans h8
    have hvar := hB7.keeps h8 (fun h => h)
    obtain ⟨L, hL⟩ : ∃ L, L = w4.heap.size := ⟨_, rfl⟩
    rw [← hL] at hvar hz4 ⊢
    refine ⟨trivial, L, m, okb, rfl, ⟨HF.out.len, ((ExtK HX.out : Keeps (fun b => b = wb) W w2).trans HF.out.kp).trans (ExtK h38), by omega, hvar, ?_⟩⟩
    have hz2 := HX.out.size
    rcases HF.out.on with ⟨e, u, f, d, hG⟩ | ⟨e, e1, e2, u, eb, ek, hz, hW, hBe⟩
    · exact .inl ⟨e, u, f, d, ⟨Blk.keeps hG.way h38 (fun h => h), hG.run, hG.lt, hG.fuel, hG.valid, hG.size, hG.good, hG.le⟩⟩
    · exact .inr ⟨e, e1, e2, u, eb, ek, by omega, Blk.keeps hW h38 (fun h => h), hBe.keeps h38 (fun h => h)⟩
  · -- the variable first
    have h02 := (drewE W).trans h2
    refine wp_new1 Tryz.allocNode rfl ?_
    intro W5 hB5 hE5
    refine hK _ _ (DrW.ext _ _ _ _ hE5) ?_
    clear hK K
    simp only [Act.put, List.setIfInBounds_toArray, List.set_cons_zero, List.set_cons_succ]
    refine mixh_hard (k := 5) _ rfl (by kernel_rfl) rfl (fun w2' h2' K hK => ?_)
    have h02' := (h02.trans hE5).trans h2'
    have hL2 : w2.heap.size < w2'.heap.size := Nat.lt_of_lt_of_le hB5.lt h2'.size
    have hz2 := h02.size
    have hvar2 := hB5.keeps h2' (fun h => h)
    obtain ⟨L, hL⟩ : ∃ L, L = w2.heap.size := ⟨_, rfl⟩
    rw [← hL] at hvar2 hL2 hz2 ⊢
    clear hL hB5 hE5 h2 h2' h02 W5
    refine wp_callop (exec_call Tryz.enterTake (by kernel_rfl)) ((HFI.out w2' (HPB.out w2' (ExtK h02')) (Blk.keeps HS.out.way h02' (fun h => h))).mono ?_)
    rintro e w3 ⟨m, okb, rfl, hF⟩
    refine ⟨_, rfl, hK _ _ ⟨hF.kp.mono (fun _ _ h => .inl h), fun rt e => ?_⟩ ?_⟩
    · have hr := WayAt.root' (Blk.keeps HS.out.way h02' (fun h => h))
      rw [hr] at e
      rw [hF.rt]; exact e
    clear hK K
    have HF := Lib.hid hF
    have HX := Lib.hid h02'
    have HL2 := Lib.hid (And.intro hL2 hz2)
    have hvar3 := hvar2.keeps hF.kp (fun e => by have e : L = wb := e; have := HLT.out; omega)
    clear hF h02' hvar2
    simp only [Act.put, List.setIfInBounds_toArray, List.set_cons_zero, List.set_cons_succ]
    refine mixh_pure (k := 6) _ rfl (by kernel_rfl) rfl rfl (fun K hK => ?_); go_big_quiet_op; refine hK _ ?_; clear hK K
    refine mixh_pure (k := 7) _ rfl (by kernel_rfl) rfl rfl (fun K hK => ?_); go_big_quiet_op; refine hK _ ?_; clear hK K
    refine mixh_pure (k := 8) _ rfl (by kernel_rfl) rfl rfl (fun K hK => ?_); go_big_quiet_op; refine hK _ ?_; clear hK K
    refine mixh_hard (k := 10) _ rfl (by kernel_rfl) rfl (fun w6 h6 K hK => ?_)
    refine wp_fill (vs := m.cells) rfl rfl rfl (hvar3.keeps h6 (fun h => h)) (by rw [m.cells_len HF.out.len]; rfl) (by rw [m.cells_len HF.out.len]; exact Tryz.szNode) m.one ?_
    intro W7 hB7 hE7
    refine hK _ _ ⟨hE7.mono (fun x hx e => by have e : x = L := e; exact .inr (by omega)), fun rt e => cell_keeps e hE7 (fun e => by have e : wb = L := e; have := HLT.out; omega)⟩ ?_
    clear hK K
    simp only [Act.put, List.setIfInBounds_toArray, List.set_cons_zero, List.set_cons_succ]
    refine mixh_pure (k := 11) _ rfl (by kernel_rfl) rfl rfl (fun K hK => ?_); go_big_quiet_op; refine hK _ ?_; clear hK K
    refine mixh_end (by kernel_rfl) (fun w8 h8 => ?_)
    have hvar := hB7.keeps h8 (fun h => h)
    have h36 : Ext w3 w6 := h6
    have k38 : Keeps (fun b => b = L) w3 w8 := ((ExtK h36 : Keeps (fun b => b = L) w3 w6).trans hE7).trans (ExtK h8)
    have hwb := HLT.out
    refine ⟨trivial, L, m, okb, rfl, ⟨HF.out.len, ((ExtK HX.out : Keeps (fun b => b = wb) W w2').trans HF.out.kp).trans' k38 (fun x hx e => by have e : x = L := e; omega), hz2, hvar, ?_⟩⟩
    rcases HF.out.on with ⟨e, u, f, d, hG⟩ | ⟨e, e1, e2, u, eb, ek, hz, hW, hBe⟩
    · exact .inl ⟨e, u, f, d, ⟨Blk.keeps hG.way k38 (by omega), hG.run, hG.lt, hG.fuel, hG.valid, hG.size, hG.good, hG.le⟩⟩
    · exact .inr ⟨e, e1, e2, u, eb, ek, by omega, Blk.keeps hW k38 (by omega), hBe.keeps k38 (by omega)⟩
  rintro e a8 w8 ⟨rfl, L, m, okb, rfl, hF⟩
  have HF := Lib.hid hF
  have HL := Lib.hid (m.cells_len hF.len)
  clear hF
  unfold metAct
  gi_wp2_with fail
  gi_loopw [5] (fun okv wr => MtRel W wb b1 pc L root v nodes vs rest okf C D okv wr) (fun okv wr => mtM pc okv wr)
  case atStart =>
    have hF := HF.out
    have hDlt := (HC.out 0).lt _ _ H0.out
    refine ⟨0, D, p0, m, ⟨(HC.out 0).keeps H0.out hF.kp (fun b hb e => HND.out.2.1 (e ▸ hb)), fun b h => .inl h, hF.kp.mono (fun b _ e => .inr (.inl e)), HS.out.path.keeps hF.kp (fun e => HNE.out.2.2.2.2 e.symm), hF.var, fun h => by have := hDlt L h; have := hF.new; omega, hF.len⟩, ?_⟩
    rcases hF.on with ⟨rfl, hG⟩ | ⟨rfl, e1, e2, u, eb, ek, hz, hW, hBe⟩
    · exact .inl ⟨rfl, hG⟩
    · exact .inr ⟨rfl, e1, e2, u, eb, ek, fun h => by have := hDlt eb h; omega, hz, hW, hBe⟩
  case round =>
    obtain ⟨k, Dk, p, n, hR, hc⟩ := hrel
    have HR := Lib.hid hR
    have hwD : ¬ Dk wb := fun h => by
      rcases hR.sub wb h with h | h
      · exact HND.out.2.1 h
      · have := HLT.out; omega
    have hpD : ¬ Dk pc := fun h => by
      rcases hR.sub pc h with h | h
      · exact HND.out.2.2 h
      · have := HLT.out; omega
    have hbD : ¬ Dk b1 := fun h => by
      rcases hR.sub b1 h with h | h
      · exact HND.out.1 h
      · have := HLT.out; omega
    have HDK := Lib.hid (And.intro hwD (And.intro hpD hbD))
    rcases hc with ⟨rfl, u, f, d, hG⟩ | ⟨rfl, hk, hok, u, eb, ek, hDe, hz, hW, hBe⟩
    case inr =>
      have HFI2 : Hid (IterPost W (fun b => b = wb ∨ b = pc) D O N C Cx (MetE wb root v nodes rest okf) (.returned (.tuple #[])) wr) := Lib.hid ⟨⟨_, rfl⟩, Dk, fun b => b = wb ∨ b = eb, hR.kp, hR.sub, fun b h => by
          rcases h with rfl | rfl
          · exact .inl HOW.out
          · exact .inr hz, fun b hb h => by
          rcases h with rfl | rfl
          · exact hwD hb
          · exact hDe hb, .inl ⟨by rw [HN.out, ← hk]; exact hR.at', fun b h => by
          rcases h with rfl | rfl
          · exact Blk.lt hW
          · exact hBe.lt, .inl rfl, u, _, hW, .inr ⟨hok, eb, ek, .inr rfl, rfl, hBe⟩⟩⟩
      clear hk hok hDe hz hW hBe hR hwD hpD hbD
      gi_wp2_with (refine wpListIn_skip rfl rfl ?_)
      refine bodyPost_end (results_none rfl _ _ _) rfl ?_
      exact HFI2.out
    case inl =>
      have hlt := hG.lt
      obtain ⟨tl, htl⟩ : ∃ tl, vs.drop k = (n, p) :: tl := by
        obtain ⟨t, ht⟩ := run_ne f (nodes.drop u) n p
        rw [hG.run] at ht; exact ⟨t, ht⟩
      obtain ⟨_, hat, _, hlen⟩ := drop_cons (d := (emptyN, ⟨#[]⟩)) htl
      have hat : atV vs k = (n, p) := hat
      have HG := Lib.hid hG
      have HTL := Lib.hid (And.intro htl hlen)
      obtain ⟨fn, tm, asg, bd, hyr, hrd⟩ := HY.out k Dk wr (by rw [HN.out]; exact hlt) hR.at' hR.kp
      unfold meV at hyr
      rw [hat] at hyr
      dsimp only at hyr
      have HRD := Lib.hid hrd
      have p0' := hR.path.cell (i := 0) (v := .string p) (by rfl)
      obtain ⟨⟨r, q⟩, hrq⟩ : ∃ rq, rq = stepN n p := ⟨_, rfl⟩
      have HST := Lib.hid (fun w => step_c w d n hG.good p hG.valid hG.size)
      rw [← hrq] at HST
      have HRQ := Lib.hid hrq
      clear hrd hlt htl hlen hat hG hR hwD hpD hbD hrq
      gi_wp2_with (refine wpListIn_load_known_w 60 (.tmp 4) rfl rfl _ _ rfl (run_load_api _ _ n HR.out.len HR.out.var) ?_)
      refine ⟨rfl, HRD.out.mono ?_⟩
      rintro e w5 ⟨D5, k5, s5, hcase⟩
      rcases hcase with ⟨rfl, C5⟩ | ⟨rfl, C5⟩
      case inr => exact (HCX.out _ _ _ C5).elim
      have hv5 := HR.out.var.keeps k5 HR.out.nL
      have pb5 := HR.out.path.keeps k5 HDK.out.2.1
      have wy5 : WayAt w5 wb root v u .nilIface := Blk.keeps HG.out.way k5 HDK.out.1
      have cp5 := (HS.out.cap.keeps HR.out.kp (fun e => by
        rcases e with e | e | e
        · exact HND.out.1 e
        · exact HNE.out.2.2.1 e
        · exact HNE.out.2.2.2.1 e)).keeps k5 HDK.out.2.2
      have p5 := pb5.cell (i := 0) (v := .string p) (by rfl)
      have HK5 := Lib.hid (And.intro k5 s5)
      have HC5 := Lib.hid C5
      have HPB5 := Lib.hid pb5
      have HWY5 := Lib.hid wy5
      have HCP5 := Lib.hid cp5
      have hv5' := hv5
      have HV5 := Lib.hid hv5'
      clear k5 s5 C5 p0' hyr pb5 wy5 cp5 hv5'
      gi_wp2_with (refine wpListIn_load_known rfl 60 (.tmp 4) rfl _ _ rfl (run_load_api _ _ n HR.out.len hv5) ?_)
      refine ⟨trivial, rfl, CallsIn.mono (callsIn_wide.2 (HST.out w5)) ?_⟩
      rintro e w6 ⟨rfl, hE6⟩
      have HE6 := Lib.hid hE6
      clear hE6 hv5
      have kp6 : Keeps (fun b => D b ∨ b = wb ∨ b = pc) W w6 := (HR.out.kp.trans' HK5.out.1 (fun b hb h => by
        rcases HR.out.sub b h with h | h
        · exact .inl h
        · omega)).trans' HE6.out (fun _ _ h => h.elim)
      have sub5 : ∀ b, D5 b → D b ∨ W.heap.size ≤ b := fun b hb => by
        rcases HK5.out.2 b hb with h | h
        · exact HR.out.sub b h
        · have := HR.out.kp.size; exact .inr (by omega)
      have hwl : ∀ b, b < W.heap.size → ¬ D b → ¬ D5 b := fun b hb hD h => by
        rcases sub5 b h with h | h
        · exact hD h
        · omega
      have HK6 := Lib.hid (And.intro kp6 (And.intro sub5 hwl))
      clear kp6 sub5 hwl
      by_cases hr : r.size = 0
      · obtain rfl := ba_empty hr
        have hem : (⟨#[]⟩ : ByteArray).toList.isEmpty = true := by rw [ByteArray.toList_eq]; rfl
        have HFI2 : Hid (IterPost W (fun b => b = wb ∨ b = pc) D O N C Cx (MetE wb root v nodes rest okf) (.returned (.tuple #[])) w6) := by
          have hG := HG.out
          rcases run_at W hG.good hG.valid hG.fuel HRQ.out.symm hG.run with ⟨_, e⟩ | ⟨h, _⟩
          case inr => exact absurd hr h
          obtain ⟨e1, e2⟩ := Prod.mk.inj e
          obtain ⟨e3, e4⟩ := Prod.mk.inj e2
          have hln : vs.length = k + 1 := by
            obtain ⟨_, _, _, h4⟩ := drop_cons (d := (n, p)) e1
            simpa using h4
          have hle := hG.le
          exact Lib.hid ⟨⟨_, rfl⟩, D5, fun b => b = wb, HK6.out.1, HK6.out.2.1, fun b h => by subst h; exact .inl HOW.out, fun b hb h => by subst h; exact HK6.out.2.2 _ HLT.out.2.1 HND.out.2.1 hb,
            .inl ⟨by rw [HN.out, hln]; exact (HC.out (k + 1)).keeps HC5.out HE6.out (fun _ _ h => h), fun b h => by subst h; exact Nat.lt_of_lt_of_le (Blk.lt HWY5.out) HE6.out.size, rfl, u, .nilIface, Blk.keeps HWY5.out HE6.out (fun h => h), .inl ⟨e4, rfl, by rw [e3, List.length_drop]; omega⟩⟩⟩
        clear hr
        gi_wp2
        refine bodyPost_ret (results_none rfl _ _ _) rfl ?_
        exact HFI2.out
      · have hne : r.toList.isEmpty = false := by
          rw [Bool.eq_false_iff]
          intro e
          rw [List.isEmpty_iff, ByteArray.toList_eq] at e
          exact hr (by rw [← size_list, e]; rfl)
        have pb6 := HPB5.out.keeps HE6.out (fun h => h)
        have p6 := pb6.cell (i := 0) (v := .string p) (by rfl)
        have f6 : w6.frozen? ⟨pc, 0, none⟩ = false := pb6.frozen
        have pb7 := pb6.set_same (i := 0) (.string q)
        have cp7 := (HCP5.out.keeps HE6.out (fun h => h)).set_other (p := ⟨pc, 0, none⟩) (show b1 ≠ pc from HNE.out.2.2.2.1) (.string q)
        have q7 := cp7.cell (i := 0) (v := .pointer (some ⟨wb, 0, none⟩)) (by rfl)
        have ks7 : Keeps (fun b => b = pc) w6 (w6.setCell ⟨pc, 0, none⟩ (.string q)) := Keeps.oneSet w6 ⟨pc, 0, none⟩ (.string q)
        have wy7 : WayAt (w6.setCell ⟨pc, 0, none⟩ (.string q)) wb root v u .nilIface := Blk.keeps (Blk.keeps HWY5.out HE6.out (fun h => h)) ks7 (fun e => HNE.out.2.2.2.2 e)
        have hv7 := (HV5.out.keeps HE6.out (fun h => h)).keeps ks7 (fun e => by
          have e : L = pc := e
          have := HF.out.new; have := HLT.out; omega)
        have kp7 : Keeps (fun b => D b ∨ b = wb ∨ b = pc) W (w6.setCell ⟨pc, 0, none⟩ (.string q)) := HK6.out.1.trans' ks7 (fun b _ e => .inr (.inr e))
        have hG := HG.out
        have hfo := wfollow_next _ (w6.setCell ⟨pc, 0, none⟩ (.string q)) wb pc L root v nodes vs rest okf k u f d p r q n (HPB.out _ kp7) ⟨wy7, hG.run, hG.lt, hG.fuel, hG.valid, hG.size, hG.good, hG.le⟩ HRQ.out.symm hr
        have HFO := Lib.hid hfo
        have HW7 := Lib.hid (And.intro pb7 (And.intro hv7 (And.intro kp7 ks7)))
        clear hr pb6 pb7 cp7 ks7 wy7 hv7 kp7 hG hfo
        gi_wp2_with fail
        refine ⟨trivial, rfl, CallsIn.mono (callsIn_wide.2 HFO.out) ?_⟩
        rintro e w8 ⟨m', okb', rfl, hN⟩
        have HNX := Lib.hid hN
        have hB8 := HW7.out.2.1.keeps hN.kp (fun e => by have e : L = wb := e; have := HF.out.new; have := HLT.out; omega)
        have HLM := Lib.hid (m'.cells_len hN.len)
        have HLN := Lib.hid (n.cells_len HR.out.len)
        clear hN
        gi_wp2_with (refine wpListIn_fillW (vs := m'.cells) rfl rfl rfl rfl hB8 (by rw [HLM.out, HLN.out]) (by rw [HLM.out]; exact Tryz.szNode) m'.one ?_; intro W9 hB9 hE9)
        have hLw : W.heap.size ≤ L := HF.out.new
        have hlts := HLT.out
        have k89 : Keeps (fun b => b = wb) (w6.setCell ⟨pc, 0, none⟩ (.string q)) w8 := HNX.out.kp
        have hL6 : L < w6.heap.size := Nat.lt_of_lt_of_le HV5.out.lt HE6.out.size
        have pb9 : Blk W9 pc (.cells #[.string q] 9) := (HW7.out.1.keeps k89 (fun e => HNE.out.2.2.2.2 e.symm)).keeps hE9 (fun e => by have e : pc = L := e; omega)
        have hD5 := (HC.out (k + 1)).lt _ _ HC5.out
        have hc9 : C (k + 1) D5 W9 := (HC.out (k + 1)).keeps ((HC.out (k + 1)).keeps ((HC.out (k + 1)).keeps ((HC.out (k + 1)).keeps HC5.out HE6.out (fun _ _ h => h)) HW7.out.2.2.2 (fun b hb e => by subst e; exact HK6.out.2.2 _ hlts.2.2 HND.out.2.2 hb)) k89 (fun b hb e => by subst e; exact HK6.out.2.2 _ hlts.2.1 HND.out.2.1 hb)) hE9 (fun b hb e => by
          subst e
          rcases HK5.out.2 _ hb with h | h
          · exact HR.out.nL h
          · have := HR.out.var.lt; omega)
        have hz67 : w6.heap.size ≤ (w6.setCell ⟨pc, 0, none⟩ (.string q)).heap.size := HW7.out.2.2.2.size
        have hz65 := HE6.out.size
        have hz8 := k89.size
        constructor
        · refine ⟨k + 1, D5, q, m', ⟨hc9, HK6.out.2.1, (HW7.out.2.2.1.trans' k89 (fun b _ e => .inr (.inl e))).trans' hE9 (fun b hb e => by have e : b = L := e; omega), pb9, hB9, fun h => ?_, HNX.out.len⟩, ?_⟩
          · rcases HK5.out.2 L h with h | h
            · exact HR.out.nL h
            · have := HR.out.var.lt; have := HK5.out.1.size; omega
          · rcases HNX.out.on with ⟨rfl, u', f', d', hG⟩ | ⟨rfl, e1, e2, u', eb, ek, hz, hW, hBe⟩
            · exact .inl ⟨rfl, u', f', d', Blk.keeps hG.way hE9 (fun e => by have e : wb = L := e; omega), hG.run, hG.lt, hG.fuel, hG.valid, hG.size, hG.good, hG.le⟩
            · have hsz := HW7.out.2.2.1.size
              exact .inr ⟨rfl, e1, e2, u', eb, ek, fun h => by have := hD5 eb h; omega, by omega, Blk.keeps hW hE9 (fun e => by have e : wb = L := e; omega), hBe.keeps hE9 (fun e => by have e : eb = L := e; omega)⟩
        · have hpr := HR.out.path.cell (i := 0) (v := .string p) (by rfl)
          have hp9 := pb9.cell (i := 0) (v := .string q) (by rfl)
          have hG := HG.out
          have hqp : q.size < p.size := by
            rcases run_at W hG.good hG.valid hG.fuel HRQ.out.symm hG.run with ⟨h, _⟩ | ⟨_, g, _, _, h, _⟩
            · exfalso
              rw [ba_empty h] at hne
              rw [ByteArray.toList_eq] at hne
              cases hne
            · exact h
          unfold mtM
          rw [hpr, hp9]
          cases okb' with
          | true => show strSz (.string q) + 1 < strSz (.string p) + 1; simp only [strSz]; omega
          | false => show 0 < strSz (.string p) + 1; omega
end
end Go.Proofs.YtllbcjclibbogaaGreatDoor
/- proof: errors.Is of what is wrong. -/
namespace Go.Proofs.YtllbcjclibbogaaGreatDoor
section
open Go Go.RowKit
set_option linter.unusedSimpArgs false
set_option linter.unusedVariables false
theorem Tryz.noIsW (v : Value) (xT : TypeId) (w : World) : (Instr.typeAssert (.iface 139 v) xT 182 true).run Tryz.prog w = .ok (.tuple #[.nilIface, .bool false]) w := run_typeAssert_lacksB Tryz.underlying182 (by kernel_rfl) (by kernel_rfl) v xT w
theorem Tryz.hasUnwrapW (v : Value) (xT : TypeId) (w : World) : (Instr.typeAssert (.iface 139 v) xT 185 true).run Tryz.prog w = .ok (.tuple #[.iface 139 v, .bool true]) w := run_typeAssert_hasB Tryz.underlying185 (by kernel_rfl) v xT w
theorem Tryz.methodUnwrapW (n : Nat) (v : Value) (w : World) : (Go.method (n + 1) 139 v "Unwrap").run Tryz.prog w = .ok (226, v) w := by kernel_rfl
theorem unwrapW_c (w : World) (b : Nat) (k : Int) (c : Value) (hB : Blk w b (.cells #[.int .i64 k, c] 141)) : Calls Tryz.prog 226 #[.pointer (some ⟨b, 0, none⟩)] w fun e w' => e = .returned c ∧ w = w' := by
  have q1 := hB.cell (i := 1) (v := c) (by rfl)
  clear hB
  go_enter Tryz.func226, Tryz.ntmps226
  go_wp2_with fail
  go_ret
  exact ⟨rfl, rfl⟩
set_option maxRecDepth 100000 in
set_option maxHeartbeats 2000000 in
theorem is2W_c (w : World) (b : Nat) (k : Int) (hB : Blk w b (.cells #[.int .i64 k, prfE] 141)) : Calls Tryz.prog 91 #[.iface 139 (.pointer (some ⟨b, 0, none⟩)), prfE, .bool true] w fun e w' => e = .returned (.bool true) ∧ w = w' := by
  have HB := Lib.hid hB
  clear hB
  have hq3 := fun w => run_eql_iface_types (P := Tryz.prog) 139 25 (.pointer (some ⟨b, 0, none⟩)) (.int .i64 10) Tryz.underlying92 (by decide) w
  have hq4 : ∀ w, (binOp .eql 92 prfE prfE).run Tryz.prog w = .ok (.bool true) w := fun w => by kernel_rfl
  have hq5 : ∀ w, (binOp .eql 92 prfE .nilIface).run Tryz.prog w = .ok (.bool false) w := fun w => by kernel_rfl
  unfold prfE at *
  have n1 := Tryz.noIsW
  have n2 := Tryz.hasUnwrapW
  have n3 := Tryz.methodUnwrapW 396
  go_enter Tryz.func91, Tryz.ntmps91
  go_wp2_with fail
  refine wp_loop_rounds 2 ?_
  rw [rounds_succ]
  go_wp2_with fail
  refine (unwrapW_c w b k _ HB.out).mono ?_
  rintro e w1 ⟨rfl, rfl⟩
  go_wp2_with fail
  rw [rounds_succ]
  go_wp2_with fail
  go_ret
  exact ⟨rfl, rfl⟩
set_option maxRecDepth 100000 in
set_option maxHeartbeats 2000000 in
theorem is_wrong (w : World) (b : Nat) (k : Int) (hB : Blk w b (.cells #[.int .i64 k, prfE] 141)) : Calls Tryz.prog 50 #[.iface 139 (.pointer (some ⟨b, 0, none⟩)), prfE] w fun e w' => e = .returned (.bool true) ∧ w = w' := by
  have HB := Lib.hid (is2W_c w b k hB)
  clear hB
  have hq1 : ∀ w, (binOp .eql 92 (.iface 139 (.pointer (some ⟨b, 0, none⟩))) .nilIface).run Tryz.prog w = .ok (.bool false) w := fun w => by kernel_rfl
  have hq2 : ∀ w, (binOp .eql 92 prfE .nilIface).run Tryz.prog w = .ok (.bool false) w := fun w => by kernel_rfl
  unfold prfE at *
  have h8 : ∀ w, (callFunc 90 #[.iface 25 (.int .i64 10)]).run Tryz.prog w = .ok (.value (.iface 180 (.agg #[.pointer (some ⟨3, 25, none⟩)]))) w := fun w => by kernel_rfl
  have h32 : ∀ w, (callFunc 229 #[.agg #[.pointer (some ⟨3, 25, none⟩)]]).run Tryz.prog w = .ok (.value (.bool true)) w := fun w => by kernel_rfl
  have mR := Tryz.isMethodComparable 396
  go_enter Tryz.func50, Tryz.ntmps50
  go_wp2_with fail
  refine HB.out.mono ?_
  rintro e w1 ⟨rfl, rfl⟩
  go_wp2_with fail
  go_ret
  exact ⟨rfl, rfl⟩
set_option maxRecDepth 100000 in
set_option maxHeartbeats 2000000 in
theorem is_nilW (w : World) : Calls Tryz.prog 50 #[.nilIface, prfE] w fun e w' => e = .returned (.bool false) ∧ w = w' := by
  have hq1 : ∀ w, (binOp .eql 92 .nilIface .nilIface).run Tryz.prog w = .ok (.bool true) w := fun w => by kernel_rfl
  have hq2 : ∀ w, (binOp .eql 92 .nilIface prfE).run Tryz.prog w = .ok (.bool false) w := fun w => by kernel_rfl
  unfold prfE at *
  go_enter Tryz.func50, Tryz.ntmps50
  go_wp2_with fail
  go_ret
  exact ⟨rfl, rfl⟩
end
end Go.Proofs.YtllbcjclibbogaaGreatDoor
