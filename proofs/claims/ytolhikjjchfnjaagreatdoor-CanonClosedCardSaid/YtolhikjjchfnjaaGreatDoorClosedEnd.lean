/- Parts of the proof, one behind the other: MixR, HashA, ClosedB, ClosedP. Each is under no condition but those that it states. -/
import Derived.Test.YtolhikjjchfnjaaGreatDoorBa16
import Derived.Test.YtolhikjjchfnjaaGreatDoorBa13
import Derived.Test.YtolhikjjchfnjaaGreatDoorBa7
import Derived.Test.YtolhikjjchfnjaaGreatDoorBa34
import Derived.Test.YtolhikjjchfnjaaGreatDoorBa35
import Derived.Test.YtolhikjjchfnjaaGreatDoorBa30
import Derived.Test.YtolhikjjchfnjaaGreatDoorBa33
import Derived.RangeFuncCalls
import Derived.OrdersIn
import Derived.Deep.MidRow
import Derived.WalkKit
import Derived.ProofKit
import Derived.OpenShut
import Derived.Lib.SmallJoins
import Derived.Deep.DeepHandedRow
import Derived.Lay
import Derived.Carry
import Derived.ChangeMaps5
/- A drawn region with calls in a round's body: the plain law does. -/
namespace Go.Proofs.YtolhikjjchfnjaaGreatDoor
section
open Go Go.RowKit
set_option linter.unusedSimpArgs false
set_option linter.unusedVariables false
section mixr
variable {P : Program} {l : List Oper} {lr : Nat} {R : Act → World → Prop}
/-- What is asked at the end alone. -/
def OnlyNormal (R : Act → World → Prop) : Exit → Act → World → Prop := fun e a w => e = .normal ∧ R a w
theorem letsOut_no : ¬ LetsOut (OnlyNormal R) := fun ⟨_, _, h, _⟩ => by cases h
theorem wpIn_of_wp {o : Oper} {a : Act} {w : World} {K K' : Act → World → Prop} {Q : Exit → Act → World → Prop} (hd : ∀ c, o.op ≠ .defer c) (hK : ∀ a w, K a w → K' a w) (h : o.wp P a w K (OnlyNormal R)) :
    o.wpIn (Fence.wide.inRound lr) 0 P a w K' Q := by
  unfold Oper.wp at h
  refine ⟨fun _ _ => trivial, ?_⟩
  rw [Oper.semAt_eq _ _ _ hd]
  generalize (execOp a.eval o).run P w = r at *
  cases r with
  | ok x w' =>
    cases x with
    | value v => exact hK _ _ h
    | skip => exact hK _ _ h
    | defer d => exact hK _ _ h
    | enter f args =>
      refine And.intro (fun hh => absurd hh (by simp [Fence.wide])) (CallsIn.inRound lr (callsIn_wide.2 (Calls.mono h fun e w'' he => ?_)))
      cases e with
      | returned v => exact hK _ _ he
      | panicked c => cases he.1
      | outgrown => exact absurd he letsOut_no
    | row r args => exact And.intro (fun hh => absurd hh (by simp [Fence.wide])) (fun c cs _ => let ⟨v, w', r, s⟩ := h c cs; ⟨v, w', hK _ _ r, stepsIn_wide.2 s⟩)
    | round l f t a b => exact h.elim
    | _ => exact h.elim
  | halt x w' =>
    cases x <;> first | exact h.elim | cases h.1
theorem anyIn_of_any (hnd : noDefer l.toArray = true) : ∀ (fuel : Nat) (listed : Array Bool) (a : Act) (w : World), wpAny P .any l.toArray (OnlyNormal R) fuel listed a w → wpAnyIn (Fence.wide.inRound lr) 0 P .any l.toArray (OnlyNormal R) fuel listed a w := by
  have hnd' : ∀ (i : Nat) (o : Oper), l.toArray[i]? = some o → ∀ c, o.op ≠ .defer c := by
    intro i o ho c hc
    unfold noDefer at hnd
    rw [List.all_eq_true] at hnd
    have := hnd o (by simpa using List.mem_of_getElem? (by simpa using ho))
    rw [hc] at this; simp at this
  intro fuel
  induction fuel with
  | zero => exact fun _ _ _ h => h
  | succ fuel ih =>
    intro listed a w h
    refine ⟨h.1, fun i hi => ?_⟩
    have hh := h.2 i hi
    unfold wpOp at hh
    unfold wpOpIn
    split
    · rename_i ho; simp only [ho] at hh; exact ih _ _ _ hh
    · rename_i o ho
      simp only [ho] at hh
      split
      · rename_i hw; simp only [hw, if_true] at hh
        rcases hh with hh | hh
        · exact wpIn_of_wp (hnd' i o ho) (fun a w h => ih _ a w h) hh
        · exact absurd hh.2 letsOut_no
      · rename_i hw; simp only [hw] at hh
        exact ⟨fun _ _ => trivial, ih _ _ _ hh⟩
/-- In a round's body as in a plain one: the region's law from its any-order form. -/
theorem wpIn_region_r (hm : P.follows .mixedOrders = true) (hnd : noDefer l.toArray = true) {id : Nat} {Q : Exit → Act → World → Prop} {a : Act} {w : World} (hq : ∀ a w, R a w → Q .normal a w)
    (h : wpAny P .any l.toArray (OnlyNormal R) l.toArray.size (Array.replicate l.toArray.size false) a w.drew) : (Code.region id l.toArray true).wpIn (Fence.wide.inRound lr) 0 P Q a w :=
  wpIn_mono (wpIn_region_any hm (anyIn_of_any hnd _ _ _ _ h)) fun e a w ⟨he, hr⟩ => by subst he; exact hq _ _ hr
/-- The mixed law in a round's body. -/
theorem wpIn_region_mix_r (ord hd : List Nat) (E : World → World → Prop) (hE : ∀ w, E w w) (hT : ∀ x y z, E x y → E y z → E x z) {id : Nat} {Q : Exit → Act → World → Prop} {a : Act} {w : World}
    (hm : P.follows .mixedOrders = true) (hnd : noDefer l.toArray = true) (hs : Region.noSelect l.toArray = true) (hl : ord.length = l.toArray.size)
    (h : Mix P l hd E (fun a w => Q .normal a w) ord [] a w.drew) : (Code.region id l.toArray true).wpIn (Fence.wide.inRound lr) 0 P Q a w := by
  refine wpIn_region_r (R := fun a w => Q .normal a w) hm hnd (fun _ _ h => h) ?_
  rw [← hl]
  have := anyM_of_mix hE hT hs ord _ _ _ h
  unfold marks at this
  rw [hl] at this ⊢
  exact anyM_sound hE (fun _ _ h => ⟨rfl, h⟩) _ _ _ _ this
/-- A new variable in a round's body, its world a letter. -/
theorem wpListIn_new {ops : Array Oper} {rest : List Oper} {o : Oper} {a : Act} {w : World} {Q : Exit → Act → World → Prop} {T : TypeId} {cs : List Value} (hrun : ∀ w, (Instr.alloc T true (.tuple #[])).run P w = .ok (.pointer (some ⟨w.heap.size, 0, none⟩)) (w.alloc (.cells cs.toArray T))) (hgd : o.guard = none) (ho : o.op = .alloc T)
    (h : ∀ W, Blk W w.heap.size (.cells cs.toArray T) → Ext w W → wpListIn (Fence.wide.inRound lr) 0 P ops Q rest (a.put o.dst (.pointer (some ⟨w.heap.size, 0, none⟩))) W) : wpListIn (Fence.wide.inRound lr) 0 P ops Q (o :: rest) a w :=
  wpListIn_plain hgd fun K hK => wpIn_of_wp (R := fun _ _ => False) (by rw [ho]; intro c hc; cases hc) (fun _ _ h => h) (wp_value (v := .pointer (some ⟨w.heap.size, 0, none⟩)) (w' := w.alloc (.cells cs.toArray T)) (by simp only [execOp, ho, Sem.run_bind, hrun, Result.andThen, Sem.run_pure]) (hK _ _ (h _ (Blk.new w _) ((ExtR w).alloc _))))
/-- An array or a struct stored over a whole block, in a round's body. -/
theorem wpListIn_fill {ops : Array Oper} {rest : List Oper} {o : Oper} {a : Act} {w : World} {Q : Exit → Act → World → Prop} {T T2 : TypeId} {x y : Operand} {b : Nat} {old vs : List Value} (hgd : o.guard = none) (ho : o.op = .store T x y) (hx : a.eval x = .pointer (some ⟨b, 0, none⟩)) (hy : a.eval y = .agg vs.toArray)
    (hB : Blk w b (.cells old.toArray T2)) (hl : old.length = vs.length) (hi : (P.info? T).map (·.size) = some vs.length) (h1 : ∀ v ∈ vs, v.oneCell' = true)
    (h : ∀ W, Blk W b (.cells vs.toArray T2) → Keeps (fun z => z = b) w W → wpListIn (Fence.wide.inRound lr) 0 P ops Q rest (a.put o.dst undef) W) : wpListIn (Fence.wide.inRound lr) 0 P ops Q (o :: rest) a w := by
  refine wpListIn_plain hgd fun K hK => wpIn_of_wp (R := fun _ _ => False) (by rw [ho]; intro c hc; cases hc) (fun _ _ h => h) ?_
  refine wp_store_mid T x y ho b 0 vs.toArray hx hy (by have := thereOf hB; rw [hl] at this; simpa using this) (by simpa using hi) (all_oneCell_toArray h1) (hK _ _ (h _ ?_ (Keeps.oneSetCells b vs 0 w)))
  have := Blk.setCells vs 0 w old hB (by omega)
  rw [List.drop_of_length_le (by omega)] at this
  simpa using this
end mixr
end
end Go.Proofs.YtolhikjjchfnjaaGreatDoor
/- node: Hashes, of nodes that may be. -/
namespace Go.Proofs.YtolhikjjchfnjaaGreatDoor
section
open Go Go.RowKit
set_option linter.unusedSimpArgs false
set_option linter.unusedVariables false
attribute [local go_sem] Oper.semAt_some
theorem refs_hashes : ∀ (l : List ByteArray) (i : Nat), ((refsFrom i l).filterMap fun x => hashR x.2) = l.filterMap hashR
  | [], _ => rfl
  | x :: l, i => by
    unfold refsFrom
    by_cases h : x.size = 0
    · rw [if_pos h, refs_hashes l, List.filterMap_cons, ba_empty h, hashR_nil]
    · rw [if_neg h, List.filterMap_cons, List.filterMap_cons, refs_hashes l]
/-- The hashes of the first k refs. -/
def hashK (n : NodeT) (k : Nat) : List ByteArray := (n.refsL.take k).filterMap fun x => hashR x.2
theorem hashK_all (n : NodeT) : hashK n n.refsL.length = hashesT n := by
  unfold hashK; rw [List.take_length]; exact refs_hashes _ _
theorem hashK_step (n : NodeT) {k : Nat} (hk : k < n.refsL.length) : hashK n (k + 1) = hashK n k ++ (hashR (n.rr k)).toList := by
  unfold hashK
  rw [List.take_succ_eq_append_getElem hk, List.filterMap_append]
  congr 1
  have : n.rr k = (n.refsL[k]).2 := by simp [NodeT.rr, List.getD_eq_getElem?_getD, hk]
  rw [this, List.filterMap_cons]
  cases hashR (n.refsL[k]).2 <;> rfl
theorem hashK_len (n : NodeT) (k : Nat) : (hashK n k).length ≤ n.refs.length := by
  have h1 : ∀ (l : List ByteArray) (i : Nat), (refsFrom i l).length ≤ l.length := by
    intro l
    induction l with
    | nil => intro i; simp [refsFrom]
    | cons x r ih => intro i; unfold refsFrom; split <;> simp <;> have := ih (i + 1) <;> omega
  have h2 := h1 n.refs 0
  unfold hashK
  have h3 := List.length_filterMap_le (fun x : Nat × ByteArray => hashR x.2) (n.refsL.take k)
  rw [List.length_take] at h3
  have : n.refsL = refsFrom 0 n.refs := rfl
  rw [this] at h3 ⊢
  omega
theorem mem_list {x : ByteArray} {l : List ByteArray} (h : x ∈ l) : x.size ≤ (listB l).size := Nat.le_trans (catB_mem l x h) (listB_ge l)
theorem may_none {d : Nat} {r : ByteArray} (h : MayP (InlD d) r) (hs : r.size < 32) : hashR r = none := by
  rcases h with h | ⟨m, h⟩
  · have := h.size; omega
  · exact hashR_inl (inlP d) h
/-- A node that stands in a ref refers to nothing by a hash. -/
theorem small_hashes {d : Nat} {n : NodeT} (h : GoodW (InlD d) n) (hs : (nodeB n).size < 32) : hashesT n = [] := by
  unfold hashesT
  cases h with
  | none => exact hashes_no 16
  | leaf p v h1 h2 h3 => exact hashes_no 16
  | ext p r h1 h2 h3 =>
    show (r :: noRefs 15).filterMap hashR = []
    have hr : r.size < 32 := by
      have e : nodeB ⟨2, p, ⟨#[]⟩, r :: noRefs 15⟩ = listB [textB (putB p false), r] := rfl
      have := mem_list (x := r) (l := [textB (putB p false), r]) (by simp)
      rw [e] at hs; omega
    rw [List.filterMap_cons, hashes_no, may_none (h3.imp id fun ⟨m, h, _⟩ => ⟨m, h⟩) hr]
  | branch v rs h1 h2 h3 h4 =>
    show rs.filterMap hashR = []
    rw [List.filterMap_eq_nil_iff]
    intro r hr
    by_cases h0 : r.size = 0
    · rw [ba_empty h0, hashR_nil]
    · have e : nodeB ⟨3, ⟨#[]⟩, v, rs⟩ = listB (branchX rs v) := by
        show listB (branchL _) = _
        rw [branchL_eq _ h1]
      have hm : r ∈ branchX rs v := by
        unfold branchX
        refine List.mem_append.2 (.inl (List.mem_map.2 ⟨r, hr, ?_⟩))
        rw [if_neg h0]
      have := mem_list hm
      rw [e] at hs
      exact may_none (h3 r hr h0) (by omega)
theorem own_le {w : World} {B : Nat} {T : TypeId} {sz : Nat} {ad : Option Addr} {n cp : Nat} {xs : List Value} (h : w.ownsRow B T sz (.slice ad n cp) n xs) : n ≤ cp := by
  obtain ⟨_, ⟨h1, h2⟩ | ⟨g, cap, cur, h1, h2, h3, h4, _⟩⟩ := h
  · omega
  · obtain ⟨_, _, h5⟩ := Value.slice.inj h1; omega
structure HsS (w : World) (g3 gi m : Nat) (n : NodeT) (k : Nat) (W : World) : Prop where
  ext : Ext w W
  it : Blk W gi (.cells n.cells.toArray 87)
  row : ∃ v, Blk W g3 (.cells #[v] 29) ∧ W.ownsRow 0 9 1 v (hashK n k).length ((hashK n k).map Value.string) ∧ (∀ b, v.ownBlock = some b → m + 2 ≤ b) ∧ (hashK n k = [] → v = .slice none 0 0)
theorem HsS.st {w : World} {g3 gi m : Nat} {n : NodeT} {k : Nat} {W W' : World} (h : HsS w g3 gi m n k W) (e : Ext W W') : HsS w g3 gi m n k W' :=
  let ⟨v, h1, h2, h3, h4⟩ := h.row
  ⟨h.ext.trans e, h.it.keeps e (fun h => h), v, h1.keeps e (fun h => h), own_ext h2 e, h3, h4⟩
theorem HsS.put {w : World} {g3 gi m : Nat} {n : NodeT} {k : Nat} {W : World} (h : HsS w g3 gi m n k W) {r : Nat} (hr : w.heap.size ≤ r) (h1 : g3 < r) (h1' : gi < r) (h2 : r < m + 2) (o : Obj) : HsS w g3 gi m n k (W.putObj r o) :=
  let ⟨v, h3, h4, h5, h6⟩ := h.row
  ⟨h.ext.putObj (.inr hr) _, h.it.put_other (by omega) _, v, h3.put_other (by omega) _, own_keeps h4 (Keeps.onePut W r o) (fun b hb e => by have := h5 b hb; omega), h5, h6⟩
/-- What Hashes answers. -/
def HashP (w : World) (n : NodeT) (e : Ending) (w' : World) : Prop := ∃ v, e = .returned v ∧ SRow w w' v (hashesT n).length (hashesT n) ∧ (hashesT n = [] → v = .slice none 0 0)
theorem good_may {I : ByteArray → NodeT → Prop} {n : NodeT} (h : GoodW I n) : ∀ r ∈ n.refs, r.size ≠ 0 → MayP I r := by
  have hz : ∀ r ∈ noRefs 16, r.size ≠ 0 → MayP I r := fun r hr h0 => by rw [List.eq_of_mem_replicate hr] at h0; exact absurd rfl h0
  cases h with
  | none => exact hz
  | leaf p v h1 h2 h3 => exact hz
  | ext p r h1 h2 h3 =>
    intro x hx h0
    rcases List.mem_cons.1 hx with rfl | hx
    · exact h3.imp id fun ⟨m, h, _⟩ => ⟨m, h⟩
    · rw [List.eq_of_mem_replicate hx] at h0; exact absurd rfl h0
  | branch v rs h1 h2 h3 h4 => exact h3
theorem Tryz.enterHashes : ∀ args w, (callFunc 35 args).run Tryz.prog w = .ok (.enter 35 args) w := fun _ _ => by kernel_rfl
set_option maxRecDepth 100000 in
set_option maxHeartbeats 4000000 in
theorem hashes_step (d : Nat) (n : NodeT) (h : GoodW (InlD d) n) (ih : ∀ r m, InlD d r m → ∀ w, Calls Tryz.prog 35 #[m.V] w (HashP w m)) (w : World) : Calls Tryz.prog 35 #[n.V] w (HashP w n) := by
  have hr := (h.one (inlP d)).refs
  obtain ⟨i0, hi, hz0, hz1, hz2⟩ := info_parts Tryz.infoStr
  have HV := Lib.hid (fun w => valid_c4 (inlP d) w n h)
  have HM := Lib.hid (good_may h)
  have HIH := Lib.hid ih
  have HQ := Lib.hid (show ∀ (v : Value) W', HashP w n (.returned v) W' ↔ (SRow w W' v (hashesT n).length (hashesT n) ∧ (hashesT n = [] → v = .slice none 0 0)) from fun v W' => ⟨fun ⟨_, e, h⟩ => by cases e; exact h, fun h => ⟨v, rfl, h⟩⟩)
  have hld := run_load_api (w.alloc (.cells n.cells.toArray 56)) _ n hr (Blk.new w _)
  clear h ih
  unfold NodeT.V at hld ⊢
  rw [← callsIn_wide (n := 0)]
  refine callsIn_of_wp_marks Tryz.func35 rfl trivial ?_ rfl
  simp only [Tryz.ntmps35, List.size_toArray, List.length_cons, List.length_nil, Nat.reduceAdd, Nat.reduceSub, Array.replicate_succ, Array.replicate_zero, List.push_toArray, List.append_toArray, List.nil_append, List.cons_append]
  gi_wp2_with (refine wpListIn_load_known rfl 56 (.tmp 1) rfl _ _ rfl hld ?_)
  refine ⟨trivial, rfl, CallsIn.mono (callsIn_wide.2 (HV.out _)) ?_⟩
  rintro e w1 ⟨rfl, hE⟩
  have hB1 := (Blk.new w (.cells n.cells.toArray 56)).keeps hE (fun h => h)
  have HE1 := Lib.hid (((ExtR w).alloc _).trans hE)
  obtain ⟨W2, hW2⟩ : ∃ W2, W2 = w1.alloc (.cells #[.slice none 0 0] 29) := ⟨_, rfl⟩
  have HW2 := Lib.hid hW2
  have hB2 : Blk W2 w.heap.size (.cells n.cells.toArray 56) := by rw [hW2]; exact hB1.alloc _
  have HB3 := Lib.hid (show Blk W2 w1.heap.size (.cells #[.slice none 0 0] 29) by rw [hW2]; exact Blk.new w1 _)
  have HE2 := Lib.hid (show Ext w W2 by rw [hW2]; exact HE1.out.alloc _)
  have hld2 := run_load_api W2 _ n hr hB2
  have hg3 := hB1.lt
  rw [hW2] at hld2
  clear hld hE hB1 hW2 hB2
  unfold NodeT.V at hld2
  gi_wp2_with (refine wpListIn_load_known rfl 56 (.tmp 1) rfl _ _ rfl hld2 ?_)
  rw [← HW2.out]
  refine ⟨trivial, rfl, CallsIn.mono (callsIn_wide.2 (refs_c W2 n)) ?_⟩
  rintro e w3 ⟨rfl, hbn, hE⟩
  have hW2s := HB3.out.lt
  obtain ⟨gi, hgi⟩ : ∃ g, g = W2.heap.size := ⟨_, rfl⟩
  obtain ⟨g3, hg3e⟩ : ∃ g, g = w1.heap.size := ⟨_, rfl⟩
  rw [← hg3e] at HB3 hW2s hg3
  rw [← hgi] at hbn hW2s ⊢
  rw [← hg3e]
  have S0 : HsS w g3 gi w3.heap.size n 0 w3 := ⟨HE2.out.trans hE, hbn, _, HB3.out.keeps hE (fun h => h), World.ownsRow_nil _ _ _ _, (fun b hb => by cases hb), (fun _ => rfl)⟩
  have hl1 := hbn.lt
  have hgw := HE1.out.size
  have HS0 := Lib.hid S0
  have HGW := Lib.hid (show w.heap.size ≤ g3 by omega)
  clear hld2 hbn hE HE1 HW2 HB3 HE2 S0 hgw hgi hg3e
  gi_wp2_with fail
  refine wp_rangeE (N := n.refsL.length) (gf := 99) (lb := #[.pointer (some ⟨gi, 0, none⟩)]) rfl Tryz.enterRefs1 (refs_it gi n hr)
    (fun k => rfl) (HsS w g3 gi w3.heap.size n) (fun _ _ _ => False) (fun k W W' h e => h.st e) (fun _ _ _ _ h _ => h) (fun k W h => h.it)
    (fun k W o h => h.put (by have := HGW.out; omega) (by omega) (by omega) (by omega) _)
    (fun k W o h => h.put (by have := HGW.out; omega) (by omega) (by omega) (by omega) _) (fun _ _ _ _ h => h)
    HS0.out (fun k => { tmps := #[.agg n.cells.toArray, .pointer (some ⟨w.heap.size, 0, none⟩), .slice none 0 0, .pointer (some ⟨g3, 0, none⟩), undef, .string (n.rr k), undef, undef, undef, undef, .agg n.cells.toArray, .bool true, .bool false, .agg n.cells.toArray, .func (.func 99) #[] #[.pointer (some ⟨gi, 0, none⟩)], .int .i64 (n.ri k : Nat), .string (n.rr k), undef, undef, undef, undef, undef, undef, undef, undef, undef, undef, undef, undef, undef, undef, undef, undef, undef, undef, undef, undef], defers := [] })
    ?hassign ?hbody ?hdone ?hstop
  case hassign =>
    intro l j W K hK
    rw [rv_eq, fold2]
    simp only [List.set_cons_zero, List.set_cons_succ]
    gi_wp2
    exact hK
  case hbody =>
    intro l k W hk hS hlt
    have hri := ri_lt n hr hk
    have hmay := HM.out _ (List.mem_of_getElem? hri.2.1) hri.2.2
    have hst := hashK_step n hk
    have hkl := hashK_len n k
    rw [hr] at hkl
    obtain ⟨r, hre⟩ : ∃ r, r = n.rr k := ⟨_, rfl⟩
    rw [← hre] at hmay hst ⊢
    have HS := Lib.hid hS
    have HST := Lib.hid hst
    have hwg := HGW.out
    have HWG := Lib.hid hwg
    clear hS hri hst hre hwg
    rcases hmay with hh | ⟨m, hm⟩
    · obtain ⟨hs, x, q, h3, h4⟩ := hh.known
      have HX := Lib.hid (show hashK n (k + 1) = hashK n k ++ [x] by
        rw [HST.out]; unfold hashR; rw [h3]; show _ ++ (hashB r q).toList = _; rw [h4]; rfl)
      have H3 := Lib.hid h3
      have H4 := Lib.hid h4
      clear h3 h4 hh
      gi_wp2_with fail
      refine ⟨trivial, rfl, CallsIn.mono (CallsIn.inRound l (callsIn_wide.2 (hash_c W r q hs H3.out))) ?_⟩
      rintro e w5 ⟨rfl, hE⟩
      rw [H4.out]
      have S5 := HS.out.st hE
      obtain ⟨v, h1, h2, h3, h4⟩ := S5.row
      obtain ⟨ad, cp, rfl⟩ := row_slice h2
      have q4 : w5.cell? ⟨g3, 0, none⟩ = some (.slice ad (hashK n k).length cp) := h1.cell (i := 0) (by rfl)
      have f4 : w5.frozen? ⟨g3, 0, none⟩ = false := h1.frozen
      have hsz := hE.size
      have HS5 := Lib.hid S5
      have HE5 := Lib.hid hE
      have HB1 := Lib.hid h1
      have HB2 := Lib.hid h2
      have HB3 := Lib.hid h3
      clear S5 h1 h2 h3 h4 hE
      unfold optV
      gi_wp2_with (gi_at_builtin; refine wpListIn_append_any _ rfl (.tmp 23) (.tmp 25) 29 rfl 9 i0 _ 1 16 Tryz.uStrs hi hz0 hz1 hz2 rfl (by decide) (.slice ad (hashK n k).length cp) (hashK n k).length _ rfl (own_ext HB2.out ((ExtR w5).alloc _)) ⟨w5.heap.size, 0, none⟩ 1 1 [.string x] rfl rfl (news_blk (Blk.new w5 _)) (by simp [Value.oneCell']) (by unfold maxLen; omega) (by omega) ?_)
      intro v' w6 r1 r2 r3
      have K6 : Keeps (fun b => (Value.slice ad (hashK n k).length cp).ownBlock = some b) w5 w6 := ((Keeps.refl _ w5).alloc _).trans r2
      have hl : (hashK n (k + 1)).length = (hashK n k).length + 1 := by rw [HX.out]; simp
      have r1 : w6.ownsRow 0 9 1 v' (hashK n (k + 1)).length ((hashK n (k + 1)).map Value.string) := by
        rw [hl, HX.out, List.map_append]; exact r1
      have nb : ∀ b, b < w3.heap.size + 2 → ¬ (Value.slice ad (hashK n k).length cp).ownBlock = some b := fun b hb e => by have := HB3.out b e; omega
      obtain ⟨ad', cp', rfl⟩ := row_slice r1
      have hv' : ∀ b, (Value.slice ad' (hashK n (k + 1)).length cp').ownBlock = some b → w3.heap.size + 2 ≤ b := fun b hb => by
        rcases r3 with r3 | r3
        · exact HB3.out b (r3 ▸ hb)
        · have := r3 b hb; first | omega | (simp at this; omega)
      have B4 := HB1.out.keeps K6 (nb _ (by omega))
      have q4' : w6.cell? ⟨g3, 0, none⟩ = some (.slice ad (hashK n k).length cp) := B4.cell (i := 0) (by rfl)
      have f4' : w6.frozen? ⟨g3, 0, none⟩ = false := B4.frozen
      have HK6 := Lib.hid K6
      have HB4 := Lib.hid B4
      have R1 := Lib.hid r1
      have HV' := Lib.hid hv'
      have NB := Lib.hid nb
      clear K6 r1 r2 r3 hv' B4 nb q4 f4 hl
      gi_wp2
      have k7 : Keeps (fun b => b = g3) w6 (w6.setCell ⟨g3, 0, none⟩ (.slice ad' (hashK n (k + 1)).length cp')) := Keeps.oneSet w6 ⟨g3, 0, none⟩ _
      refine ⟨((HE5.out.mono (fun _ _ h => h.elim)).trans (HK6.out.mono (fun x _ e => ?_))).trans' k7 (fun x _ e => ?_), ?_⟩
      · have := HB3.out x e; show x ≠ _ ∧ x ≠ _; omega
      · have e : x = _ := e; show x ≠ _ ∧ x ≠ _; omega
      · refine ⟨(HS5.out.ext.trans' HK6.out (fun x hx e => by have := HB3.out x e; have := HWG.out; omega)).trans' k7 (fun x hx e => by have e : x = _ := e; have := HWG.out; omega),
          (HS5.out.it.keeps HK6.out (NB.out _ (by omega))).keeps k7 (fun e => by omega),
          _, HB4.out.set_same (i := 0) _, own_keeps R1.out k7 (fun b hb e => by have := HV'.out b hb; omega), HV'.out, fun h0 => ?_⟩
        rw [HX.out] at h0; simp at h0
    · have hs := (inlP d).small r m hm
      obtain ⟨q, h3, h4⟩ := (inlP d).nohash r m hm
      have HX := Lib.hid (show hashK n (k + 1) = hashK n k by
        rw [HST.out, hashR_inl (inlP d) hm]; simp)
      have HC := Lib.hid ((inlP d).inl r m hm)
      have HRL := Lib.hid ((inlP d).refs r m hm)
      have H3 := Lib.hid h3
      have H4 := Lib.hid h4
      have HCM := Lib.hid (show ∀ W, Calls Tryz.prog 35 #[m.V] W fun e W' => e = .returned (.slice none 0 0) ∧ Ext W W' from fun W => by
        have hsm : hashesT m = [] := by
          cases d with
          | zero => exact hm.elim
          | succ d => exact small_hashes hm.1 (by rw [← hm.2.1]; exact hm.2.2.1)
        refine (HIH.out r m hm W).mono ?_
        rintro e W' ⟨v, rfl, h1, h2⟩
        rw [h2 hsm]; exact ⟨rfl, h1.ext⟩)
      clear h3 h4 hm
      gi_wp2_with fail
      refine ⟨trivial, rfl, CallsIn.mono (CallsIn.inRound l (callsIn_wide.2 (hash_c W r q (by omega) H3.out))) ?_⟩
      rintro e w5 ⟨rfl, hE⟩
      rw [H4.out]
      have HE5 := Lib.hid hE
      clear hE
      unfold optV
      gi_wp2_with fail
      refine ⟨trivial, rfl, CallsIn.mono (CallsIn.inRound l (callsIn_wide.2 (HC.out w5))) ?_⟩
      rintro e w6 ⟨rfl, hE⟩
      have HE6 := Lib.hid (HE5.out.trans hE)
      clear hE HE5
      unfold NodeT.V
      gi_wp2_with (refine wpListIn_new Tryz.allocNode rfl rfl ?_; intro W7 hB7 hE7; refine wpListIn_fill (vs := m.cells) rfl rfl rfl rfl hB7 (by rw [m.cells_len HRL.out]; rfl) (by rw [m.cells_len HRL.out]; exact Tryz.szNode) m.one ?_; intro W8 hB8 hE8)
      have hX8 : Ext w6 W8 := hE7.trans' hE8 (fun x hx e => by have e : x = w6.heap.size := e; omega)
      have S8 := HS.out.st (HE6.out.trans hX8)
      obtain ⟨v, h1, h2, h3, h4⟩ := S8.row
      obtain ⟨ad, cp, rfl⟩ := row_slice h2
      have hcp := own_le h2
      have HS8 := Lib.hid S8
      have HB8 := Lib.hid hB8
      have H1 := Lib.hid h1
      have HX8 := Lib.hid hX8
      have HCP := Lib.hid hcp
      clear hB7 hE7 hE8 hB8 hX8 S8 h1 h2 h3 h4 hcp
      gi_wp2_with fail
      refine wpIn_region_mix_r [0,1,2,3,4] [4] Ext ExtR ExtT (by kernel_rfl) (by kernel_rfl) (by kernel_rfl) (by kernel_rfl) ?_
      refine mix_load ⟨g3, 0, none⟩ _ rfl (by kernel_rfl) rfl rfl (fun w1 h1 => run_load_plain Tryz.uStrs rfl (cell_ext (by exact H1.out.cell (i := 0) (v := .slice ad (hashK n k).length cp) (by rfl)) ((drewE _).trans h1))) ?_
      simp only [Act.put, List.setIfInBounds_toArray, List.set_cons_zero, List.set_cons_succ]
      refine mix_load ⟨w6.heap.size, 0, none⟩ _ rfl (by kernel_rfl) rfl rfl (fun w1 h1 => run_load_api w1 _ m HRL.out (HB8.out.keeps ((drewE _).trans h1) (fun h => h))) ?_
      simp only [Act.put, List.setIfInBounds_toArray, List.set_cons_zero, List.set_cons_succ]
      refine mix_call _ 35 #[m.V] (.slice none 0 0) rfl (by kernel_rfl) rfl (fun w1 => exec_call Tryz.enterHashes (by kernel_rfl)) (fun w1 h1 => HCM.out w1) ?_
      simp only [Act.put, List.setIfInBounds_toArray, List.set_cons_zero, List.set_cons_succ]
      refine mix_any _ (.slice ad (hashK n k).length cp) rfl (by kernel_rfl) rfl (fun w1 => exec_append (run_append_zero Tryz.uStrs hi ad (hashK n k).length cp HCP.out 0 w1) (by kernel_rfl)) ?_
      simp only [Act.put, List.setIfInBounds_toArray, List.set_cons_zero, List.set_cons_succ]
      refine mix_hard _ rfl (by kernel_rfl) rfl (fun w1 he K hK => ?_)
      have S9 := HS8.out.st ((drewE _).trans he)
      have hEW : Ext W w1 := (HE6.out.trans HX8.out).trans ((drewE _).trans he)
      obtain ⟨v, h1, h2, h3, h4⟩ := S9.row
      have hcell : w1.cell? ⟨g3, 0, none⟩ = some (.slice ad (hashK n k).length cp) := cell_ext (H1.out.cell (i := 0) (v := .slice ad (hashK n k).length cp) (by rfl)) ((drewE _).trans he)
      have hve : v = .slice ad (hashK n k).length cp := by
        have := h1.cell (i := 0) (v := v) (by rfl)
        rw [hcell] at this; exact (Option.some.inj this).symm
      rw [hve] at h1 h2 h3 h4
      have q4 := hcell
      have f4 : w1.frozen? ⟨g3, 0, none⟩ = false := h1.frozen
      have HS9 := Lib.hid S9
      have HB1 := Lib.hid h1
      have HB2 := Lib.hid h2
      have HB3 := Lib.hid h3
      have HB4 := Lib.hid h4
      have HEW := Lib.hid hEW
      clear S9 hcell hve h1 h2 h3 h4 he hEW
      go_simp
      refine hK _ _ ?_
      clear hK K q4 f4
      refine mix_end (by kernel_rfl) (fun w2 he => ?_)
      have k7 : Keeps (fun b => b = g3) w1 (w1.setCell ⟨g3, 0, none⟩ (.slice ad (hashK n k).length cp)) := Keeps.oneSet w1 ⟨g3, 0, none⟩ _
      have k8 : Keeps (fun b => b = g3) w1 w2 := k7.trans (he.mono (fun _ _ h => h.elim))
      refine ⟨(HEW.out.mono (fun _ _ h => h.elim)).trans' k8 (fun x _ e => ?_), ?_⟩
      · have e : x = _ := e; show x ≠ _ ∧ x ≠ _; omega
      · refine ⟨HS9.out.ext.trans' k8 (fun x hx e => by have e : x = _ := e; have := HWG.out; omega), HS9.out.it.keeps k8 (fun e => by omega), .slice ad (hashK n k).length cp, (HB1.out.set_same (i := 0) _).keeps he (fun h => h), ?_⟩
        rw [HX.out]
        exact ⟨own_keeps HB2.out k8 (fun b hb e => by have := HB3.out b hb; omega), HB3.out, HB4.out⟩
  case hdone =>
    intro W hS hd
    obtain ⟨v, h1, h2, h3, h4⟩ := hS.row
    rw [hashK_all] at h2 h4
    obtain ⟨ad, cp, rfl⟩ := row_slice h2
    have q4 : W.cell? ⟨g3, 0, none⟩ = some (.slice ad (hashesT n).length cp) := h1.cell (i := 0) (by rfl)
    have HS := Lib.hid hS
    have HR := Lib.hid (show ORow 9 1 w W (.slice ad (hashesT n).length cp) (hashesT n).length ((hashesT n).map Value.string) from ⟨⟨_, _, rfl⟩, h2, hS.ext, fun b hb => by have := h3 b hb; have := HGW.out; omega⟩)
    have H3 := Lib.hid h3
    have H4 := Lib.hid h4
    have HD := Lib.hid hd
    clear hS h1 h2 h3 h4 hd
    gi_wp2
    refine ⟨by simp, .inl ⟨_, _, rfl, run_takeDeferred HD.out, ?_⟩⟩
    refine ⟨.slice ad (hashesT n).length cp, by simp [results, Tryz.results35, go_sem], (HQ.out _ _).2 ⟨HR.out.keeps (Keeps.onePut W w3.heap.size (.deferred none)) (fun b hb e => by have := H3.out b hb; omega) (fun b hb e => by have := HGW.out; omega), H4.out⟩⟩
  case hstop => intro c k W _ _ h; exact h.elim
theorem hashes_c : ∀ (d : Nat) (n : NodeT), GoodW (InlD d) n → ∀ w, Calls Tryz.prog 35 #[n.V] w (HashP w n)
  | 0, n, h, w => hashes_step 0 n h (fun _ _ hm => hm.elim) w
  | d + 1, n, h, w => hashes_step (d + 1) n h (fun r m hm w => hashes_c d m hm.1 w) w
end
end Go.Proofs.YtolhikjjchfnjaaGreatDoor
/- canon: CanonClosed, its walk. -/
namespace Go.Proofs.YtolhikjjchfnjaaGreatDoor
section
open Go Go.RowKit
set_option linter.unusedSimpArgs false
set_option linter.unusedVariables false
/-! In: is a text one of some? -/
def inB (l : List ByteArray) (s : ByteArray) : Bool := memB l s
theorem inB_yes {l : List ByteArray} {s : ByteArray} (h : s ∈ l) : inB l s = true := (memB_iff l s).2 h
theorem inB_no {l : List ByteArray} {s : ByteArray} (h : s ∉ l) : inB l s = false := by
  rw [Bool.eq_false_iff]; exact fun e => h ((memB_iff l s).1 e)
def InRel (w : World) (l : List ByteArray) (s : ByteArray) (iv : Value) (wr : World) : Prop := ∃ i : Nat, i ≤ l.length ∧ iv = .int .i64 i ∧ Ext w wr ∧ s ∉ l.take i
set_option maxRecDepth 100000 in
set_option maxHeartbeats 4000000 in
theorem in_c (w : World) (v : Value) (l : List ByteArray) (s : ByteArray) (hv : RdS w v l) (hn : l.length ≤ 1000000) :
    Calls Tryz.prog 36 #[v, .string s] w fun e w' => e = .returned (.bool (inB l s)) ∧ Ext w w' := by
  obtain ⟨a, c, hsl, hcl⟩ := hv.slice
  have HV := Lib.hid hv
  subst hsl
  clear hv hcl
  obtain ⟨R, hR⟩ : ∃ R, R = inB l s := ⟨_, rfl⟩
  rw [← hR]
  have HR := Lib.hid hR
  clear hR
  go_enter Tryz.func36, Tryz.ntmps36
  go_wp2_with fail
  go_loopw [5] (fun iv wr => InRel w l s iv wr) (fun iv _ => l.length - (intOf iv).toNat)
  case atStart => exact ⟨0, by omega, rfl, ExtR w, by simp⟩
  case round =>
    obtain ⟨i, hi, rfl, hE, hno⟩ := hrel
    have HE := Lib.hid hE
    have HNO := Lib.hid hno
    clear hE hno
    by_cases hlt : i < l.length
    · have b1 : (i : Int) < (l.length : Int) := by omega
      obtain ⟨x, hx⟩ : ∃ x, l[i]? = some x := ⟨_, List.getElem?_eq_getElem hlt⟩
      rcases HV.out with ⟨_, _, _, h0⟩ | ⟨b, o, c1, hh, hb, hc, hcell⟩
      · rw [h0] at hlt; cases hlt
      cases hh
      have q1 := cell_ext (hcell i x hx) HE.out
      have HX := Lib.hid hx
      clear hcell hb hc hx
      have hkb := nbeq_sha x s
      by_cases hxs : x = s
      · rw [decide_eq_true hxs] at hkb
        have HF := Lib.hid (show R = true by rw [HR.out]; exact inB_yes (by rw [← hxs]; exact List.mem_of_getElem? HX.out))
        clear hxs
        go_wp2_with fail
        go_ret
        exact ⟨by rw [HF.out]; rfl, HE.out⟩
      · rw [decide_eq_false hxs] at hkb
        have HG := Lib.hid (show s ∉ l.take (i + 1) by
          rw [List.take_add_one, HX.out]
          intro hm
          rcases List.mem_append.1 hm with hm | hm
          · exact HNO.out hm
          · simp at hm; exact hxs hm.symm)
        clear hxs
        go_wp2_with fail
        go_roundw
        case rel => exact ⟨i + 1, by omega, by go_num, HE.out, HG.out⟩
        case measure => simp [intOf]; omega
    · have b1 : ¬ (i : Int) < (l.length : Int) := by omega
      have HF := Lib.hid (show R = false by rw [HR.out]; refine inB_no ?_; have := HNO.out; rwa [List.take_of_length_le (by omega)] at this)
      go_wp2_with fail
      go_ret
      exact ⟨by rw [HF.out]; rfl, HE.out⟩
theorem Tryz.enterIn : ∀ args w, (callFunc 36 args).run Tryz.prog w = .ok (.enter 36 args) w := fun _ _ => by kernel_rfl
theorem RdS.take {w : World} {a : Option Addr} {c : Nat} {l : List ByteArray} (h : RdS w (.slice a l.length c) l) {i : Nat} (hi : i ≤ l.length) : RdS w (.slice a i c) (l.take i) := by
  by_cases h0 : i = 0
  · subst h0; exact .inl ⟨a, c, rfl, rfl⟩
  rcases h with ⟨_, _, _, h1⟩ | ⟨b, o, c1, h1, h2, h3, h4⟩
  · rw [h1] at hi; exact absurd (by simpa using hi) h0
  · obtain ⟨e1, _, e3⟩ := Value.slice.inj h1
    refine .inr ⟨b, o, c, by rw [e1, List.length_take]; congr 1; omega, h2, by rw [List.length_take]; omega, fun j x hx => h4 j x ?_⟩
    rw [List.getElem?_take] at hx
    split at hx
    · exact hx
    · cases hx
open Classical in
noncomputable def nodeOf (t : ByteArray) : NodeT := if h : ∃ n, IsNode t n then h.choose else emptyN
theorem nodeOf_is {t : ByteArray} {n : NodeT} (h : IsNode t n) : IsNode t (nodeOf t) := by
  unfold nodeOf
  have hh : ∃ n, IsNode t n := ⟨n, h⟩
  rw [dif_pos hh]; exact hh.choose_spec
noncomputable def toldL (L : List ByteArray) : List ByteArray := L.flatMap fun t => hashesT (nodeOf t)
structure CdS (w3 : World) (L : List ByteArray) (i : Nat) (hv tv : Value) (wr : World) : Prop where
  hs : SRow w3 wr hv i ((L.take i).map shaB)
  ts : SRow w3 wr tv (toldL (L.take i)).length (toldL (L.take i))
  dis : ∀ b, hv.ownBlock = some b → tv.ownBlock ≠ some b
def CdRel (w3 : World) (L : List ByteArray) (hv tv iv : Value) (wr : World) : Prop := ∃ i : Nat, i ≤ L.length ∧ iv = .int .i64 i ∧ CdS w3 L i hv tv wr
def CdRel2 (w4 : World) (n : Nat) (iv : Value) (wr : World) : Prop := ∃ i : Nat, i ≤ n ∧ iv = .int .i64 i ∧ Ext w4 wr
def CdRel3 (w4 : World) (n : Nat) (iv : Value) (wr : World) : Prop := ∃ i : Nat, 1 ≤ i ∧ i ≤ n ∧ iv = .int .i64 i ∧ Ext w4 wr
theorem hashesT_len {t : ByteArray} {n : NodeT} (h : IsNode t n) : (hashesT n).length ≤ 16 := by
  obtain ⟨_, g, hg⟩ := h
  have := (hg.one (inlP g)).refs
  unfold hashesT
  have h2 := List.length_filterMap_le hashR n.refs
  omega
theorem toldL_len {L : List ByteArray} (h : ∀ t ∈ L, ∃ n, IsNode t n) : (toldL L).length ≤ 16 * L.length := by
  induction L with
  | nil => simp [toldL]
  | cons t r ih =>
    obtain ⟨n, hn⟩ := h t List.mem_cons_self
    have h1 := hashesT_len (nodeOf_is hn)
    have h2 := ih fun x hx => h x (List.mem_cons_of_mem _ hx)
    unfold toldL at *
    rw [List.flatMap_cons, List.length_append, List.length_cons]; omega
theorem toldL_step {L : List ByteArray} {i : Nat} {t : ByteArray} (h : L[i]? = some t) : toldL (L.take (i + 1)) = toldL (L.take i) ++ hashesT (nodeOf t) := by
  unfold toldL; rw [List.take_add_one, h, List.flatMap_append]; simp
theorem RdS.cap {w : World} {a : Option Addr} {n c : Nat} {xs : List ByteArray} (h : RdS w (.slice a n c) xs) : xs.length ≤ c := by
  rcases h with ⟨_, _, _, h1⟩ | ⟨b, o, c1, h1, _, h2, _⟩
  · rw [h1]; exact Nat.zero_le _
  · obtain ⟨_, _, e⟩ := Value.slice.inj h1; omega
theorem told_in (w : World) {L : List ByteArray} {top : ByteArray} (h : TextsP L top) : ∀ x ∈ toldL L, x ∈ L.map shaB := fun x hx => by
  obtain ⟨t, ht, hx⟩ := List.mem_flatMap.1 hx
  obtain ⟨n, h1, h2⟩ := h.node t ht
  rw [isNode_inj w (nodeOf_is h1) h1] at hx
  obtain ⟨t', ht', e⟩ := h2 x hx
  rw [e]; exact List.mem_map_of_mem ht'
theorem told_has (w : World) {L : List ByteArray} {top : ByteArray} (h : TextsP L top) {i : Nat} {t : ByteArray} (ht : L[i + 1]? = some t) : 32 ≤ t.size ∧ shaB t ∈ toldL L := by
  obtain ⟨h1, t', ht', n, h2, h3⟩ := h.told i t ht
  refine ⟨h1, List.mem_flatMap.2 ⟨t', ht', ?_⟩⟩
  rw [isNode_inj w (nodeOf_is h2) h2]; exact h3
theorem nodup_take {L : List ByteArray} (h : L.Nodup) {i : Nat} {t : ByteArray} (ht : L[i]? = some t) : t ∉ L.take i := fun hm => by
  obtain ⟨k, hk, e⟩ := List.mem_take_iff_getElem.1 hm
  obtain ⟨hi, e2⟩ := List.getElem?_eq_some_iff.1 ht
  exact List.pairwise_iff_getElem.1 h k i (by omega) hi (by omega) (e.trans e2.symm)
/-- append of nothing, as a step. -/
theorem wpList_app0 {P : Program} {t T : TypeId} {sz by' : Nat} (I : SInfo P t T sz by') {ops : Array Oper} {rest : List Oper} {d : Option Tmp} {ty : TypeId} {pos : String} {af : Array Edge} {a : Act} {w : World} {Q : Exit → Act → World → Prop} {s x : Operand} {base : Option Addr} {n c c2 : Nat}
    (hs : a.eval s = .slice base n c) (hx : a.eval x = .slice none 0 c2) (hle : n ≤ c) (h : wpList P ops Q rest (a.put d (.slice base n c)) w) :
    wpList P ops Q (⟨d, .call { callee := .builtin .append, args := #[s, x], argTypes := #[t, t] }, ty, pos, af, none⟩ :: rest) a w := by
  obtain ⟨i, z, e1, _⟩ := I.hi
  exact wpList_plain rfl fun K hK => wp_value (exec_append (run_append_zero I.ht e1 base n c hle c2 w) (by simp [hs, hx])) (hK _ _ h)
set_option maxRecDepth 100000 in
set_option maxHeartbeats 8000000 in
theorem closed_c (w : World) (hc : Cubes w) (v : Value) (l : List Pair) (hv : RdP w v l) (hn : l.length ≤ 9223372036854775807) (hs : SmallP l) :
    Calls Tryz.prog 10 #[v] w fun e w' => e = .returned (.bool true) ∧ Ext w w' := by
  have HC := Lib.hid hc
  have HV := Lib.hid hv
  have HS := Lib.hid hs
  have HN := Lib.hid hn
  obtain ⟨a, c, hsl⟩ := hv.sl
  subst hsl
  clear hc hv hs hn
  go_enter Tryz.func10, Tryz.ntmps10
  go_wp2_with fail
  refine (works5_c w HC.out).mono ?_
  rintro e w1 ⟨rfl, hE⟩
  have HE1 := Lib.hid hE
  clear hE
  go_wp2_with fail
  refine (few5_c w1 _ l (HV.out.ext HE1.out) HN.out HS.out).mono ?_
  rintro e w2 ⟨rfl, hE⟩
  have HE2 := Lib.hid (HE1.out.trans hE)
  clear hE HE1
  obtain ⟨fw, hfw⟩ : ∃ fw, fw = fewB l := ⟨_, rfl⟩
  rw [← hfw]
  clear hfw
  by_cases hcl : checkN l = 0
  case neg =>
    go_wp2_with fail
    refine (nodes_bad w2 _ l (HV.out.ext HE2.out) HN.out HS.out hcl).mono ?_
    rintro e w3 ⟨rfl, hE⟩
    have HE3 := Lib.hid (HE2.out.trans hE)
    obtain ⟨x, hx⟩ : ∃ x, x = checkN l := ⟨_, rfl⟩
    rw [← hx] at hcl ⊢
    have hne : (x == 0) = false := by simpa using hcl
    have hne2 : (x != 0) = true := by simpa using hcl
    clear hcl hx hE HE2
    cases fw with
    | false =>
      go_wp2_with fail
      go_ret
      exact ⟨rfl, HE3.out⟩
    | true =>
      go_wp2_with fail
      go_ret
      exact ⟨rfl, HE3.out⟩
  have hl40 := (check_ok hcl).len
  have HCL := Lib.hid hcl
  clear hcl
  go_wp2_with fail
  refine (nodes_ok w2 _ l (HC.out.ext HE2.out) (HV.out.ext HE2.out) HCL.out).mono ?_
  rintro e w3 ⟨u3, n3, rfl, hR⟩
  obtain ⟨L, hL⟩ : ∃ L, L = firsts (flatT (trieT l)) := ⟨_, rfl⟩
  rw [← hL] at hR
  have HT := Lib.hid (show TextsP L (trieT l).text by rw [hL]; exact texts HCL.out)
  have hg1 := (trie_grows HCL.out).1
  rw [← hL] at hg1
  have hln : L.length = n3 := by have := hR.len; simpa using this
  have hrd := hR.rd
  obtain ⟨a3, c3, e3⟩ := hR.sl
  have HE3 := Lib.hid (HE2.out.trans hR.ext)
  subst e3
  have HL3 := Lib.hid hrd
  subst hln
  clear hR hrd HE2 hL
  have hlL : L.length ≤ 121 := by omega
  have hpos : 0 < L.length := (List.getElem?_eq_some_iff.1 HT.out.head).1
  cases fw with
  | false =>
    go_wp2_with fail
    go_ret
    exact ⟨rfl, HE3.out⟩
  | true =>
    go_wp2_with fail
    go_loopw [7, 8, 9] (fun hv tv iv wr => CdRel w3 L hv tv iv wr) (fun _ _ iv _ => L.length - (intOf iv).toNat)
    case atStart => exact ⟨0, by omega, rfl, ORow.nil _ _ (ExtR w3), ORow.nil _ _ (ExtR w3), fun b hb => by cases hb⟩
    case round =>
      obtain ⟨i, hi, rfl, hS⟩ := hrel
      obtain ⟨ah, ch, rfl⟩ := hS.hs.sl
      obtain ⟨at', ct, rfl⟩ := hS.ts.sl
      have HSR := Lib.hid hS
      clear hS
      have hTl : (toldL (L.take i)).length ≤ 16 * 121 := by
        have := toldL_len (L := L.take i) fun t ht => by obtain ⟨n, h1, _⟩ := HT.out.node t (List.mem_of_mem_take ht); exact ⟨n, h1⟩
        rw [List.length_take] at this; omega
      by_cases hlt : i < L.length
      · have b1 : (i : Int) < (L.length : Int) := by omega
        obtain ⟨t, ht⟩ : ∃ t, L[i]? = some t := ⟨_, List.getElem?_eq_getElem hlt⟩
        obtain ⟨ax, cx, hh, hcell⟩ := HL3.out.slice
        obtain ⟨ba, oa, hao, hqa⟩ := hcell i t ht
        subst hao
        cases hh
        have q1 := cell_ext hqa HSR.out.hs.ext
        obtain ⟨n0, hn0, _⟩ := HT.out.node t (List.mem_of_getElem? ht)
        have hIs := nodeOf_is hn0
        have HTS := Lib.hid (toldL_step ht)
        have HMS := Lib.hid (show (L.take (i + 1)).map shaB = (L.take i).map shaB ++ [shaB t] by rw [List.take_add_one, ht, List.map_append]; rfl)
        obtain ⟨n, hnn⟩ : ∃ n, n = nodeOf t := ⟨_, rfl⟩
        rw [← hnn] at hIs HTS
        have h16 := hashesT_len hIs
        obtain ⟨htx, g, hg⟩ := hIs
        have HG := Lib.hid hg
        have HRF := Lib.hid ((hg.one (inlP g)).refs)
        have HTX := Lib.hid htx
        have HQA := Lib.hid hqa
        clear hcell hn0 hnn htx hg hqa ht
        go_wp2_with fail
        rw [HTX.out]
        refine (get_c4 (inlP g) wr n HG.out).mono ?_
        rintro e w4 ⟨rfl, hE⟩
        rw [← HTX.out]
        have HX4 := Lib.hid hE
        have hz4 := hE.size
        have q1 := cell_ext q1 hE
        clear hE
        unfold NodeT.V
        go_wp2_with (refine wpList_new Tryz.allocNode rfl rfl ?_; intro W3 hB3 hE3; refine wpList_fill (vs := n.cells) rfl rfl rfl rfl hB3 (by rw [n.cells_len HRF.out]; rfl) (by rw [n.cells_len HRF.out]; exact Tryz.szNode) (NodeT.one _) ?_; intro W4 hB4 hE4; have hE34 : Ext w4 W4 := hE3.trans' hE4 (fun x hx e => by have e : x = w4.heap.size := e; omega); have q1' := cell_ext q1 hE34)
        have HX5 := Lib.hid (HX4.out.trans hE34)
        have HB5 := Lib.hid hB4
        clear hB3 hE3 hB4 hE4 hE34 HX4 q1 q1'
        refine (of_t _ _ [t] (by simp) (rds_lit W4 [t] 9) (HC.out.ext ((HE3.out.trans (HSR.out.hs.ext.trans HX5.out)).alloc _))).mono ?_
        rintro e w6 ⟨rfl, hE⟩
        rw [catB_one]
        have hx6 := ((ExtR W4).alloc (.cells #[.string t] 9)).trans hE
        have HX6 := Lib.hid (HX5.out.trans hx6)
        have HB6 := Lib.hid (HB5.out.keeps hx6 (fun h => h))
        obtain ⟨sh, hsh⟩ : ∃ sh, sh = shaB t := ⟨_, rfl⟩
        rw [← hsh] at HMS ⊢
        clear hE hx6 HX5 HB5 hsh
        have HH6 := Lib.hid (HSR.out.hs.mono HX6.out)
        have hm1 : i + 1 ≤ maxLen := by unfold maxLen; omega
        have hm2 : (i + 1) * 16 ≤ 140737488355328 := by omega
        go_wp2_with (first | (at_builtin; refine wpList_app Tryz.sStrs (HH6.out.mono ((ExtR w6).alloc _)) (.tmp 49) (.tmp 56) rfl rfl rfl (news_blk (Blk.new w6 _)) (news := [.string sh]) (by intro u hu; simp at hu; rcases hu with rfl; rfl) rfl rfl hm1 hm2 ?_; intro v' w' r1 r2 r3; have hx7 : Keeps (fun b => (Value.slice ah i ch).ownBlock = some b) w6 w' := ((Keeps.refl _ w6).alloc _).trans r2; have hb7 := HB6.out.keeps hx7 (fun e => by have := HSR.out.hs.lt _ e; omega); have hld7 := run_load_api w' _ n HRF.out hb7; unfold NodeT.V at hld7) | (refine wpList_load_known 56 (.tmp 10) rfl rfl _ _ rfl hld7 ?_))
        have r1' : SRow w3 w' v' (i + 1) ((L.take (i + 1)).map shaB) := by unfold SRow; rw [HMS.out, List.map_append]; exact r1
        have ht7 : SRow w3 w' (.slice at' (toldL (L.take i)).length ct) (toldL (L.take i)).length (toldL (L.take i)) := (HSR.out.ts.mono HX6.out).keeps hx7 (fun b hb e => HSR.out.dis b e hb) (fun b hb e => by have := HSR.out.hs.new b e; omega)
        obtain ⟨ah', ch', rfl⟩ := r1'.sl
        have hd7 : ∀ b, (Value.slice ah' (i + 1) ch').ownBlock = some b → (Value.slice at' (toldL (L.take i)).length ct).ownBlock ≠ some b := fun b hb e => by
          have hlt7 := (HSR.out.ts.mono HX6.out).lt b e
          rcases r3 with r3 | r3
          · exact HSR.out.dis b (r3 ▸ hb) e
          · have := r3 b hb
            have h8 := ((Keeps.refl (fun _ => False) w6).alloc (.cells #[.string sh] 9)).size
            omega
        have HR7 := Lib.hid r1'
        have HT7 := Lib.hid ht7
        have HD7 := Lib.hid hd7
        clear r1 r2 r3 r1' ht7 hd7 hx7 hb7 HH6 HB6
        refine (hashes_c g n HG.out w').mono ?_
        rintro e w8 ⟨v8, rfl, hR8, hnil⟩
        have hE8 := hR8.ext
        have HR8 := Lib.hid (HR7.out.mono hE8)
        have HT8 := Lib.hid (HT7.out.mono hE8)
        have HV8 := Lib.hid hR8
        have hnew : ∀ b, v8.ownBlock = some b → w'.heap.size ≤ b := hR8.new
        clear hld7
        cases hhn : hashesT n with
        | nil =>
          have hv8 := hnil hhn
          subst hv8
          have hle := own_le HT8.out.own
          have HTN := Lib.hid (show toldL (L.take (i + 1)) = toldL (L.take i) by rw [HTS.out, hhn, List.append_nil])
          clear hR8 hE8 hnil hhn hnew
          go_wp2_with (at_builtin; refine wpList_app0 Tryz.sStrs rfl rfl hle ?_)
          go_roundw
          case rel =>
            refine ⟨i + 1, by omega, by go_num, HR8.out, ?_, HD7.out⟩
            rw [HTN.out]; exact HT8.out
          case measure => simp [intOf]; omega
        | cons x0 xr =>
          obtain ⟨_, ⟨_, h0⟩ | ⟨g8, cap8, cur8, hv8, _⟩⟩ := hR8.own
          · rw [hhn] at h0; simp at h0
          subst hv8
          have hcells := fun j u hj => World.ownsRow.cells hR8.own rfl j u hj
          have HCE := Lib.hid hcells
          have HNW := Lib.hid (hnew g8 rfl)
          have hm3 : (toldL (L.take i)).length + (hashesT n).length ≤ maxLen := by unfold maxLen; omega
          have hm4 : ((toldL (L.take i)).length + (hashesT n).length) * 16 ≤ 140737488355328 := by omega
          have hln8 : ((hashesT n).map Value.string).length = (hashesT n).length * 1 := by simp
          have hone : ∀ u ∈ (hashesT n).map Value.string, u.oneCell' = true := by intro u hu; obtain ⟨x, _, rfl⟩ := List.mem_map.1 hu; rfl
          have hadd : ∀ j u, ((hashesT n).map Value.string)[j]? = some u → w8.cell? ((⟨g8, 0, none⟩ : Addr).add j) = some u := fun j u hj => HCE.out j u hj
          have HXR := Lib.hid hhn
          clear hR8 hE8 hnil hhn hnew hcells
          go_wp2_with (at_builtin; refine wpList_app Tryz.sStrs HT8.out (.tmp 58) (.tmp 60) rfl rfl rfl hadd hone hln8 rfl hm3 hm4 ?_; intro v9 w9 r1 r2 r3)
          have r1' : SRow w3 w9 v9 (toldL (L.take (i + 1))).length (toldL (L.take (i + 1))) := by
            unfold SRow; rw [HTS.out, List.map_append, List.length_append]; exact r1
          obtain ⟨at9, ct9, rfl⟩ := r1'.sl
          have hh9 : SRow w3 w9 (.slice ah' (i + 1) ch') (i + 1) ((L.take (i + 1)).map shaB) := HR8.out.keeps r2 (fun b hb e => HD7.out b hb e) (fun b hb e => by have := HT8.out.new b e; omega)
          have hd9 : ∀ b, (Value.slice ah' (i + 1) ch').ownBlock = some b → (Value.slice at9 (toldL (L.take (i + 1))).length ct9).ownBlock ≠ some b := fun b hb e => by
            rcases r3 with r3 | r3
            · exact HD7.out b hb (r3 ▸ e)
            · have := r3 b e
              have := HR8.out.lt b hb
              omega
          have HH9 := Lib.hid hh9
          have HT9 := Lib.hid r1'
          have HD9 := Lib.hid hd9
          clear r1 r2 r3 r1' hh9 hd9 hm3 hm4 hln8 hone hadd
          go_wp2_with fail
          go_roundw
          case rel => exact ⟨i + 1, by omega, by go_num, HH9.out, HT9.out, HD9.out⟩
          case measure => simp [intOf]; omega
      · have hil : i = L.length := by omega
        have b1 : ¬ (i : Int) < (L.length : Int) := by omega
        have hEw := HSR.out.hs.ext
        have HH := Lib.hid (show RdS wr (.slice ah i ch) (L.map shaB) by have h := HSR.out.hs.rd; rw [show L.take i = L by rw [hil, List.take_length]] at h; exact h)
        obtain ⟨T, hTT⟩ : ∃ T, T = toldL L := ⟨_, rfl⟩
        have hTk : toldL (L.take i) = T := by rw [hil, List.take_length, hTT]
        have HTd := Lib.hid (show RdS wr (.slice at' T.length ct) T by have h := HSR.out.ts.rd; rw [hTk] at h; exact h)
        rw [hTk] at hTl ⊢
        have HTI := Lib.hid (show ∀ x ∈ T, x ∈ L.map shaB by rw [hTT]; exact told_in w HT.out)
        have HTH := Lib.hid (fun (j : Nat) (t : ByteArray) (h : L[j + 1]? = some t) => (show 32 ≤ t.size ∧ shaB t ∈ T by rw [hTT]; exact told_has w HT.out h))
        have HEW := Lib.hid (HE3.out.trans hEw)
        have HL4 := Lib.hid (HL3.out.ext hEw)
        subst hil
        have hml : (L.map shaB).length ≤ 1000000 := by rw [List.length_map]; omega
        clear hTk hTT hEw HSR hi hlt HL3
        obtain ⟨w4, hw4⟩ : ∃ x, x = wr := ⟨_, rfl⟩
        rw [← hw4] at HH HTd HEW HL4 ⊢
        clear hw4
        go_wp2_with fail
        go_loopw [12] (fun iv wr => CdRel2 w4 T.length iv wr) (fun iv _ => T.length - (intOf iv).toNat)
        case atStart => exact ⟨0, by omega, rfl, ExtR w4⟩
        case round =>
          obtain ⟨j, hj, rfl, hE⟩ := hrel
          have HX := Lib.hid hE
          clear hE
          by_cases hlt : j < T.length
          · have b2 : (j : Int) < (T.length : Int) := by omega
            obtain ⟨x, hx⟩ : ∃ x, T[j]? = some x := ⟨_, List.getElem?_eq_getElem hlt⟩
            obtain ⟨ax, cx, hh, hcell⟩ := HTd.out.slice
            obtain ⟨bt, ot, hao, hqa⟩ := hcell j x hx
            subst hao
            cases hh
            have q1 := cell_ext hqa HX.out
            have HIN := Lib.hid (inB_yes (HTI.out x (List.mem_of_getElem? hx)))
            clear hcell hqa hx
            go_wp2_with fail
            refine (in_c wr _ (L.map shaB) x (HH.out.ext HX.out) hml).mono ?_
            rintro e w5 ⟨rfl, hE⟩
            rw [HIN.out]
            have HX5 := Lib.hid (HX.out.trans hE)
            clear hE
            go_wp2_with fail
            go_roundw
            case rel => exact ⟨j + 1, by omega, by go_num, HX5.out⟩
            case measure => simp [intOf]; omega
          · have b2 : ¬ (j : Int) < (T.length : Int) := by omega
            obtain ⟨w5, hw5⟩ : ∃ x, x = wr := ⟨_, rfl⟩
            rw [← hw5] at HX ⊢
            clear hw5
            go_wp2_with fail
            go_loopw [13] (fun iv wr => CdRel3 w5 L.length iv wr) (fun iv _ => L.length - (intOf iv).toNat)
            case atStart => exact ⟨1, by omega, by omega, rfl, ExtR w5⟩
            case round =>
              obtain ⟨j, hj1, hj2, rfl, hE⟩ := hrel
              have HX6 := Lib.hid (HX.out.trans hE)
              have HX7 := Lib.hid hE
              clear hE
              by_cases hlt : j < L.length
              · have b3 : (j : Int) < (L.length : Int) := by omega
                have b4 : (j : Int) ≤ (L.length : Int) := by omega
                obtain ⟨t, ht⟩ : ∃ t, L[j]? = some t := ⟨_, List.getElem?_eq_getElem hlt⟩
                obtain ⟨ax, cx, hh, hcell⟩ := HL4.out.slice
                obtain ⟨ba, oa, hao, hqa⟩ := hcell j t ht
                subst hao
                cases hh
                obtain ⟨ax, cx, hh, hcell2⟩ := HH.out.slice
                rw [List.length_map] at hh
                obtain ⟨bh, oh, hao, hqh⟩ := hcell2 j (shaB t) (by rw [List.getElem?_map, ht]; rfl)
                subst hao
                cases hh
                have qa := cell_ext hqa HX6.out
                have qh := cell_ext hqh HX6.out
                have htd := HTH.out (j - 1) t (by rw [show j - 1 + 1 = j by omega]; exact ht)
                have hcap := HL4.out.cap
                have b7 : (j : Int) ≤ (c3 : Int) := by omega
                have b8 : j ≤ c3 := by omega
                have b5 : ¬ (t.size : Int) < 32 := by have := htd.1; omega
                have b50 : ¬ t.size < 32 := by have := htd.1; omega
                have b51 : decide ((t.size : Int) < 32) = false := decide_eq_false b5
                have b52 : decide (t.size < 32) = false := decide_eq_false b50
                have HIN1 := Lib.hid (fun (w1 : World) (h1 : Ext wr w1) => (show Calls Tryz.prog 36 #[.slice at' T.length ct, .string (shaB t)] w1 fun e w2 => e = .returned (.bool true) ∧ Ext w1 w2 by
                  have := in_c w1 _ T (shaB t) (HTd.out.ext (HX6.out.trans h1)) (by omega)
                  rwa [inB_yes htd.2] at this))
                have HIN2 := Lib.hid (fun (w1 : World) (h1 : Ext wr w1) => (show Calls Tryz.prog 36 #[.slice (some ⟨ba, oa, none⟩) j c3, .string t] w1 fun e w2 => e = .returned (.bool false) ∧ Ext w1 w2 by
                  have := in_c w1 _ (L.take j) t ((HL4.out.take hj2).ext (HX6.out.trans h1)) (by rw [List.length_take]; omega)
                  rwa [inB_no (nodup_take HT.out.nodup ht)] at this))
                clear hcell hcell2 hqa hqh ht htd
                go_wp2_with fail
                refine wp_region_mixK [0,1,2,3,4,5,6,7,8,9,10,11,12,13,14,15,16,17,18,19,20,21,22,23,24] Ext ExtR ExtT (by kernel_rfl) (by kernel_rfl) (by kernel_rfl) ?_
                iterate 4 (refine mixk_pure _ rfl (by kernel_rfl) rfl rfl (fun K hK => ?_); go_big_quiet_op; refine hK _ ?_; clear hK K)
                refine mixk_load ⟨bh, oh + j, none⟩ _ rfl (by kernel_rfl) rfl rfl (fun w1 h1 => run_load_plain Tryz.uStr rfl (cell_ext qh ((drewE _).trans h1))) ?_
                simp only [Act.put, List.setIfInBounds_toArray, List.set_cons_zero, List.set_cons_succ]
                refine mixk_call _ 36 #[.slice at' T.length ct, .string (shaB t)] (.bool true) rfl (by kernel_rfl) rfl (fun w1 => exec_call Tryz.enterIn (by kernel_rfl)) (fun w1 h1 => HIN1.out w1 ((drewE _).trans h1)) ?_
                simp only [Act.put, List.setIfInBounds_toArray, List.set_cons_zero, List.set_cons_succ]
                iterate 5 (refine mixk_pure _ rfl (by kernel_rfl) rfl rfl (fun K hK => ?_); go_big_quiet_op; refine hK _ ?_; clear hK K)
                refine mixk_load ⟨ba, oa + j, none⟩ _ rfl (by kernel_rfl) rfl rfl (fun w1 h1 => run_load_plain Tryz.uStr rfl (cell_ext qa ((drewE _).trans h1))) ?_
                simp only [Act.put, List.setIfInBounds_toArray, List.set_cons_zero, List.set_cons_succ]
                iterate 10 (refine mixk_pure _ rfl (by kernel_rfl) rfl rfl (fun K hK => ?_); go_big_quiet_op; refine hK _ ?_; clear hK K)
                refine mixk_load ⟨ba, oa + j, none⟩ _ rfl (by kernel_rfl) rfl rfl (fun w1 h1 => run_load_plain Tryz.uStr rfl (cell_ext qa ((drewE _).trans h1))) ?_
                simp only [Act.put, List.setIfInBounds_toArray, List.set_cons_zero, List.set_cons_succ]
                refine mixk_call _ 36 #[.slice (some ⟨ba, oa, none⟩) j c3, .string t] (.bool false) rfl (by kernel_rfl) rfl (fun w1 => exec_call Tryz.enterIn (by kernel_rfl)) (fun w1 h1 => HIN2.out w1 ((drewE _).trans h1)) ?_
                simp only [Act.put, List.setIfInBounds_toArray, List.set_cons_zero, List.set_cons_succ]
                iterate 1 (refine mixk_pure _ rfl (by kernel_rfl) rfl rfl (fun K hK => ?_); go_big_quiet_op; refine hK _ ?_; clear hK K)
                refine mixk_end (by kernel_rfl) (fun w5 he => ?_)
                have HX8 := Lib.hid (HX7.out.trans ((drewE _).trans he))
                clear he qa qh
                go_wp2_with fail
                go_roundw
                case rel => exact ⟨j + 1, by omega, by omega, by go_num, HX8.out⟩
                case measure => simp [intOf]; omega
              · have b3 : ¬ (j : Int) < (L.length : Int) := by omega
                have HE9 := Lib.hid (HEW.out.trans HX6.out)
                have hj1l : (1 : Int) ≤ (L.length : Int) := by omega
                go_wp2_with fail
                refine (root_ok wr _ l (HC.out.ext HE9.out) (HV.out.ext HE9.out) HCL.out).mono ?_
                rintro e w7 ⟨rfl, hE⟩
                have HE10 := Lib.hid (HE9.out.trans hE)
                obtain ⟨r, hr⟩ : ∃ r, r = shaB (trieT l).text := ⟨_, rfl⟩
                obtain ⟨ax, cx, hh, hcell2⟩ := HH.out.slice
                rw [List.length_map] at hh
                obtain ⟨bh, oh, hao, hqh⟩ := hcell2 0 (shaB (trieT l).text) (by rw [List.getElem?_map, HT.out.head]; rfl)
                subst hao
                cases hh
                rw [← hr] at hqh ⊢
                have qh := cell_ext hqh (HX6.out.trans hE)
                rw [Nat.add_zero] at qh
                have hrr : (r.toList == r.toList) = true := by simp
                have b6 : (0 : Int) < (L.length : Int) := by omega
                clear hcell2 hqh hE hr
                go_wp2_with fail
                go_ret
                exact ⟨rfl, HE10.out⟩
end
end Go.Proofs.YtolhikjjchfnjaaGreatDoor
/- CanonClosed, the card: the law is true for every input. -/
namespace Go.Proofs.YtolhikjjchfnjaaGreatDoor
section
open Go Go.ChangeShapes Go.WideShapes Go.ChangeAt Go.RowKit Go.ChangeMaps
set_option linter.unusedSimpArgs false
set_option linter.unusedVariables false
set_option maxRecDepth 100000 in
theorem canonClosed_contract (H : Type) (enc : TypeId × Value → H) (W : World) (base : Nat) (args : Array Value) (ds gs : List (DataW H)) (before : List MemPlace)
    (hval : ∀ (j : Nat) t v, Tryz.f10.params[j]? = some t → args[j]? = some v → Value.okWide Tryz.prog W .any base t v)
    (hW : DataW.Whole enc Tryz.prog Tryz.f10.params.toList Rows.canonClosedSpec.vars false W args.toList ds gs before) (hL : laidMetH Tryz.prog Rows.canonClosedRow.laid W) :
    Calls Tryz.prog 10 args W fun e W' => ∃ v, e = .returned v ∧ Rows.canonClosedSpec.post enc Tryz.prog Tryz.f10 false true false false W args v W' := by
  have hW' := hW
  obtain ⟨p, q, hA0, hV, rfl, hfz, hnd⟩ := hW
  have hA : DataW.TrodAll enc Tryz.prog W 0 (fun _ => true) true Tryz.f10.params.toList args.toList ds p := hA0
  rw [Tryz.params10] at hA hval
  obtain ⟨v0, d0, rfl, rfl, h0⟩ := trodAll_one hA
  obtain ⟨rfl, rfl⟩ := trodVars_none hV
  obtain ⟨l0, hl0, hn0, hs0⟩ := open_entries (okWide_slice Tryz.underlying22 (hval 0 22 v0 rfl rfl)) h0
  clear hA0
  simp only [List.append_nil, List.nil_append] at hW'
  have hlt : ∀ x ∈ p, x.block < W.heap.size := fun x hx => by simpa using hW'.lt x (by simpa using hx)
  refine (closed_c W (cubes_of hL) v0 l0 hl0 hn0 hs0).mono fun e W' ⟨he, hE⟩ => ?_
  subst he
  have hb : Below W.heap.size W W' := ⟨hE.os, hE.tape, hE.output, hE.size, fun k hk => hE.block k hk (fun h => h)⟩
  have hres : DataW.TrodAll enc Tryz.prog W' 0 (fun b => decide (b < W.heap.size)) true [22] [v0] [d0] (p) := by
    simpa using trodAll_mk1 (Below.trod Tryz.laidOutK (by kernel_rfl) (of_decide_eq_true (by kernel_rfl)) h0 hb (fun x hx => hlt x (by simp [hx])))
  refine ⟨_, rfl, _, _, _, [], p, [], hW', trodAll_mk1 (shut_bool Tryz.underlying4 _), ?_, rfl, hb.frame _, fun h => by cases h⟩
  exact hres
set_option maxRecDepth 100000 in
theorem canonClosed_reads (os : Os) {H : Type} (enc : TypeId × Value → H) : ∃ places, DataW.whole enc Tryz.prog ((laidWorld os).forCall (fun _ _ => 0) ⟨#[], #[.slice none 0 0], []⟩).memory Tryz.f10.params.toList Rows.canonClosedSpec.vars false #[.slice none 0 0].toList 8 = some ([.nil], [], places) :=
  ⟨[], by kernel_rfl⟩
set_option maxRecDepth 100000 in
theorem canonClosed_lifted (os : Os) (started : os.Started) (H : Type) (enc : TypeId × Value → H) (F : Stop.Interp) :
    ReturnsInHanded {} Tryz.checked os 10 .any ((OpenSpec.ofChange Rows.canonClosedSpec).preRow enc Tryz.prog Tryz.f10 Rows.canonClosedRow.domain false Rows.canonClosedRow.laid) (((OpenSpec.ofChange Rows.canonClosedSpec).at F).post enc Tryz.prog Tryz.f10 false true false false) := by
  obtain ⟨places, hx⟩ := canonClosed_reads os enc
  refine returnsInHanded_of_row (C := Tryz.checked) (s := OpenSpec.ofChange Rows.canonClosedSpec) Tryz.ownK started (by kernel_rfl) Tryz.func10
    (witness_row_at (enc := enc) (C := Tryz.checked) false (laidWorld os) #[.slice none 0 0] rfl (by kernel_rfl) (by kernel_rfl) (by kernel_rfl)
      (OpenSpec.preRow_of_cond 8 hx (by kernel_rfl) (fun k hk => by cases hk) (by kernel_rfl) (laid_met os _))) ?_
  intro W base args ds gs before hval hW _ _ _ hL _ _
  exact canonClosed_contract H enc W base args ds gs before hval hW hL
theorem canonClosed_said : Rows.CanonClosedSaid :=
  OpenClaim.holds_of_cond 10 Tryz.f10 rfl rfl rfl rfl rfl rfl rfl ⟨rfl, rfl, rfl, rfl, rfl⟩ rfl rfl rfl rfl rfl (by kernel_rfl) Tryz.func10 (by kernel_rfl)
    (of_decide_eq_true (by kernel_rfl)) (by unfold Func.isWrapper; first | (rw [if_pos (by decide +kernel)]; kernel_rfl) | (rw [if_neg (by decide +kernel)]; exact ⟨rfl, rfl⟩))
    (fun os started H enc _ F => by rw [OpenClaim.pre_eq_preRow]; exact canonClosed_lifted os started H enc F)
theorem canonClosedCard_holds : Rows.CanonClosedCardSaid :=
  Claim7.holds_tied_plain_at .later [] [.handle, .data] true (true, "79678ca2a070e6b28f83784ea4f06b3bb3739c3a78af8def0c67aaeb6329fa64") true
    canonClosed_said (fun _ h => by cases h) (by kernel_rfl) (fun _ h => by cases h) canonClosed_row_tie rfl ⟨rfl, rfl⟩ (by kernel_rfl) rfl
    (fun f fn hf hfn => by
      obtain rfl : f = 10 := Option.some.inj ((show Tryz.prog.funcNamed "guilloche/guillochelaw05.CanonClosed" = some 10 by kernel_rfl).symm.trans hf) |>.symm
      obtain rfl : fn = Tryz.f10 := (Option.some.inj (Tryz.func10.symm.trans hfn)).symm
      exact ⟨by kernel_rfl, fun j t ht => by
        rw [Tryz.params10] at ht
        have hm : t ∈ [22] := by simpa using Array.mem_of_getElem? ht
        have hall : ([22].all fun u => !Tryz.prog.wantsStandIn u) = true := by kernel_rfl
        exact (show Tryz.prog.wantsStandIn t = false by simpa using List.all_eq_true.1 hall t hm)⟩)
    (by kernel_rfl)
end
end Go.Proofs.YtolhikjjchfnjaaGreatDoor
