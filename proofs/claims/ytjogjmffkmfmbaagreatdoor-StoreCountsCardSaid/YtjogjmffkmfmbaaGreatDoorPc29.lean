/- Parts of the proof, one behind the other: NodeR, NodeS, RlpS, RlpT, RlpU, RlpV, RlpW, RlpX, RlpY, RlpZ, NodeU, IterV, RlpZb, RlpZa, RlpZc. Each is under no condition but those that it states. -/
import Derived.Test.YtjogjmffkmfmbaaGreatDoorPc25
import Derived.Test.YtjogjmffkmfmbaaGreatDoorPc28
import Derived.Test.YtjogjmffkmfmbaaGreatDoorPc17
import Derived.Test.YtjogjmffkmfmbaaGreatDoorPc27
import Derived.Test.YtjogjmffkmfmbaaGreatDoorPc6
import Derived.Test.YtjogjmffkmfmbaaGreatDoorPc14
import Derived.Test.YtjogjmffkmfmbaaGreatDoorPc16
import Derived.Test.YtjogjmffkmfmbaaGreatDoorPc26
import Derived.RangeFuncCalls
/- node: readPair of any two texts. -/
namespace Go.Proofs.YtjogjmffkmfmbaaGreatDoor
section
open Go Go.RowKit
set_option linter.unusedSimpArgs false
set_option linter.unusedVariables false
/-- What readPair reads. -/
def pairC (g : ByteArray × Bool × Bool) (o : Option ByteArray) (y : ByteArray) : NodeT × Bool :=
  if g.2.2 = true then
    if g.2.1 = true then (⟨1, g.1, o.getD ⟨#[]⟩, noRefs 16⟩, o.isSome) else (⟨2, g.1, ⟨#[]⟩, y :: noRefs 15⟩, true)
  else (emptyN, false)
def pairN (x y : ByteArray) : NodeT × Bool := match plainA x with
  | none => (emptyN, false)
  | some b => pairC (ngetN b) (plainA y) y
def PairR (y : ByteArray) (m : NodeT) : Prop := (∃ p v, m = ⟨1, p, v, noRefs 16⟩ ∧ validN p = true ∧ p.size ≤ 1000000 ∧ v.size ≤ 1000000) ∨ (∃ p, m = ⟨2, p, ⟨#[]⟩, y :: noRefs 15⟩ ∧ validN p = true ∧ p.size ≤ 1000000)
def PairP (w : World) (x y : ByteArray) (e : Ending) (w' : World) : Prop := e = .returned (.tuple #[(pairN x y).1.V, .bool (pairN x y).2]) ∧ Ext w w'
theorem plainA_size {s b : ByteArray} (h : plainA s = some b) : b.size ≤ s.size := by
  unfold plainA at h
  split at h
  · unfold plainB at h
    split at h
    · obtain rfl := Option.some.inj h
      rw [ByteArray.size_extract]; omega
    · cases h
  · cases h
theorem pairN_len (x y : ByteArray) : (pairN x y).1.refs.length = 16 := by
  unfold pairN
  split
  · rfl
  · unfold pairC
    split
    · split <;> rfl
    · rfl
theorem pairN_ok {x y : ByteArray} (hx : x.size ≤ 500000) (hy : y.size ≤ 1000000) (h : (pairN x y).2 = true) : PairR y (pairN x y).1 := by
  unfold pairN at h ⊢
  split at h
  · cases h
  · rename_i b hb
    have hbs := plainA_size hb
    obtain ⟨h1, h2⟩ := ngetN_ok b
    unfold pairC at h ⊢
    split at h
    · rename_i h3
      rw [if_pos h3]
      split at h
      · rename_i h4
        rw [if_pos h4]
        cases hv : plainA y with
        | none => rw [hv] at h; cases h
        | some v => exact .inl ⟨_, v, rfl, h1, by omega, by have := plainA_size hv; omega⟩
      · rename_i h4
        rw [if_neg h4]
        exact .inr ⟨_, rfl, h1, by omega⟩
    · cases h
set_option maxRecDepth 100000 in
set_option maxHeartbeats 2000000 in
theorem pair_noput (w : World) (x y : ByteArray) (hx : x.size ≤ 1000000) (h : plainA x = none) : Calls Tryz.prog 132 #[.string x, .string y] w (PairP w x y) := by
  have HH := Lib.hid h
  clear h
  go_enter Tryz.func132, Tryz.ntmps132
  go_wp2_with (refine wpList_new Tryz.allocNode rfl rfl ?_; intro W1 hB1 hE1)
  refine (plain_any _ x (by omega)).mono ?_
  rintro e w2 ⟨rfl, hE⟩
  rw [HH.out]
  have hB2 := hB1.keeps hE (fun h => h)
  have HE2 := Lib.hid (hE1.trans hE)
  clear hB1 hE1 hE
  unfold optV
  simp only
  go_wp2_with (refine wpList_fill (vs := emptyN.cells) rfl rfl rfl rfl hB2 rfl Tryz.szNode (NodeT.one _) ?_; intro W8 hB8 hE8)
  refine bodyPost_ret (results_cell_tmp rfl rfl rfl (run_loadVar_api W8 _ emptyN rfl hB8)) rfl ?_
  have e : pairN x y = (emptyN, false) := by unfold pairN; rw [HH.out]
  unfold PairP
  rw [e]
  exact ⟨rfl, HE2.out.trans' hE8 (fun x hx e => by have e : x = w.heap.size := e; omega)⟩
set_option maxRecDepth 100000 in
set_option maxHeartbeats 4000000 in
theorem pair_put (w : World) (x y b : ByteArray) (hx : x.size ≤ 1000000) (hy : y.size ≤ 1000000) (h : plainA x = some b) : Calls Tryz.prog 132 #[.string x, .string y] w (PairP w x y) := by
  have hb := plainA_size h
  have HH := Lib.hid h
  obtain ⟨g, hg⟩ : ∃ g, g = ngetN b := ⟨_, rfl⟩
  obtain ⟨o, ho⟩ : ∃ o, o = plainA y := ⟨_, rfl⟩
  have HP : PairP w x y = fun e w' => e = .returned (.tuple #[(pairC g o y).1.V, .bool (pairC g o y).2]) ∧ Ext w w' := by unfold PairP pairN; rw [h, hg, ho]
  rw [HP]
  have HG := Lib.hid hg
  have HO := Lib.hid ho
  clear h hg HP ho
  obtain ⟨p, leaf, ok⟩ := g
  unfold pairC
  simp only
  go_enter Tryz.func132, Tryz.ntmps132
  go_wp2_with (refine wpList_new Tryz.allocNode rfl rfl ?_; intro W1 hB1 hE1)
  refine (plain_any _ x (by omega)).mono ?_
  rintro e w2 ⟨rfl, hE⟩
  rw [HH.out]
  have HE2 := Lib.hid (hE1.trans hE)
  have HB2 := Lib.hid (hB1.keeps hE (fun h => h))
  clear hB1 hE1 hE
  unfold optV
  simp only
  go_wp2_with fail
  refine (nget_any _ b (by omega)).mono ?_
  rintro e w3 ⟨rfl, hE⟩
  rw [← HG.out]
  simp only
  have HE3 := Lib.hid (HE2.out.trans hE)
  have HB3 := Lib.hid (HB2.out.keeps hE (fun h => h))
  clear hE HE2 HB2
  cases ok with
  | false =>
    have hB3 := HB3.out
    go_wp2_with (refine wpList_fill (vs := emptyN.cells) rfl rfl rfl rfl hB3 rfl Tryz.szNode (NodeT.one _) ?_; intro W8 hB8 hE8)
    refine bodyPost_ret (results_cell_tmp rfl rfl rfl (run_loadVar_api W8 _ emptyN rfl hB8)) rfl ?_
    exact ⟨rfl, HE3.out.trans' hE8 (fun x hx e => by have e : x = w.heap.size := e; omega)⟩
  | true =>
    cases leaf with
    | true =>
      go_wp2_with fail
      refine (plain_any _ y (by omega)).mono ?_
      rintro e w4 ⟨rfl, hE⟩
      have HE4 := Lib.hid (HE3.out.trans hE)
      have hB4 := HB3.out.keeps hE (fun h => h)
      clear hE HE3 HB3
      rw [← HO.out]
      cases o with
      | none =>
        unfold optV
        simp only
        go_wp2_with (refine wpList_fill (vs := cells19 1 p ⟨#[]⟩ ⟨#[]⟩) rfl rfl rfl rfl hB4 rfl Tryz.szNode (cells19_one _ _ _ _) ?_; intro W5 hB5 hE5)
        refine bodyPost_ret (results_cell_tmp rfl rfl rfl (run_loadVar_api W5 _ ⟨1, p, ⟨#[]⟩, noRefs 16⟩ rfl hB5)) rfl ?_
        exact ⟨rfl, HE4.out.trans' hE5 (fun x hx e => by have e : x = w.heap.size := e; omega)⟩
      | some v =>
        unfold optV
        simp only
        go_wp2_with (refine wpList_fill (vs := cells19 1 p v ⟨#[]⟩) rfl rfl rfl rfl hB4 rfl Tryz.szNode (cells19_one _ _ _ _) ?_; intro W5 hB5 hE5)
        refine bodyPost_ret (results_cell_tmp rfl rfl rfl (run_loadVar_api W5 _ ⟨1, p, v, noRefs 16⟩ rfl hB5)) rfl ?_
        exact ⟨rfl, HE4.out.trans' hE5 (fun x hx e => by have e : x = w.heap.size := e; omega)⟩
    | false =>
      go_wp2_with (first | (refine wpList_new Tryz.allocNode rfl rfl ?_; intro W5 hB5 hE5; refine wpList_fill (vs := cells19 2 p ⟨#[]⟩ ⟨#[]⟩) rfl rfl rfl rfl hB5 rfl Tryz.szNode (cells19_one _ _ _ _) ?_; intro W6 hB6 hE6; have q3 : W6.cell? ⟨w3.heap.size, 3, none⟩ = some (.string ⟨#[]⟩) := hB6.cell (i := 3) (by rfl); have f3 : W6.frozen? ⟨w3.heap.size, 3, none⟩ = false := hB6.frozen; have HB7 := Lib.hid (hB6.set_same (i := 3) (.string y))) | (refine wpList_load_known 108 (.tmp 10) rfl rfl _ _ rfl (run_load_api _ _ ⟨2, p, ⟨#[]⟩, y :: noRefs 15⟩ rfl HB7.out) ?_; refine wpList_fill (vs := NodeT.cells ⟨2, p, ⟨#[]⟩, y :: noRefs 15⟩) rfl rfl rfl rfl (((HB3.out.keeps hE5 (fun h => h)).keeps hE6 (by have := HB3.out.lt; omega)).set_other (p := ⟨w3.heap.size, 3, none⟩) (by have := HB3.out.lt; show w.heap.size ≠ w3.heap.size; omega) (.string y)) rfl Tryz.szNode (NodeT.one _) ?_; intro W8 hB8 hE8))
      refine bodyPost_ret (results_cell_tmp rfl rfl rfl (run_loadVar_api W8 _ ⟨2, p, ⟨#[]⟩, y :: noRefs 15⟩ rfl hB8)) rfl ?_
      have k1 : Ext w3 (W6.setCell ⟨w3.heap.size, 3, none⟩ (.string y)) := (hE5.trans' hE6 (fun x hx e => by have e : x = w3.heap.size := e; omega)).setCell (.inr (Nat.le_refl _)) _
      exact ⟨rfl, (HE3.out.trans k1).trans' hE8 (fun x hx e => by have e : x = w.heap.size := e; omega)⟩
theorem pair_any (w : World) (x y : ByteArray) (hx : x.size ≤ 1000000) (hy : y.size ≤ 1000000) : Calls Tryz.prog 132 #[.string x, .string y] w (PairP w x y) := by
  cases h : plainA x with
  | none => exact pair_noput w x y hx h
  | some b => exact pair_put w x y b hx hy h
end
end Go.Proofs.YtjogjmffkmfmbaaGreatDoor
/- node: readBranch of any seventeen items. -/
namespace Go.Proofs.YtjogjmffkmfmbaaGreatDoor
section
open Go Go.RowKit
set_option linter.unusedSimpArgs false
set_option linter.unusedVariables false
def branchY (rs : List ByteArray) (z : ByteArray) : List ByteArray := rs.map (fun r => if r.size = 0 then textB ⟨#[]⟩ else r) ++ [z]
def BranchP (w : World) (rs : List ByteArray) (z : ByteArray) (e : Ending) (w' : World) : Prop := RdNo w e w' ∨ ∃ v, plainA z = some v ∧ e = .returned (.tuple #[(⟨3, ⟨#[]⟩, v, rs⟩ : NodeT).V, .bool true]) ∧ Ext w w'
set_option maxRecDepth 100000 in
set_option maxHeartbeats 2000000 in
theorem branch_put (w : World) (a : Value) (rs : List ByteArray) (z : ByteArray) (hr : rs.length = 16) (hz : z.size ≤ 1000000) (hne : ∀ r ∈ rs, r.size ≠ 0 → r ≠ textB ⟨#[]⟩) (ha : RdS w a (branchY rs z)) : Calls Tryz.prog 133 #[a] w (BranchP w rs z) := by
  have hxl : (branchY rs z).length = 17 := by simp [branchY, hr]
  rcases ha with ⟨_, _, _, h0⟩ | ⟨b, o, c, rfl, hb, hc, hcell⟩
  · rw [h0] at hxl; cases hxl
  rw [hxl] at hc ⊢
  have hit : ∀ (k : Nat) r, rs[k]? = some r → w.cell? ⟨b, o + k, none⟩ = some (.string (if r.size = 0 then textB ⟨#[]⟩ else r)) := fun k r hk => hcell k _ (by
    unfold branchY
    rw [List.getElem?_append_left (by rw [List.length_map]; exact (List.getElem?_eq_some_iff.1 hk).1), List.getElem?_map, hk]; rfl)
  have hiv : w.cell? ⟨b, o + 16, none⟩ = some (.string z) := hcell 16 _ (by
    unfold branchY
    rw [List.getElem?_append_right (by rw [List.length_map]; omega), List.length_map, hr]; rfl)
  have HIT := Lib.hid hit
  have HIV := Lib.hid hiv
  have HR := Lib.hid hr
  have HNE := Lib.hid hne
  clear hit hiv hxl hcell hr hne
  go_enter Tryz.func133, Tryz.ntmps133
  go_wp2_with (first | (refine wpList_new Tryz.allocNode rfl rfl ?_; intro W3 hB3 hE3; refine wpList_fill (vs := cells19 3 ⟨#[]⟩ ⟨#[]⟩ ⟨#[]⟩) rfl rfl rfl rfl hB3 rfl Tryz.szNode (cells19_one _ _ _ _) ?_; intro W4 hB4 hE4) | (refine wpList_new Tryz.allocNode rfl rfl ?_; intro W1 hB1 hE1))
  have h4 : Ext w W4 := (hE1.trans hE3).trans' hE4 (fun x hx e => by have e : x = W1.heap.size := e; have := hE1.size; omega)
  have h5 := (hB1.keeps hE3 (fun h => h)).keeps hE4 (by have := hB1.lt; omega)
  obtain ⟨g4, hg4⟩ : ∃ g, g = W1.heap.size := ⟨_, rfl⟩
  obtain ⟨g2, hg2⟩ : ∃ g, g = w.heap.size := ⟨_, rfl⟩
  have n24 : g2 < g4 := by have := hB1.lt; omega
  have n2 : w.heap.size ≤ g2 := by omega
  rw [← hg4] at hB4 ⊢
  rw [← hg2] at h5 ⊢
  have HE4 := Lib.hid h4
  have HB4 := Lib.hid hB4
  have H5 := Lib.hid h5
  clear hg4 hg2 h4 h5 hB4 hE1 hB1 hB3 hE3 hE4
  go_loopw [9] (fun i wr => BrdRel w g2 g4 rs i wr) (fun i _ => 16 - (intOf i).toNat)
  case atStart => exact ⟨0, by omega, rfl, HE4.out, H5.out, HB4.out⟩
  case round =>
    obtain ⟨k, hk, rfl, hE, hB2, hB4⟩ := hrel
    have HE := Lib.hid hE
    have HB2 := Lib.hid hB2
    have HB4 := Lib.hid hB4
    clear hE hB2 hB4
    by_cases hlt : k < 16
    · obtain ⟨r, hri⟩ : ∃ r, rs[k]? = some r := ⟨_, List.getElem?_eq_getElem (by have := HR.out; omega)⟩
      have qx := cell_ext (HIT.out k r hri) HE.out
      have b1 : (k : Int) < 17 := by omega
      have hmem : r ∈ rs := List.mem_of_getElem? hri
      obtain ⟨em, hem⟩ : ∃ em, em = textB ⟨#[]⟩ := ⟨_, rfl⟩
      rw [← hem] at qx
      have HEM := Lib.hid hem
      have HRI := Lib.hid hri
      clear hem hri
      by_cases h0 : r.size = 0
      · rw [if_pos h0] at qx
        have QX := Lib.hid qx
        clear qx
        go_wp2_with fail
        refine wp_region_mixK [0,1,2,3,4,5] Ext ExtR ExtT (by kernel_rfl) (by kernel_rfl) (by kernel_rfl) ?_
        iterate 3 (refine mixk_pure _ rfl (by kernel_rfl) rfl rfl (fun K hK => ?_); go_big_quiet_op; refine hK _ ?_; clear hK K)
        refine mixk_load ⟨b, o + k, none⟩ _ rfl (by kernel_rfl) rfl rfl (fun w2 h2 => run_load_plain Tryz.uStr rfl (cell_ext (by exact QX.out) h2)) ?_
        simp only [Act.put, List.setIfInBounds_toArray, List.set_cons_zero, List.set_cons_succ]
        refine mixk_call _ 129 #[.string ⟨#[]⟩] (.string em) rfl (by kernel_rfl) rfl (fun w1 => exec_call Tryz.enterText (by kernel_rfl)) (fun w1 h1 => by rw [HEM.out]; exact text_c w1 ⟨#[]⟩ (by decide)) ?_
        simp only [Act.put, List.setIfInBounds_toArray, List.set_cons_zero, List.set_cons_succ]
        iterate 1 (refine mixk_pure _ rfl (by kernel_rfl) rfl rfl (fun K hK => ?_); go_big_quiet_op; refine hK _ ?_; clear hK K)
        refine mixk_end (by kernel_rfl) (fun w3 he => ?_)
        have hX := (drewE wr).trans he
        have HE3 := Lib.hid (HE.out.trans hX)
        have HB3 := Lib.hid (HB2.out.keeps hX (fun h => h))
        have HB5 := Lib.hid (HB4.out.keeps hX (fun h => h))
        clear he hX
        go_wp2_with fail
        go_roundw
        case rel => exact ⟨k + 1, by omega, by go_num, HE3.out, HB3.out, by rw [brN_skip HR.out hlt r HRI.out h0]; exact HB5.out⟩
        case measure => simp [intOf]; omega
      · rw [if_neg h0] at qx
        have hq : (r.toList == em.toList) = false := by
          rw [beq_eq_false_iff_ne, ByteArray.toList_eq, ByteArray.toList_eq]
          intro e
          exact HNE.out r hmem h0 (by rw [← HEM.out]; exact ByteArray.ext (Array.ext' e))
        have QX := Lib.hid qx
        clear qx
        go_wp2_with fail
        refine wp_region_mixK [0,1,2,3,4,5] Ext ExtR ExtT (by kernel_rfl) (by kernel_rfl) (by kernel_rfl) ?_
        iterate 3 (refine mixk_pure _ rfl (by kernel_rfl) rfl rfl (fun K hK => ?_); go_big_quiet_op; refine hK _ ?_; clear hK K)
        refine mixk_load ⟨b, o + k, none⟩ _ rfl (by kernel_rfl) rfl rfl (fun w2 h2 => run_load_plain Tryz.uStr rfl (cell_ext (by exact QX.out) h2)) ?_
        simp only [Act.put, List.setIfInBounds_toArray, List.set_cons_zero, List.set_cons_succ]
        refine mixk_call _ 129 #[.string ⟨#[]⟩] (.string em) rfl (by kernel_rfl) rfl (fun w1 => exec_call Tryz.enterText (by kernel_rfl)) (fun w1 h1 => by rw [HEM.out]; exact text_c w1 ⟨#[]⟩ (by decide)) ?_
        simp only [Act.put, List.setIfInBounds_toArray, List.set_cons_zero, List.set_cons_succ]
        iterate 1 (refine mixk_pure _ rfl (by kernel_rfl) rfl rfl (fun K hK => ?_); go_big_quiet_op; refine hK _ ?_; clear hK K)
        refine mixk_end (by kernel_rfl) (fun w3 he => ?_)
        have hX := (drewE wr).trans he
        have HE3 := Lib.hid (HE.out.trans hX)
        have HB3 := Lib.hid (HB2.out.keeps hX (fun h => h))
        have HB5 := Lib.hid (HB4.out.keeps hX (fun h => h))
        have qx := cell_ext QX.out hX
        obtain ⟨old, q4⟩ : ∃ v, w3.cell? ⟨g4, 3 + k, none⟩ = some v := ⟨_, HB5.out.cellL (List.getElem?_eq_getElem (by rw [NodeT.cells_len _ (brN_len HR.out hk)]; omega))⟩
        have f4 : w3.frozen? ⟨g4, 3 + k, none⟩ = false := HB5.out.frozen
        have b2 : (k : Int) < 16 := by omega
        clear he hX
        go_wp2_with fail
        go_roundw
        case rel =>
          refine ⟨k + 1, by omega, by go_num, HE3.out.setCell (.inr (by show w.heap.size ≤ g4; omega)) _, HB3.out.set_other (p := ⟨g4, 3 + k, none⟩) (by show g2 ≠ g4; omega) _, ?_⟩
          have := HB5.out.set_same (i := 3 + k) (.string r)
          rw [show (brN rs k).cells.toArray.setIfInBounds (3 + k) (.string r) = ((brN rs k).cells.set (3 + k) (.string r)).toArray by simp, brN_set HR.out hlt r HRI.out] at this
          exact this
        case measure => simp [intOf]; omega
    · have hk16 : k = 16 := by omega
      subst hk16
      have qx := cell_ext HIV.out HE.out
      go_wp2_with fail
      refine (plain_any _ z (by omega)).mono ?_
      rintro e w4 ⟨rfl, hE⟩
      obtain ⟨o, ho⟩ : ∃ o, o = plainA z := ⟨_, rfl⟩
      rw [← ho]
      obtain ⟨v, hv⟩ : ∃ v, v = o.getD ⟨#[]⟩ := ⟨_, rfl⟩
      have hb4 := HB4.out.keeps hE (fun h => h)
      have q4 : w4.cell? ⟨g4, 2, none⟩ = some (.string ⟨#[]⟩) := hb4.cellL (by rfl)
      have f4 : w4.frozen? ⟨g4, 2, none⟩ = false := hb4.frozen
      have HB5 := Lib.hid (hb4.set_same (i := 2) (.string v))
      have hb2 := (HB2.out.keeps hE (fun h => h)).set_other (p := ⟨g4, 2, none⟩) (by show g2 ≠ g4; omega) (.string v)
      have HB6 := Lib.hid hb2
      have HE4 := Lib.hid (HE.out.trans hE)
      have e16 : brN rs 16 = ⟨3, ⟨#[]⟩, ⟨#[]⟩, rs⟩ := by unfold brN noRefs; rw [List.take_of_length_le (by have := HR.out; omega)]; simp
      rw [e16] at HB5
      have ec : (NodeT.cells ⟨3, ⟨#[]⟩, ⟨#[]⟩, rs⟩).toArray.setIfInBounds 2 (.string v) = (NodeT.cells ⟨3, ⟨#[]⟩, v, rs⟩).toArray := by simp [NodeT.cells]
      rw [ec] at HB5
      clear hE hb4 hb2 qx ec e16
      cases o with
      | none =>
        change v = ⟨#[]⟩ at hv
        subst hv
        clear ho
        unfold optV
        go_wp2_with (first | (refine wpList_load_known 108 (.tmp 4) rfl rfl _ _ rfl (run_load_api _ _ ⟨3, ⟨#[]⟩, ⟨#[]⟩, rs⟩ HR.out HB5.out) ?_) | (refine wpList_fill (vs := NodeT.cells ⟨3, ⟨#[]⟩, ⟨#[]⟩, rs⟩) rfl rfl rfl rfl HB6.out (by rw [NodeT.cells_len ⟨3, ⟨#[]⟩, ⟨#[]⟩, rs⟩ HR.out]; rfl) (by rw [NodeT.cells_len ⟨3, ⟨#[]⟩, ⟨#[]⟩, rs⟩ HR.out]; exact Tryz.szNode) (NodeT.one _) ?_; intro W8 hB8 hE8))
        refine bodyPost_ret (results_cell_tmp rfl rfl rfl (run_loadVar_api W8 _ ⟨3, ⟨#[]⟩, ⟨#[]⟩, rs⟩ HR.out hB8)) rfl ?_
        exact .inl ⟨_, HR.out, rfl, (HE4.out.setCell (.inr (by show w.heap.size ≤ g4; omega)) _).trans' hE8 (fun x hx e => by have e : x = g2 := e; omega)⟩
      | some u =>
        change v = u at hv
        subst hv
        have HO := Lib.hid ho.symm
        clear ho
        unfold optV
        go_wp2_with (first | (refine wpList_load_known 108 (.tmp 4) rfl rfl _ _ rfl (run_load_api _ _ ⟨3, ⟨#[]⟩, v, rs⟩ HR.out HB5.out) ?_) | (refine wpList_fill (vs := NodeT.cells ⟨3, ⟨#[]⟩, v, rs⟩) rfl rfl rfl rfl HB6.out (by rw [NodeT.cells_len ⟨3, ⟨#[]⟩, v, rs⟩ HR.out]; rfl) (by rw [NodeT.cells_len ⟨3, ⟨#[]⟩, v, rs⟩ HR.out]; exact Tryz.szNode) (NodeT.one _) ?_; intro W8 hB8 hE8))
        refine bodyPost_ret (results_cell_tmp rfl rfl rfl (run_loadVar_api W8 _ ⟨3, ⟨#[]⟩, v, rs⟩ HR.out hB8)) rfl ?_
        exact .inr ⟨v, HO.out, rfl, (HE4.out.setCell (.inr (by show w.heap.size ≤ g4; omega)) _).trans' hE8 (fun x hx e => by have e : x = g2 := e; omega)⟩
/-- Any seventeen items that are not empty, as refs and what is behind them. -/
theorem branch_parts (xs : List ByteArray) (hl : xs.length = 17) (h0 : ∀ x ∈ xs, x.size ≠ 0) : ∃ rs z, xs = branchY rs z ∧ rs.length = 16 ∧ (∀ r ∈ rs, r.size ≠ 0 → r ≠ textB ⟨#[]⟩) ∧ (∀ r ∈ rs, r = ⟨#[]⟩ ∨ r ∈ xs) ∧ z ∈ xs := by
  obtain ⟨ys, z, rfl⟩ : ∃ ys z, xs = ys ++ [z] := ⟨xs.dropLast, xs.getLast (by intro e; rw [e] at hl; cases hl), (List.dropLast_concat_getLast _).symm⟩
  refine ⟨ys.map (fun x => if x = textB ⟨#[]⟩ then ⟨#[]⟩ else x), z, ?_, ?_, fun r hr h e => ?_, fun r hr => ?_, by simp⟩
  · unfold branchY
    rw [List.map_map]
    congr 1
    refine (List.map_id' ys).symm.trans (List.map_congr_left fun x hx => ?_)
    show x = if (if x = textB ⟨#[]⟩ then (⟨#[]⟩ : ByteArray) else x).size = 0 then textB ⟨#[]⟩ else (if x = textB ⟨#[]⟩ then (⟨#[]⟩ : ByteArray) else x)
    by_cases hx' : x = textB ⟨#[]⟩
    · rw [if_pos hx', if_pos (show (⟨#[]⟩ : ByteArray).size = 0 from rfl)]; exact hx'
    · rw [if_neg hx', if_neg (h0 x (by simp [hx]))]
  · rw [List.length_map]; simpa using hl
  · obtain ⟨x, _, hx⟩ := List.mem_map.1 hr
    by_cases hx' : x = textB ⟨#[]⟩
    · rw [if_pos hx'] at hx; rw [← hx] at h; exact h rfl
    · rw [if_neg hx'] at hx; rw [hx] at hx'; exact hx' e
  · obtain ⟨x, hm, hx⟩ := List.mem_map.1 hr
    by_cases hx' : x = textB ⟨#[]⟩
    · rw [if_pos hx'] at hx; exact .inl hx.symm
    · rw [if_neg hx'] at hx; rw [← hx]; exact .inr (by simp [hm])
end
end Go.Proofs.YtjogjmffkmfmbaaGreatDoor
/- errors.As, its parts: reflectlite's values. -/
namespace Go.Proofs.YtjogjmffkmfmbaaGreatDoor
section
open Go Go.RowKit
set_option linter.unusedSimpArgs false
set_option linter.unusedVariables false
attribute [local go_sem] Oper.semAt_some
theorem Tryz.valueOfP (w : World) (b : Nat) : (callFunc 221 #[.iface 279 (.pointer (some ⟨b, 0, none⟩))]).run Tryz.prog w = .ok (.value (.agg #[.pointer (some ⟨3, 279, none⟩), .pointer (some ⟨w.heap.size, 0, none⟩), .int .u64 150])) (w.alloc (.cells #[.pointer (some ⟨b, 0, none⟩)] 279)) := by kernel_rfl
theorem Tryz.valueOfE (w : World) (b : Nat) : (callFunc 221 #[.iface 280 (.pointer (some ⟨b, 0, none⟩))]).run Tryz.prog w = .ok (.value (.agg #[.pointer (some ⟨3, 280, none⟩), .pointer (some ⟨w.heap.size, 0, none⟩), .int .u64 150])) (w.alloc (.cells #[.pointer (some ⟨b, 0, none⟩)] 280)) := by kernel_rfl
theorem Tryz.valueOfF (w : World) (b : Nat) : (callFunc 221 #[.iface 274 (.pointer (some ⟨b, 0, none⟩))]).run Tryz.prog w = .ok (.value (.agg #[.pointer (some ⟨3, 274, none⟩), .pointer (some ⟨w.heap.size, 0, none⟩), .int .u64 150])) (w.alloc (.cells #[.pointer (some ⟨b, 0, none⟩)] 274)) := by kernel_rfl
theorem Tryz.valueOfN (w : World) (n : Int) : (callFunc 221 #[.iface 26 (.int .i64 n)]).run Tryz.prog w = .ok (.value (.agg #[.pointer (some ⟨3, 26, none⟩), .pointer (some ⟨w.heap.size, 0, none⟩), .int .u64 130])) (w.alloc (.cells #[.int .i64 n] 26)) := by kernel_rfl
theorem Tryz.typeOfVP (w : World) (a : Nat) : (callFunc 222 #[.agg #[.pointer (some ⟨3, 279, none⟩), .pointer (some ⟨a, 0, none⟩), .int .u64 150]]).run Tryz.prog w = .ok (.value (.iface 220 (.agg #[.pointer (some ⟨3, 279, none⟩)]))) w := by kernel_rfl
theorem Tryz.typeOfVE (w : World) (a : Nat) : (callFunc 222 #[.agg #[.pointer (some ⟨3, 280, none⟩), .pointer (some ⟨a, 0, none⟩), .int .u64 150]]).run Tryz.prog w = .ok (.value (.iface 220 (.agg #[.pointer (some ⟨3, 280, none⟩)]))) w := by kernel_rfl
theorem Tryz.elemTP (w : World) : (callFunc 257 #[.agg #[.pointer (some ⟨3, 279, none⟩)]]).run Tryz.prog w = .ok (.value (.iface 220 (.agg #[.pointer (some ⟨3, 277, none⟩)]))) w := by kernel_rfl
theorem Tryz.elemTE (w : World) : (callFunc 257 #[.agg #[.pointer (some ⟨3, 280, none⟩)]]).run Tryz.prog w = .ok (.value (.iface 220 (.agg #[.pointer (some ⟨3, 26, none⟩)]))) w := by kernel_rfl
theorem Tryz.toAt (w : World) : (callFunc 255 #[.agg #[.pointer (some ⟨3, 274, none⟩)], .iface 220 (.agg #[.pointer (some ⟨3, 277, none⟩)])]).run Tryz.prog w = .ok (.value (.bool true)) w := by kernel_rfl
theorem Tryz.toErr (w : World) : (callFunc 255 #[.agg #[.pointer (some ⟨3, 274, none⟩)], .iface 220 (.agg #[.pointer (some ⟨3, 26, none⟩)])]).run Tryz.prog w = .ok (.value (.bool false)) w := by kernel_rfl
theorem Tryz.toErr2 (w : World) : (callFunc 255 #[.agg #[.pointer (some ⟨3, 26, none⟩)], .iface 220 (.agg #[.pointer (some ⟨3, 26, none⟩)])]).run Tryz.prog w = .ok (.value (.bool true)) w := by kernel_rfl
theorem Tryz.typeOfF (v : Value) (w : World) : (callFunc 99 #[.iface 274 v]).run Tryz.prog w = .ok (.value (.iface 220 (.agg #[.pointer (some ⟨3, 274, none⟩)]))) w := by kernel_rfl
theorem Tryz.typeOfN (v : Value) (w : World) : (callFunc 99 #[.iface 26 v]).run Tryz.prog w = .ok (.value (.iface 220 (.agg #[.pointer (some ⟨3, 26, none⟩)]))) w := by kernel_rfl
end
end Go.Proofs.YtjogjmffkmfmbaaGreatDoor
/- errors.As, its parts: what reflectlite reads and writes. -/
namespace Go.Proofs.YtjogjmffkmfmbaaGreatDoor
section
open Go Go.RowKit
set_option linter.unusedSimpArgs false
set_option linter.unusedVariables false
attribute [local go_sem] Oper.semAt_some
theorem run_loadVar_plain {P : Program} {t : TypeId} {d : TypeDesc} (h : P.underlying t = some d) (hd : (match d with | .struct _ | .array _ _ => true | _ => false) = false) {w : World} {a : Addr} {v : Value} (hc : w.cell? a = some v) : (loadVar t a).run P w = .ok v w := by
  have : (isAgg t).run P w = .ok false w := by cases d <;> simp_all [isAgg, run_underlying h]
  simp [loadVar, Sem.run_bind, this, Result.andThen, hc]
theorem vmethod_run {P : Program} {z : Sem Value} {f : TypeId → Addr → Nat → Nat → Sem Value} {v x : Value} {t : TypeId} {a : Addr} {fl : Nat} {w : World} (hp : (Extern.ReflectliteValue.parts v).run P w = .ok (some (t, a, fl)) w) (hf : (f t a fl (fl % 32)).run P w = .ok x w) : (Extern.ReflectliteValue.method z f #[v]).run P w = .ok x w := by
  show Sem.run P (Extern.ReflectliteValue.parts v >>= _) w = _
  rw [Sem.run_bind, hp]
  exact hf
theorem isNil_run {w : World} {t : TypeId} {a p : Nat} (hl : (loadVar t ⟨a, 0, none⟩).run Tryz.prog w = .ok (.pointer (some ⟨p, 0, none⟩)) w)
    (hp : ∀ w, (Extern.ReflectliteValue.parts (.agg #[.pointer (some ⟨3, t, none⟩), .pointer (some ⟨a, 0, none⟩), .int .u64 150])).run Tryz.prog w = .ok (some (t, ⟨a, 0, none⟩, 150)) w) :
    (callFunc 223 #[.agg #[.pointer (some ⟨3, t, none⟩), .pointer (some ⟨a, 0, none⟩), .int .u64 150]]).run Tryz.prog w = .ok (.value (.bool false)) w := by
  have h := @run_callFunc_extern Tryz.prog 223 _ (Extern.ReflectliteValue.method (Extern.ReflectliteValue.valueError "reflectlite.Value.IsNil" 0) Extern.ReflectliteValue.isNil) Tryz.func223 (by kernel_rfl) (by kernel_rfl) (by kernel_rfl) (by kernel_rfl)
  rw [h]
  have hm : (Extern.ReflectliteValue.isNil t ⟨a, 0, none⟩ 150 (150 % 32)).run Tryz.prog w = .ok (.bool false) w := by
    simp [Extern.ReflectliteValue.isNil, Sem.run_bind, hl, Result.andThen, Sem.run_pure]
  rw [vmethod_run (hp w) hm]
  rfl
theorem velem_run {w : World} {t e : TypeId} {a p k : Nat} (hl : (loadVar t ⟨a, 0, none⟩).run Tryz.prog w = .ok (.pointer (some ⟨p, 0, none⟩)) w)
    (hp : ∀ w, (Extern.ReflectliteValue.parts (.agg #[.pointer (some ⟨3, t, none⟩), .pointer (some ⟨a, 0, none⟩), .int .u64 150])).run Tryz.prog w = .ok (some (t, ⟨a, 0, none⟩, 150)) w)
    (he : ∀ w, (Extern.Rtype.elem? t).run Tryz.prog w = .ok (some e) w) (hk : ∀ w, (Extern.ReflectliteValue.mk e ⟨p, 0, none⟩ Extern.ReflectliteValue.flagAddr).run Tryz.prog w = .ok (.agg #[.pointer (some ⟨3, e, none⟩), .pointer (some ⟨p, 0, none⟩), .int .u64 k]) w) :
    (callFunc 228 #[.agg #[.pointer (some ⟨3, t, none⟩), .pointer (some ⟨a, 0, none⟩), .int .u64 150]]).run Tryz.prog w = .ok (.value (.agg #[.pointer (some ⟨3, e, none⟩), .pointer (some ⟨p, 0, none⟩), .int .u64 k])) w := by
  have h := @run_callFunc_extern Tryz.prog 228 _ (Extern.ReflectliteValue.method (Extern.ReflectliteValue.valueError "reflectlite.Value.Elem" 0) Extern.ReflectliteValue.elem) Tryz.func228 (by kernel_rfl) (by kernel_rfl) (by kernel_rfl) (by kernel_rfl)
  rw [h]
  have hm : (Extern.ReflectliteValue.elem t ⟨a, 0, none⟩ 150 (150 % 32)).run Tryz.prog w = .ok (.agg #[.pointer (some ⟨3, e, none⟩), .pointer (some ⟨p, 0, none⟩), .int .u64 k]) w := by
    simp [Extern.ReflectliteValue.elem, Sem.run_bind, hl, he, hk, Result.andThen, Sem.run_pure]
  rw [vmethod_run (hp w) hm]
  rfl
theorem Tryz.partsP (a : Nat) : ∀ w, (Extern.ReflectliteValue.parts (.agg #[.pointer (some ⟨3, 279, none⟩), .pointer (some ⟨a, 0, none⟩), .int .u64 150])).run Tryz.prog w = .ok (some (279, ⟨a, 0, none⟩, 150)) w := fun w => by kernel_rfl
theorem Tryz.partsE (a : Nat) : ∀ w, (Extern.ReflectliteValue.parts (.agg #[.pointer (some ⟨3, 280, none⟩), .pointer (some ⟨a, 0, none⟩), .int .u64 150])).run Tryz.prog w = .ok (some (280, ⟨a, 0, none⟩, 150)) w := fun w => by kernel_rfl
theorem Tryz.elemP : ∀ w, (Extern.Rtype.elem? 279).run Tryz.prog w = .ok (some 277) w := fun w => by kernel_rfl
theorem Tryz.elemE : ∀ w, (Extern.Rtype.elem? 280).run Tryz.prog w = .ok (some 26) w := fun w => by kernel_rfl
theorem Tryz.mkP (p : Nat) : ∀ w, (Extern.ReflectliteValue.mk 277 ⟨p, 0, none⟩ Extern.ReflectliteValue.flagAddr).run Tryz.prog w = .ok (.agg #[.pointer (some ⟨3, 277, none⟩), .pointer (some ⟨p, 0, none⟩), .int .u64 404]) w := fun w => by kernel_rfl
theorem Tryz.mkE (p : Nat) : ∀ w, (Extern.ReflectliteValue.mk 26 ⟨p, 0, none⟩ Extern.ReflectliteValue.flagAddr).run Tryz.prog w = .ok (.agg #[.pointer (some ⟨3, 26, none⟩), .pointer (some ⟨p, 0, none⟩), .int .u64 386]) w := fun w => by kernel_rfl
end
end Go.Proofs.YtjogjmffkmfmbaaGreatDoor
/- errors.As, its parts: Set. -/
namespace Go.Proofs.YtjogjmffkmfmbaaGreatDoor
section
open Go Go.RowKit
set_option linter.unusedSimpArgs false
set_option linter.unusedVariables false
attribute [local go_sem] Oper.semAt_some
theorem run_storeVar {P : Program} {w : World} {t : TypeId} {b : Nat} {v old : Value} (hv : v.oneCell' = true) (hi : (P.info? t).map (·.size) = some 1) (hc : w.cell? ⟨b, 0, none⟩ = some old) (hf : w.frozen? ⟨b, 0, none⟩ = false) : (storeVar t ⟨b, 0, none⟩ v).run P w = .ok () (w.setCell ⟨b, 0, none⟩ v) := by
  obtain ⟨inf, hi1, hi2⟩ := Option.map_eq_some_iff.1 hi
  have hs : (storeCells ⟨b, 0, none⟩ [v]).run P w = .ok () (w.setCell ⟨b, 0, none⟩ v) := by
    rw [store_one, run_store P w _ v _ hv, hc, hf]; rfl
  simp [storeVar, Sem.run_bind, Result.andThen, one_cells hv, sizeOf, typeInfo, hi1, hi2, hs]
theorem Tryz.partsF (a : Nat) : ∀ w, (Extern.ReflectliteValue.parts (.agg #[.pointer (some ⟨3, 274, none⟩), .pointer (some ⟨a, 0, none⟩), .int .u64 150])).run Tryz.prog w = .ok (some (274, ⟨a, 0, none⟩, 150)) w := fun w => by kernel_rfl
theorem Tryz.partsN (a : Nat) : ∀ w, (Extern.ReflectliteValue.parts (.agg #[.pointer (some ⟨3, 26, none⟩), .pointer (some ⟨a, 0, none⟩), .int .u64 130])).run Tryz.prog w = .ok (some (26, ⟨a, 0, none⟩, 130)) w := fun w => by kernel_rfl
theorem Tryz.partsP2 (a : Nat) : ∀ w, (Extern.ReflectliteValue.parts (.agg #[.pointer (some ⟨3, 277, none⟩), .pointer (some ⟨a, 0, none⟩), .int .u64 404])).run Tryz.prog w = .ok (some (277, ⟨a, 0, none⟩, 404)) w := fun w => by kernel_rfl
theorem Tryz.partsE2 (a : Nat) : ∀ w, (Extern.ReflectliteValue.parts (.agg #[.pointer (some ⟨3, 26, none⟩), .pointer (some ⟨a, 0, none⟩), .int .u64 386])).run Tryz.prog w = .ok (some (26, ⟨a, 0, none⟩, 386)) w := fun w => by kernel_rfl
theorem vset_run {P : Program} {v x val : Value} {dst src : TypeId} {a b : Addr} {fl fl2 : Nat} {w w' : World} (hp1 : (Extern.ReflectliteValue.parts v).run P w = .ok (some (dst, a, fl)) w) (hp2 : (Extern.ReflectliteValue.parts x).run P w = .ok (some (src, b, fl2)) w) (hfl : (fl / Extern.ReflectliteValue.flagAddr % 2 == 0) = false)
    (hl : (loadVar src b).run P w = .ok val w) (hd : (Extern.Rtype.directlyAssignable dst src).run P w = .ok true w) (hst : (storeVar dst a val).run P w = .ok () w') : (Extern.ReflectliteValue.set #[v, x]).run P w = .ok (.tuple #[]) w' := by
  show Sem.run P (Extern.ReflectliteValue.parts v >>= _) w = _
  rw [Sem.run_bind, hp1]
  show Sem.run P (Extern.ReflectliteValue.parts x >>= _) w = _
  rw [Sem.run_bind, hp2]
  simp only [Result.andThen, hfl, Sem.run_bind, hl, hd, hst, Sem.run_pure, Bool.false_eq_true, if_false, if_true]
theorem vset_iface {P : Program} {v x val : Value} {dst src : TypeId} {a b : Addr} {fl fl2 k : Nat} {w w' : World} (hp1 : (Extern.ReflectliteValue.parts v).run P w = .ok (some (dst, a, fl)) w) (hp2 : (Extern.ReflectliteValue.parts x).run P w = .ok (some (src, b, fl2)) w) (hfl : (fl / Extern.ReflectliteValue.flagAddr % 2 == 0) = false)
    (hl : (loadVar src b).run P w = .ok val w) (hd : (Extern.Rtype.directlyAssignable dst src).run P w = .ok false w) (hi : (Extern.Rtype.implements dst src).run P w = .ok true w) (hk : (Extern.Rtype.kind src).run P w = .ok k w) (hk2 : (k == 20) = false) (hst : (storeVar dst a (.iface src val)).run P w = .ok () w') : (Extern.ReflectliteValue.set #[v, x]).run P w = .ok (.tuple #[]) w' := by
  show Sem.run P (Extern.ReflectliteValue.parts v >>= _) w = _
  rw [Sem.run_bind, hp1]
  show Sem.run P (Extern.ReflectliteValue.parts x >>= _) w = _
  rw [Sem.run_bind, hp2]
  simp only [Result.andThen, hfl, Sem.run_bind, hl, hd, hi, hk, hk2, hst, Sem.run_pure, Bool.false_eq_true, if_false, if_true]
end
end Go.Proofs.YtjogjmffkmfmbaaGreatDoor
/- errors.as: a fault, to a place. -/
namespace Go.Proofs.YtjogjmffkmfmbaaGreatDoor
section
open Go Go.RowKit
set_option linter.unusedSimpArgs false
set_option linter.unusedVariables false
theorem Tryz.methodAssign (n : Nat) (v : Value) (w : World) : (Go.method (n + 1) 220 v "AssignableTo").run Tryz.prog w = .ok (255, v) w := by kernel_rfl
theorem Tryz.szAt : (Tryz.prog.info? 277).map (·.size) = some 1 := by kernel_rfl
theorem Tryz.szErrno : (Tryz.prog.info? 26).map (·.size) = some 1 := by kernel_rfl
theorem set_place {w : World} {p c b : Nat} {old : Value} (hc : w.cell? ⟨c, 0, none⟩ = some (.pointer (some ⟨b, 0, none⟩))) (ho : w.cell? ⟨p, 0, none⟩ = some old) (hf : w.frozen? ⟨p, 0, none⟩ = false) :
    (callFunc 229 #[.agg #[.pointer (some ⟨3, 277, none⟩), .pointer (some ⟨p, 0, none⟩), .int .u64 404], .agg #[.pointer (some ⟨3, 274, none⟩), .pointer (some ⟨c, 0, none⟩), .int .u64 150]]).run Tryz.prog w = .ok (.value (.tuple #[])) (w.setCell ⟨p, 0, none⟩ (.iface 274 (.pointer (some ⟨b, 0, none⟩)))) := by
  have h := @run_callFunc_extern Tryz.prog 229 _ Extern.ReflectliteValue.set Tryz.func229 (by kernel_rfl) (by kernel_rfl) (by kernel_rfl) (by kernel_rfl)
  have hd : ∀ w, (Extern.Rtype.directlyAssignable 277 274).run Tryz.prog w = .ok false w := fun w => by kernel_rfl
  have hi : ∀ w, (Extern.Rtype.implements 277 274).run Tryz.prog w = .ok true w := fun w => by kernel_rfl
  have hk : ∀ w, (Extern.Rtype.kind 274).run Tryz.prog w = .ok 22 w := fun w => by kernel_rfl
  rw [h, vset_iface (Tryz.partsP2 p w) (Tryz.partsF c w) (by decide) (run_loadVar_plain Tryz.underlying274 rfl hc) (hd w) (hi w) (hk w) (by decide) (run_storeVar rfl Tryz.szAt ho hf)]
  rfl
theorem set_errno {w : World} {p c : Nat} {n : Int} {old : Value} (hc : w.cell? ⟨c, 0, none⟩ = some (.int .i64 n)) (ho : w.cell? ⟨p, 0, none⟩ = some old) (hf : w.frozen? ⟨p, 0, none⟩ = false) :
    (callFunc 229 #[.agg #[.pointer (some ⟨3, 26, none⟩), .pointer (some ⟨p, 0, none⟩), .int .u64 386], .agg #[.pointer (some ⟨3, 26, none⟩), .pointer (some ⟨c, 0, none⟩), .int .u64 130]]).run Tryz.prog w = .ok (.value (.tuple #[])) (w.setCell ⟨p, 0, none⟩ (.int .i64 n)) := by
  have h := @run_callFunc_extern Tryz.prog 229 _ Extern.ReflectliteValue.set Tryz.func229 (by kernel_rfl) (by kernel_rfl) (by kernel_rfl) (by kernel_rfl)
  have hd : ∀ w, (Extern.Rtype.directlyAssignable 26 26).run Tryz.prog w = .ok true w := fun w => by kernel_rfl
  rw [h, vset_run (Tryz.partsE2 p w) (Tryz.partsN c w) (by decide) (run_loadVar_plain Tryz.underlying26 rfl hc) (hd w) (run_storeVar rfl Tryz.szErrno ho hf)]
  rfl
end
end Go.Proofs.YtjogjmffkmfmbaaGreatDoor
/- errors.as: a fault, to a place. -/
namespace Go.Proofs.YtjogjmffkmfmbaaGreatDoor
section
open Go Go.RowKit
set_option linter.unusedSimpArgs false
set_option linter.unusedVariables false
attribute [local go_sem] Oper.semAt_some
def vP (a : Nat) : Value := .agg #[.pointer (some ⟨3, 279, none⟩), .pointer (some ⟨a, 0, none⟩), .int .u64 150]
def AsPl (w : World) (p b : Nat) (e : Ending) (w' : World) : Prop := e = .returned (.bool true) ∧ Keeps (fun z => z = p) w w' ∧ Blk w' p (.cells #[.iface 274 (.pointer (some ⟨b, 0, none⟩))] 277)
set_option maxRecDepth 100000 in
set_option maxHeartbeats 2000000 in
theorem as_place (w : World) (a p b : Nat) (tg : Value) (hA : Blk w a (.cells #[.pointer (some ⟨p, 0, none⟩)] 279)) (hP : Blk w p (.cells #[.nilIface] 277)) :
    Calls Tryz.prog 224 #[.iface 274 (.pointer (some ⟨b, 0, none⟩)), tg, vP a, .iface 220 (.agg #[.pointer (some ⟨3, 277, none⟩)])] w (AsPl w p b) := by
  unfold vP
  obtain ⟨w1, hw1⟩ : ∃ w1, w1 = w.alloc (.cells #[.pointer (some ⟨3, 279, none⟩), .pointer (some ⟨a, 0, none⟩), .int .u64 150] 290) := ⟨_, rfl⟩
  have hx1 : Ext w w1 := by rw [hw1]; exact (ExtR w).alloc _
  have hA1 := hA.keeps hx1 (fun h => h)
  have hP1 := hP.keeps hx1 (fun h => h)
  have hT := Tryz.typeOfF (.pointer (some ⟨b, 0, none⟩))
  have hM := Tryz.methodAssign 435
  have hTo := Tryz.toAt
  have hVE : (callFunc 228 #[.agg #[.pointer (some ⟨3, 279, none⟩), .pointer (some ⟨a, 0, none⟩), .int .u64 150]]).run Tryz.prog w1 = _ := velem_run (run_loadVar_plain Tryz.underlying279 rfl (hA1.cell (i := 0) (by rfl))) (Tryz.partsP a) Tryz.elemP (Tryz.mkP p)
  have hVF := Tryz.valueOfF w1 b
  have hx2 : Ext w1 (w1.alloc (.cells #[.pointer (some ⟨b, 0, none⟩)] 274)) := (ExtR w1).alloc _
  have hP2 := hP1.keeps hx2 (fun h => h)
  have hB2 : Blk (w1.alloc (.cells #[.pointer (some ⟨b, 0, none⟩)] 274)) w1.heap.size (.cells #[.pointer (some ⟨b, 0, none⟩)] 274) := Blk.new w1 _
  have hS := set_place (b := b) (hB2.cell (i := 0) (by rfl)) (hP2.cell (i := 0) (by rfl)) hP2.frozen
  have HX := Lib.hid (And.intro (hx1.trans hx2) hP2)
  clear hA hP hA1 hP1 hx1 hx2 hP2 hB2
  rw [hw1] at hVE hVF hS HX
  rw [World.size_alloc] at hS
  clear hw1 w1
  go_enter Tryz.func224, Tryz.ntmps224
  go_wp2_with fail
  refine wp_loop_rounds 1 ?_
  rw [rounds_succ]
  go_wp2_with fail
  go_ret
  refine ⟨rfl, (HX.out.1.mono (fun z _ g => g.elim)).trans' (Keeps.oneSet _ _ _) (fun z _ g => g), HX.out.2.set_same (i := 0) _⟩
end
end Go.Proofs.YtjogjmffkmfmbaaGreatDoor
/- errors.as: a fault's errno. -/
namespace Go.Proofs.YtjogjmffkmfmbaaGreatDoor
section
open Go Go.RowKit
set_option linter.unusedSimpArgs false
set_option linter.unusedVariables false
attribute [local go_sem] Oper.semAt_some
theorem Tryz.noAsF (v : Value) (xT : TypeId) (w : World) : (Instr.typeAssert (.iface 274 v) xT 304 true).run Tryz.prog w = .ok (.tuple #[.nilIface, .bool false]) w := run_typeAssert_lacksB Tryz.underlying304 (by kernel_rfl) (by kernel_rfl) v xT w
def vE (a : Nat) : Value := .agg #[.pointer (some ⟨3, 280, none⟩), .pointer (some ⟨a, 0, none⟩), .int .u64 150]
/-- A fault that holds a fault. -/
def Fa2 (W : World) (b : Nat) : Prop := ∃ (c : Nat) (k l : Int), Blk W b (.cells #[.int .i64 k, .iface 274 (.pointer (some ⟨c, 0, none⟩))] 276) ∧ Blk W c (.cells #[.int .i64 l, malE] 276)
def AsEr (w : World) (p : Nat) (e : Ending) (w' : World) : Prop := e = .returned (.bool true) ∧ Keeps (fun z => z = p) w w' ∧ Blk w' p (.cells #[.int .i64 2] 26)
set_option maxRecDepth 100000 in
set_option maxHeartbeats 2000000 in
theorem as_errno (w : World) (a p b : Nat) (tg : Value) (n : Int) (hA : Blk w a (.cells #[.pointer (some ⟨p, 0, none⟩)] 280)) (hP : Blk w p (.cells #[.int .i64 n] 26)) (hF : Fa2 w b) :
    Calls Tryz.prog 224 #[.iface 274 (.pointer (some ⟨b, 0, none⟩)), tg, vE a, .iface 220 (.agg #[.pointer (some ⟨3, 26, none⟩)])] w (AsEr w p) := by
  obtain ⟨c, k, l, hF1, hF2⟩ := hF
  unfold vE
  obtain ⟨w1, hw1⟩ : ∃ w1, w1 = w.alloc (.cells #[.pointer (some ⟨3, 280, none⟩), .pointer (some ⟨a, 0, none⟩), .int .u64 150] 290) := ⟨_, rfl⟩
  have hx1 : Ext w w1 := by rw [hw1]; exact (ExtR w).alloc _
  have hA1 := hA.keeps hx1 (fun h => h)
  have hP1 := hP.keeps hx1 (fun h => h)
  have HU1 := Lib.hid (unwrap_c w1 b k _ (hF1.keeps hx1 (fun h => h)))
  have HU2 := Lib.hid (unwrap_c w1 c l _ (hF2.keeps hx1 (fun h => h)))
  have hT := fun x => Tryz.typeOfF x
  have hT2 := fun x => Tryz.typeOfN x
  have hM := Tryz.methodAssign 435
  have hTo := Tryz.toErr
  have hTo2 := Tryz.toErr2
  have nA := Tryz.noAsF
  have n2 := Tryz.hasUnwrapF
  have n3 := Tryz.methodUnwrapF 435
  have hq1 : ∀ (z : Nat) w, (binOp .eql 120 (.iface 274 (.pointer (some ⟨z, 0, none⟩))) .nilIface).run Tryz.prog w = .ok (.bool false) w := fun z w => by kernel_rfl
  have hq2 : ∀ w, (binOp .eql 120 malE .nilIface).run Tryz.prog w = .ok (.bool false) w := fun w => by kernel_rfl
  unfold malE at *
  have hVE : (callFunc 228 #[.agg #[.pointer (some ⟨3, 280, none⟩), .pointer (some ⟨a, 0, none⟩), .int .u64 150]]).run Tryz.prog w1 = _ := velem_run (run_loadVar_plain Tryz.underlying280 rfl (hA1.cell (i := 0) (by rfl))) (Tryz.partsE a) Tryz.elemE (Tryz.mkE p)
  have hVF := Tryz.valueOfN w1 2
  have hx2 : Ext w1 (w1.alloc (.cells #[.int .i64 2] 26)) := (ExtR w1).alloc _
  have hP2 := hP1.keeps hx2 (fun h => h)
  have hB2 : Blk (w1.alloc (.cells #[.int .i64 2] 26)) w1.heap.size (.cells #[.int .i64 2] 26) := Blk.new w1 _
  have hS := set_errno (n := 2) (hB2.cell (i := 0) (by rfl)) (hP2.cell (i := 0) (by rfl)) hP2.frozen
  have HX := Lib.hid (And.intro (hx1.trans hx2) hP2)
  clear hA hP hA1 hP1 hx1 hx2 hP2 hB2 hF1 hF2
  rw [hw1] at hVE hVF hS HX HU1 HU2
  rw [World.size_alloc] at hS
  clear hw1 w1
  go_enter Tryz.func224, Tryz.ntmps224
  go_wp2_with fail
  refine wp_loop_rounds 3 ?_
  rw [rounds_succ]
  go_wp2_with fail
  refine HU1.out.mono ?_
  rintro e w2 ⟨rfl, rfl⟩
  go_wp2_with fail
  rw [rounds_succ]
  go_wp2_with fail
  refine HU2.out.mono ?_
  rintro e w2 ⟨rfl, rfl⟩
  go_wp2_with fail
  rw [rounds_succ]
  go_wp2_with fail
  go_ret
  refine ⟨rfl, (HX.out.1.mono (fun z _ g => g.elim)).trans' (Keeps.oneSet _ _ _) (fun z _ g => g), HX.out.2.set_same (i := 0) _⟩
end
end Go.Proofs.YtjogjmffkmfmbaaGreatDoor
/- errors.As: a fault, to a place. -/
namespace Go.Proofs.YtjogjmffkmfmbaaGreatDoor
section
open Go Go.RowKit
set_option linter.unusedSimpArgs false
set_option linter.unusedVariables false
attribute [local go_sem] Oper.semAt_some
theorem Tryz.methodKind (n : Nat) (t : TypeId) (w : World) : (Go.method (n + 1) 220 (.agg #[.pointer (some ⟨3, t, none⟩)]) "Kind").run Tryz.prog w = .ok (248, .pointer (some ⟨3, t, none⟩)) w := by kernel_rfl
theorem Tryz.methodElem (n : Nat) (v : Value) (w : World) : (Go.method (n + 1) 220 v "Elem").run Tryz.prog w = .ok (257, v) w := by kernel_rfl
theorem Tryz.kindP (w : World) : (callFunc 248 #[.pointer (some ⟨3, 279, none⟩)]).run Tryz.prog w = .ok (.value (.int .u8 22)) w := by kernel_rfl
theorem Tryz.kindI (w : World) : (callFunc 248 #[.pointer (some ⟨3, 277, none⟩)]).run Tryz.prog w = .ok (.value (.int .u8 20)) w := by kernel_rfl
set_option maxRecDepth 100000 in
set_option maxHeartbeats 2000000 in
theorem As_place (w : World) (p b : Nat) (hP : Blk w p (.cells #[.nilIface] 277)) :
    Calls Tryz.prog 209 #[.iface 274 (.pointer (some ⟨b, 0, none⟩)), .iface 279 (.pointer (some ⟨p, 0, none⟩))] w (AsPl w p b) := by
  obtain ⟨w1, hw1⟩ : ∃ w1, w1 = w.alloc (.cells #[.pointer (some ⟨p, 0, none⟩)] 279) := ⟨_, rfl⟩
  have hx1 : Ext w w1 := by rw [hw1]; exact (ExtR w).alloc _
  have hA1 : Blk w1 w.heap.size (.cells #[.pointer (some ⟨p, 0, none⟩)] 279) := by rw [hw1]; exact Blk.new w _
  obtain ⟨w2, hw2⟩ : ∃ w2, w2 = w1.alloc (.cells #[.pointer (some ⟨3, 279, none⟩), .pointer (some ⟨w.heap.size, 0, none⟩), .int .u64 150] 290) := ⟨_, rfl⟩
  have hx2 : Ext w1 w2 := by rw [hw2]; exact (ExtR w1).alloc _
  have hA2 := hA1.keeps hx2 (fun h => h)
  have hP2 := (hP.keeps hx1 (fun h => h)).keeps hx2 (fun h => h)
  have HAS := Lib.hid (as_place w2 w.heap.size p b (.iface 279 (.pointer (some ⟨p, 0, none⟩))) hA2 hP2)
  have HX := Lib.hid (hx1.trans hx2)
  have hV := Tryz.valueOfP w p
  have hT := fun w => Tryz.typeOfVP w
  have hK := fun t w => Tryz.methodKind 435 t w
  have hEl := fun v w => Tryz.methodElem 435 v w
  have hk1 := Tryz.kindP
  have hk2 := Tryz.kindI
  have hel := Tryz.elemTP
  have hN : (callFunc 223 #[.agg #[.pointer (some ⟨3, 279, none⟩), .pointer (some ⟨w.heap.size, 0, none⟩), .int .u64 150]]).run Tryz.prog w2 = _ := isNil_run (run_loadVar_plain Tryz.underlying279 rfl (hA2.cell (i := 0) (by rfl))) (Tryz.partsP w.heap.size)
  have hq1 : ∀ w, (binOp .eql 120 (.iface 274 (.pointer (some ⟨b, 0, none⟩))) .nilIface).run Tryz.prog w = .ok (.bool false) w := fun w => by kernel_rfl
  have hq2 : ∀ w, (binOp .eql 20 (.iface 279 (.pointer (some ⟨p, 0, none⟩))) .nilIface).run Tryz.prog w = .ok (.bool false) w := fun w => by kernel_rfl
  unfold vP at HAS
  clear hx1 hx2 hA1 hA2 hP2 hP
  rw [hw2, hw1] at HAS HX hN
  clear hw1 hw2 w1 w2
  go_enter Tryz.func209, Tryz.ntmps209
  go_wp2_with fail
  refine HAS.out.mono ?_
  rintro e w3 ⟨rfl, hk, hB⟩
  have HK := Lib.hid (And.intro hk hB)
  clear hk hB
  go_wp2_with fail
  go_ret
  exact ⟨rfl, (HX.out.mono (fun z _ g => g.elim)).trans' HK.out.1 (fun z _ g => g), HK.out.2⟩
end
end Go.Proofs.YtjogjmffkmfmbaaGreatDoor
/- errors.As: the errno of a fault that holds a fault. -/
namespace Go.Proofs.YtjogjmffkmfmbaaGreatDoor
section
open Go Go.RowKit
set_option linter.unusedSimpArgs false
set_option linter.unusedVariables false
attribute [local go_sem] Oper.semAt_some
/-- What the laid variable errors.errorType is. -/
def ErrT (w : World) : Prop := w.cell? ⟨1, 0, none⟩ = some (.iface 220 (.agg #[.pointer (some ⟨3, 120, none⟩)]))
theorem ErrT.ext {w w' : World} (h : ErrT w) (k : Ext w w') : ErrT w' := cell_ext h k
theorem Fa2.ext {w w' : World} {b : Nat} (h : Fa2 w b) (k : Ext w w') : Fa2 w' b := by
  obtain ⟨c, x, y, h1, h2⟩ := h
  exact ⟨c, x, y, h1.keeps k (fun h => h), h2.keeps k (fun h => h)⟩
theorem Tryz.methodImpl (n : Nat) (v : Value) (w : World) : (Go.method (n + 1) 220 v "Implements").run Tryz.prog w = .ok (258, v) w := by kernel_rfl
theorem Tryz.implN (w : World) : (callFunc 258 #[.agg #[.pointer (some ⟨3, 26, none⟩)], .iface 220 (.agg #[.pointer (some ⟨3, 120, none⟩)])]).run Tryz.prog w = .ok (.value (.bool true)) w := by kernel_rfl
theorem Tryz.kindE (w : World) : (callFunc 248 #[.pointer (some ⟨3, 280, none⟩)]).run Tryz.prog w = .ok (.value (.int .u8 22)) w := by kernel_rfl
theorem Tryz.kindN (w : World) : (callFunc 248 #[.pointer (some ⟨3, 26, none⟩)]).run Tryz.prog w = .ok (.value (.int .u8 2)) w := by kernel_rfl
set_option maxRecDepth 100000 in
set_option maxHeartbeats 2000000 in
theorem As_errno (w : World) (p b : Nat) (n : Int) (hG : ErrT w) (hF : Fa2 w b) (hP : Blk w p (.cells #[.int .i64 n] 26)) :
    Calls Tryz.prog 209 #[.iface 274 (.pointer (some ⟨b, 0, none⟩)), .iface 280 (.pointer (some ⟨p, 0, none⟩))] w (AsEr w p) := by
  obtain ⟨w1, hw1⟩ : ∃ w1, w1 = w.alloc (.cells #[.pointer (some ⟨p, 0, none⟩)] 280) := ⟨_, rfl⟩
  have hx1 : Ext w w1 := by rw [hw1]; exact (ExtR w).alloc _
  have hA1 : Blk w1 w.heap.size (.cells #[.pointer (some ⟨p, 0, none⟩)] 280) := by rw [hw1]; exact Blk.new w _
  obtain ⟨w2, hw2⟩ : ∃ w2, w2 = w1.alloc (.cells #[.pointer (some ⟨3, 280, none⟩), .pointer (some ⟨w.heap.size, 0, none⟩), .int .u64 150] 290) := ⟨_, rfl⟩
  have hx2 : Ext w1 w2 := by rw [hw2]; exact (ExtR w1).alloc _
  have hA2 := hA1.keeps hx2 (fun h => h)
  have hP2 := (hP.keeps hx1 (fun h => h)).keeps hx2 (fun h => h)
  have HAS := Lib.hid (as_errno w2 w.heap.size p b (.iface 280 (.pointer (some ⟨p, 0, none⟩))) n hA2 hP2 ((hF.ext hx1).ext hx2))
  have HX := Lib.hid (hx1.trans hx2)
  have hV := Tryz.valueOfE w p
  have hT := fun w => Tryz.typeOfVE w
  have hK := fun t w => Tryz.methodKind 435 t w
  have hEl := fun v w => Tryz.methodElem 435 v w
  have hk1 := Tryz.kindE
  have hk2 := Tryz.kindN
  have hel := Tryz.elemTE
  have hN : (callFunc 223 #[.agg #[.pointer (some ⟨3, 280, none⟩), .pointer (some ⟨w.heap.size, 0, none⟩), .int .u64 150]]).run Tryz.prog w2 = _ := isNil_run (run_loadVar_plain Tryz.underlying280 rfl (hA2.cell (i := 0) (by rfl))) (Tryz.partsE w.heap.size)
  have hq1 : ∀ w, (binOp .eql 120 (.iface 274 (.pointer (some ⟨b, 0, none⟩))) .nilIface).run Tryz.prog w = .ok (.bool false) w := fun w => by kernel_rfl
  have hq2 : ∀ w, (binOp .eql 20 (.iface 280 (.pointer (some ⟨p, 0, none⟩))) .nilIface).run Tryz.prog w = .ok (.bool false) w := fun w => by kernel_rfl
  unfold vE at HAS
  have hG2 : w2.cell? ⟨1, 0, none⟩ = some (.iface 220 (.agg #[.pointer (some ⟨3, 120, none⟩)])) := cell_ext hG (hx1.trans hx2)
  have hIm := Tryz.implN
  have hMI := fun v w => Tryz.methodImpl 435 v w
  clear hx1 hx2 hA1 hA2 hP2 hP hG hF
  rw [hw2, hw1] at HAS HX hN hG2
  clear hw1 hw2 w1 w2
  go_enter Tryz.func209, Tryz.ntmps209
  go_wp2_with fail
  refine HAS.out.mono ?_
  rintro e w3 ⟨rfl, hk, hB⟩
  have HK := Lib.hid (And.intro hk hB)
  clear hk hB
  go_wp2_with fail
  go_ret
  exact ⟨rfl, (HX.out.mono (fun z _ g => g.elim)).trans' HK.out.1 (fun z _ g => g), HK.out.2⟩
end
end Go.Proofs.YtjogjmffkmfmbaaGreatDoor
/- node: Valid of a node that was read, whether it may be or not. -/
namespace Go.Proofs.YtjogjmffkmfmbaaGreatDoor
section
open Go Go.RowKit
set_option linter.unusedSimpArgs false
set_option linter.unusedVariables false
attribute [local go_sem] Oper.semAt_some
set_option maxRecDepth 100000 in
set_option maxHeartbeats 2000000 in
theorem valid_kb (b : Bool) (w : World) (hG : ErrT w) (n : NodeT) (hr : n.refs.length = 16) (hk : n.kind ≤ 3) (f : FuncId) (hf : [fnV 134, fnV 135, fnV 136, fnV 137][n.kind]? = some (fnV f))
    (eg : ∀ args w, (callFunc f args).run Tryz.prog w = .ok (.enter f args) w) (hc : ∀ w, ErrT w → Calls Tryz.prog f #[n.V] w fun e w' => e = .returned (.bool b) ∧ Ext w w') :
    Calls Tryz.prog 90 #[n.V] w fun e w' => e = .returned (.bool b) ∧ Ext w w' := by
  have e0 : n.cells[0]? = some (.int .i64 (n.kind : Int)) := rfl
  have c0 : ¬ (n.kind : Int) < 0 := by omega
  have c1 : ¬ (3 : Int) < (n.kind : Int) := by omega
  have c2 : (n.kind : Int) < 4 := by omega
  have HF := Lib.hid hf
  have HC := Lib.hid hc
  have HR := Lib.hid hr
  have HG := Lib.hid hG
  clear hf hc hr hG
  unfold NodeT.V
  go_enter Tryz.func90, Tryz.ntmps90
  go_wp2_with (refine wpList_new Tryz.allocTabV rfl rfl ?_; intro W1 hB1 hE1; refine wpList_fill (vs := [fnV 134, fnV 135, fnV 136, fnV 137]) rfl rfl rfl rfl hB1 rfl Tryz.szTabV (by simp [fnV, Value.oneCell']) ?_; intro W2 hB2 hE2; have q0 : W2.cell? ⟨w.heap.size, 0, none⟩ = some (.int .i64 (n.kind : Int)) := (((Blk.new w (.cells n.cells.toArray 108)).keeps hE1 (fun h => h)).keeps hE2 (by rw [World.size_alloc]; omega)).cellL e0)
  have qt : W2.cell? ⟨w.heap.size + 1, n.kind, none⟩ = some (fnV f) := by
    have := hB2.cellL HF.out
    rwa [World.size_alloc] at this
  have hbn := ((Blk.new w (.cells n.cells.toArray 108)).keeps hE1 (fun h => h)).keeps hE2 (by rw [World.size_alloc]; omega)
  have QT := Lib.hid qt
  have Q0 := Lib.hid q0
  have HBN := Lib.hid hbn
  have HE := Lib.hid ((((ExtR w).alloc (.cells n.cells.toArray 108)).trans hE1).trans' hE2 (fun x hx e => by have e : x = (w.alloc (.cells n.cells.toArray 108)).heap.size := e; rw [World.size_alloc] at e; omega))
  clear hB1 hE1 hB2 hE2 q0 qt hbn
  refine wp_region_mixK [0,1,2,3,4,5,6] Ext ExtR ExtT (by kernel_rfl) (by kernel_rfl) (by kernel_rfl) ?_
  iterate 1 (refine mixk_pure _ rfl (by kernel_rfl) rfl rfl (fun K hK => ?_); go_big_quiet_op; refine hK _ ?_; clear hK K)
  refine mixk_load ⟨w.heap.size, 0, none⟩ _ rfl (by kernel_rfl) rfl rfl (fun w2 h2 => run_load_plain Tryz.uKind rfl (cell_ext (by exact Q0.out) h2)) ?_
  simp only [Act.put, List.setIfInBounds_toArray, List.set_cons_zero, List.set_cons_succ]
  iterate 1 (refine mixk_pure _ rfl (by kernel_rfl) rfl rfl (fun K hK => ?_); go_big_quiet_op; refine hK _ ?_; clear hK K)
  refine mixk_load ⟨w.heap.size + 1, n.kind, none⟩ _ rfl (by kernel_rfl) rfl rfl (fun w2 h2 => run_load_na Tryz.aggV (cell_ext (by exact QT.out) h2)) ?_
  simp only [Act.put, List.setIfInBounds_toArray, List.set_cons_zero, List.set_cons_succ]
  refine mixk_load ⟨w.heap.size, 0, none⟩ _ rfl (by kernel_rfl) rfl rfl (fun w2 h2 => run_load_api w2 _ n HR.out (HBN.out.keeps ((drewE W2).trans h2) (fun h => h))) ?_
  simp only [Act.put, List.setIfInBounds_toArray, List.set_cons_zero, List.set_cons_succ]
  refine mixk_call _ f #[n.V] (.bool b) rfl (by kernel_rfl) rfl (fun w1 => exec_callv0 rfl eg rfl) (fun w1 h1 => HC.out w1 (HG.out.ext (HE.out.trans ((drewE W2).trans h1)))) ?_
  simp only [Act.put, List.setIfInBounds_toArray, List.set_cons_zero, List.set_cons_succ]
  iterate 1 (refine mixk_pure _ rfl (by kernel_rfl) rfl rfl (fun K hK => ?_); go_big_quiet_op; refine hK _ ?_; clear hK K)
  refine mixk_end (by kernel_rfl) (fun w3 he => ?_)
  go_wp2_with fail
  go_ret
  exact ⟨rfl, HE.out.trans ((drewE W2).trans he)⟩
set_option maxRecDepth 100000 in
set_option maxHeartbeats 1000000 in
theorem leaf_nopath (w : World) (n : NodeT) (hr : n.refs.length = 16) (hps : n.path.size ≤ 1000000) (hp : n.pathOk 0 = false) : Calls Tryz.prog 135 #[n.V] w fun e w' => e = .returned (.bool false) ∧ Ext w w' := by
  have hld := run_load_box w n hr
  have HP := Lib.hid hp
  clear hp
  unfold NodeT.V at hld ⊢
  go_enter Tryz.func135, Tryz.ntmps135
  go_wp2_with (refine wpList_load_known 154 (.tmp 1) rfl rfl _ _ rfl hld ?_)
  refine (npath_c _ n hr 0 hps).mono ?_
  rintro e w1 ⟨rfl, hE⟩
  rw [HP.out]
  have HE1 := Lib.hid (((ExtR w).alloc _).trans hE)
  clear hld hE
  go_wp2_with fail
  go_ret
  exact ⟨rfl, HE1.out⟩
set_option maxRecDepth 100000 in
set_option maxHeartbeats 1000000 in
theorem leaf_novalue (w : World) (n : NodeT) (hr : n.refs.length = 16) (hps : n.path.size ≤ 1000000) (hp : n.pathOk 0 = true) (h0 : n.value = ⟨#[]⟩) : Calls Tryz.prog 135 #[n.V] w fun e w' => e = .returned (.bool false) ∧ Ext w w' := by
  have hld := run_load_box w n hr
  have e2 : n.cells[2]? = some (.string ⟨#[]⟩) := by rw [← h0]; rfl
  have HP := Lib.hid hp
  clear hp h0
  unfold NodeT.V at hld ⊢
  go_enter Tryz.func135, Tryz.ntmps135
  go_wp2_with (refine wpList_load_known 154 (.tmp 1) rfl rfl _ _ rfl hld ?_)
  refine (npath_c _ n hr 0 hps).mono ?_
  rintro e w1 ⟨rfl, hE⟩
  rw [HP.out]
  have B1 := (Blk.new w (.cells n.cells.toArray 154)).keeps hE (fun h => h)
  have q2 := B1.cellL e2
  have HE1 := Lib.hid (((ExtR w).alloc _).trans hE)
  clear hld hE B1
  go_wp2_with fail
  go_ret
  exact ⟨rfl, HE1.out⟩
set_option maxRecDepth 100000 in
set_option maxHeartbeats 1000000 in
theorem leaf_nolen (w : World) (n : NodeT) (hr : n.refs.length = 16) (hps : n.path.size ≤ 1000000) (hp : n.pathOk 0 = true) (h8 : 80 < n.value.size) (h9 : n.value.size ≤ 1000000000) : Calls Tryz.prog 135 #[n.V] w fun e w' => e = .returned (.bool false) ∧ Ext w w' := by
  have hld := run_load_box w n hr
  have e2 : n.cells[2]? = some (.string n.value) := rfl
  have hne := ne_empty (s := n.value) (by omega)
  have c1 : ¬ (n.value.size : Int) ≤ 80 := by omega
  have HP := Lib.hid hp
  clear hp
  unfold NodeT.V at hld ⊢
  go_enter Tryz.func135, Tryz.ntmps135
  go_wp2_with (refine wpList_load_known 154 (.tmp 1) rfl rfl _ _ rfl hld ?_)
  refine (npath_c _ n hr 0 hps).mono ?_
  rintro e w1 ⟨rfl, hE⟩
  rw [HP.out]
  have B1 := (Blk.new w (.cells n.cells.toArray 154)).keeps hE (fun h => h)
  have q2 := B1.cellL e2
  have HE1 := Lib.hid (((ExtR w).alloc _).trans hE)
  clear hld hE B1
  go_wp2_with fail
  go_ret
  exact ⟨rfl, HE1.out⟩
set_option maxRecDepth 100000 in
set_option maxHeartbeats 1000000 in
theorem ext_nopath (w : World) (n : NodeT) (hr : n.refs.length = 16) (hps : n.path.size ≤ 1000000) (hp : n.pathOk 1 = false) : Calls Tryz.prog 136 #[n.V] w fun e w' => e = .returned (.bool false) ∧ Ext w w' := by
  have hld := run_load_box w n hr
  have HP := Lib.hid hp
  clear hp
  unfold NodeT.V at hld ⊢
  go_enter Tryz.func136, Tryz.ntmps136
  go_wp2_with (refine wpList_load_known 154 (.tmp 1) rfl rfl _ _ rfl hld ?_)
  refine (npath_c _ n hr 1 hps).mono ?_
  rintro e w1 ⟨rfl, hE⟩
  rw [HP.out]
  have HE1 := Lib.hid (((ExtR w).alloc _).trans hE)
  clear hld hE
  go_wp2_with fail
  go_ret
  exact ⟨rfl, HE1.out⟩
set_option maxRecDepth 100000 in
set_option maxHeartbeats 2000000 in
/-- An Ext whose ref is no hash: what it holds, or does not. -/
theorem ext_noref (w : World) (hG : ErrT w) (n : NodeT) (r : ByteArray) (m : NodeT) (ok : Bool) (hr : n.refs.length = 16) (hp : n.pathOk 1 = true) (h0 : n.value = ⟨#[]⟩) (hb : n.behindN = 1) (h3 : n.refs[0]? = some r) (hs : r.size ≤ 1000000000) (hh : hashA r = none) (hml : m.refs.length = 16)
    (hI : ∀ w, ErrT w → Calls Tryz.prog 128 #[.string r] w fun e w' => e = .returned (.tuple #[m.V, .bool ok]) ∧ Ext w w') (hk : ok = true → m.kind ≠ 3) : Calls Tryz.prog 136 #[n.V] w fun e w' => e = .returned (.bool false) ∧ Ext w w' := by
  have hps : n.path.size ≤ 1000000 := by
    simp only [NodeT.pathOk, Bool.and_eq_true, decide_eq_true_eq] at hp; omega
  have hld := run_load_box w n hr
  have e2 : n.cells[2]? = some (.string ⟨#[]⟩) := by rw [← h0]; rfl
  have e3 : n.cells[3]? = some (.string r) := by
    show (n.refs.map Value.string)[0]? = _
    rw [List.getElem?_map, h3]; rfl
  have HP := Lib.hid hp
  have HB := Lib.hid hb
  have E3 := Lib.hid e3
  have HH := Lib.hid hh
  have HI := Lib.hid hI
  have HRL := Lib.hid hml
  have HK := Lib.hid hk
  have HG := Lib.hid hG
  clear hp hb h0 h3 e3 hh hI hml hk hG
  unfold NodeT.V at hld ⊢
  go_enter Tryz.func136, Tryz.ntmps136
  go_wp2_with (refine wpList_load_known 154 (.tmp 1) rfl rfl _ _ rfl hld ?_)
  refine (npath_c _ n hr 1 hps).mono ?_
  rintro e w1 ⟨rfl, hE⟩
  rw [HP.out]
  have B1 := (Blk.new w (.cells n.cells.toArray 154)).keeps hE (fun h => h)
  have q2 := B1.cellL e2
  have hld1 := run_load_node w1 _ n hr B1
  have HE1 := Lib.hid (((ExtR w).alloc _).trans hE)
  have HB1 := Lib.hid B1
  unfold NodeT.V at hld1
  clear hld hE B1
  go_wp2_with (refine wpList_load_known 154 (.tmp 1) rfl rfl _ _ rfl hld1 ?_)
  refine (behind_c _ n hr).mono ?_
  rintro e w2 ⟨rfl, hE⟩
  rw [HB.out]
  have B2 := HB1.out.keeps hE (fun h => h)
  have HE2 := Lib.hid (HE1.out.trans hE)
  have q3 := B2.cellL E3.out
  have HB2 := Lib.hid B2
  clear hld1 hE q2 B2 HB1 HE1
  go_wp2_with fail
  refine (hash_any w2 r hs).mono ?_
  rintro e w3 ⟨rfl, hE⟩
  rw [HH.out]
  have B3 := HB2.out.keeps hE (fun h => h)
  have HE := Lib.hid (HE2.out.trans hE)
  have q3' := B3.cellL E3.out
  clear hE q3 B3
  unfold optV
  simp only
  go_wp2_with fail
  refine (HI.out w3 (HG.out.ext HE.out)).mono ?_
  rintro e w4 ⟨rfl, hE2⟩
  have HE2 := Lib.hid (HE.out.trans hE2)
  clear hE2 q3'
  unfold NodeT.V
  cases ok with
  | false =>
    go_wp2_with (refine wpList_new Tryz.allocNode rfl rfl ?_; intro W3 hB hE3; refine wpList_fill (vs := m.cells) rfl rfl rfl rfl hB (by rw [m.cells_len HRL.out]; rfl) (by rw [m.cells_len HRL.out]; exact Tryz.szNode) m.one ?_; intro W4 hB4 hE4)
    have hE5 : Ext w4 W4 := hE3.trans' hE4 (fun x hx e => by have e : x = w4.heap.size := e; omega)
    have HE5 := Lib.hid (HE2.out.trans hE5)
    go_ret
    exact ⟨rfl, HE5.out⟩
  | true =>
    have hk3 : ((m.kind : Int) == 3) = false := by have := HK.out rfl; simp; omega
    go_wp2_with (refine wpList_new Tryz.allocNode rfl rfl ?_; intro W3 hB hE3; refine wpList_fill (vs := m.cells) rfl rfl rfl rfl hB (by rw [m.cells_len HRL.out]; rfl) (by rw [m.cells_len HRL.out]; exact Tryz.szNode) m.one ?_; intro W4 hB4 hE4; have q0 : W4.cell? ⟨w4.heap.size, 0, none⟩ = some (.int .i64 (m.kind : Int)) := hB4.cellL (by rfl))
    have hE5 : Ext w4 W4 := hE3.trans' hE4 (fun x hx e => by have e : x = w4.heap.size := e; omega)
    have HE5 := Lib.hid (HE2.out.trans hE5)
    go_ret
    exact ⟨rfl, HE5.out⟩
/-- What may tells. -/
def MayD (b : Bool) (r : ByteArray) : Prop := ∀ w, ErrT w → Calls Tryz.prog 186 #[.string r] w fun e w' => e = .returned (.bool b) ∧ Ext w w'
set_option maxRecDepth 100000 in
set_option maxHeartbeats 1000000 in
theorem may_no (r : ByteArray) (hs : r.size ≤ 1000000000) (hh : hashA r = none) (hI : ∀ w, ErrT w → Calls Tryz.prog 128 #[.string r] w fun e w' => e = .returned (.tuple #[emptyN.V, .bool false]) ∧ Ext w w') : MayD false r := fun w hG => by
  have HG := Lib.hid hG
  clear hG
  have HH := Lib.hid hh
  have HI := Lib.hid hI
  clear hh hI
  go_enter Tryz.func186, Tryz.ntmps186
  go_wp2_with fail
  refine (hash_any w r hs).mono ?_
  rintro e w1 ⟨rfl, hE⟩
  rw [HH.out]
  have HE := Lib.hid hE
  clear hE
  unfold optV
  simp only
  go_wp2_with fail
  refine (HI.out w1 (HG.out.ext HE.out)).mono ?_
  rintro e w2 ⟨rfl, hE2⟩
  have HE2 := Lib.hid (HE.out.trans hE2)
  clear hE2
  unfold NodeT.V
  go_wp2_with (refine wpList_new Tryz.allocNode rfl rfl ?_; intro W3 hB hE3; refine wpList_fill (vs := emptyN.cells) rfl rfl rfl rfl hB rfl Tryz.szNode emptyN.one ?_; intro W4 hB4 hE4)
  have hE5 : Ext w2 W4 := hE3.trans' hE4 (fun x hx e => by have e : x = w2.heap.size := e; omega)
  go_ret
  exact ⟨rfl, HE2.out.trans hE5⟩
set_option maxRecDepth 100000 in
set_option maxHeartbeats 1000000 in
theorem branch_nolen (w : World) (n : NodeT) (hp : n.path = ⟨#[]⟩) (h8 : 80 < n.value.size) (h9 : n.value.size ≤ 1000000000) : Calls Tryz.prog 137 #[n.V] w fun e w' => e = .returned (.bool false) ∧ Ext w w' := by
  have e1 : n.cells[1]? = some (.string ⟨#[]⟩) := by rw [← hp]; rfl
  have e2 : n.cells[2]? = some (.string n.value) := rfl
  have c1 : (80 : Int) < (n.value.size : Int) := by omega
  clear hp
  unfold NodeT.V
  rw [← callsIn_wide (n := 0)]
  refine callsIn_of_wp_marks Tryz.func137 rfl trivial ?_ rfl
  simp only [Tryz.ntmps137, List.size_toArray, List.length_cons, List.length_nil, Nat.reduceAdd, Nat.reduceSub, Array.replicate_succ, Array.replicate_zero, List.push_toArray, List.append_toArray, List.nil_append, List.cons_append]
  have hE2 : Ext w ((w.alloc (.cells n.cells.toArray 154)).alloc (.cells #[.bool false] 4)) := ((ExtR w).alloc _).alloc _
  have hB := Blk.new (w.alloc (.cells n.cells.toArray 154)) (.cells #[.bool false] 4)
  rw [World.size_alloc] at hB
  have c2 := hB.cell (i := 0) (v := .bool false) (by rfl)
  have HX := Lib.hid (And.intro hE2 c2)
  clear hE2 hB c2
  gi_wp2
  have c2 := HX.out.2
  exact ⟨.bool false, by simp [results, Tryz.results137, go_sem, c2], rfl, HX.out.1⟩
/-- Whether a Branch of these refs may be. -/
def braN (M : ByteArray → Bool) (n : NodeT) : Bool := decide (2 ≤ min n.value.size 1 + n.refsL.length) && n.refsL.all fun x => M x.2
set_option maxRecDepth 100000 in
set_option maxHeartbeats 2000000 in
theorem branch_b (w : World) (hG : ErrT w) (n : NodeT) (hr : n.refs.length = 16) (hp : n.path = ⟨#[]⟩) (h8 : n.value.size ≤ 80) (M : ByteArray → Bool) (hm : ∀ r ∈ n.refs, r.size ≠ 0 → MayD (M r) r) : Calls Tryz.prog 137 #[n.V] w fun e w' => e = .returned (.bool (braN M n)) ∧ Ext w w' := by
  have HG := Lib.hid hG
  clear hG
  have e1 : n.cells[1]? = some (.string ⟨#[]⟩) := by rw [← hp]; rfl
  have e2 : n.cells[2]? = some (.string n.value) := rfl
  have c1 : ¬ (80 : Int) < (n.value.size : Int) := by omega
  obtain ⟨c, hc⟩ : ∃ c, c = min n.value.size 1 := ⟨_, rfl⟩
  have hci : min (n.value.size : Int) 1 = (c : Int) := by omega
  obtain ⟨R, hR⟩ : ∃ R, R = braN M n := ⟨_, rfl⟩
  rw [← hR]
  have HB := Lib.hid (show R = (decide (2 ≤ c + n.refsL.length) && n.refsL.all fun x => M x.2) from by rw [hR]; unfold braN; rw [hc])
  clear hR
  have HC := Lib.hid hci
  clear hp hc hci
  rw [← callsIn_wide (n := 0)]
  refine callsIn_of_wp_marks Tryz.func137 rfl trivial ?_ rfl
  simp only [Tryz.ntmps137, List.size_toArray, List.length_cons, List.length_nil, Nat.reduceAdd, Nat.reduceSub, Array.replicate_succ, Array.replicate_zero, List.push_toArray, List.append_toArray, List.nil_append, List.cons_append]
  obtain ⟨W0, hW0⟩ : ∃ W0, W0 = ((w.alloc (.cells n.cells.toArray 154)).alloc (.cells #[.bool false] 4)).alloc (.cells #[.int .i64 (min (n.value.size : Int) 1)] 3) := ⟨_, rfl⟩
  have B0 : Blk W0 w.heap.size (.cells n.cells.toArray 154) := by rw [hW0]; exact ((Blk.new w _).alloc _).alloc _
  have B1 : Blk W0 (w.heap.size + 1) (.cells #[.bool false] 4) := by
    rw [hW0]; have := (Blk.new (w.alloc (.cells n.cells.toArray 154)) (.cells #[.bool false] 4)).alloc (.cells #[.int .i64 (min (n.value.size : Int) 1)] 3); rwa [World.size_alloc] at this
  have B2 : Blk W0 (w.heap.size + 1 + 1) (.cells #[.int .i64 (c : Int)] 3) := by
    rw [hW0, ← HC.out]; have := Blk.new ((w.alloc (.cells n.cells.toArray 154)).alloc (.cells #[.bool false] 4)) (.cells #[.int .i64 (min (n.value.size : Int) 1)] 3); rwa [World.size_alloc, World.size_alloc] at this
  have E0 : Ext w W0 := by rw [hW0]; exact (((ExtR w).alloc _).alloc _).alloc _
  have hs0 : W0.heap.size = w.heap.size + 3 := by rw [hW0]; simp
  have hld := run_load_node W0 _ n hr B0
  rw [hW0] at hld
  have HW0 := Lib.hid hW0
  have HE0 := Lib.hid E0
  have HB0 := Lib.hid B0
  have HB1 := Lib.hid B1
  have HB2 := Lib.hid B2
  have HS0 := Lib.hid hs0
  clear hW0 E0 B0 B1 B2 hs0
  unfold NodeT.V at hld ⊢
  gi_wp2_with (refine wpListIn_load_known rfl 154 (.tmp 1) rfl _ _ rfl hld ?_)
  refine ⟨trivial, rfl, CallsIn.mono (callsIn_wide.2 (refs_c _ n)) ?_⟩
  rintro e w1 ⟨rfl, hbn, hE⟩
  rw [← HW0.out] at hbn hE ⊢
  rw [HS0.out] at hbn ⊢
  have hC0 : BraC w w.heap.size (w.heap.size + 1) (w.heap.size + 1 + 1) (w.heap.size + 3) n c 0 w1 ∧ (∀ j, j < 0 → M (n.rr j) = true) := ⟨⟨HE0.out.trans hE, HB1.out.keeps hE (fun h => h), HB0.out.keeps hE (fun h => h), HB2.out.keeps hE (fun h => h), hbn⟩, fun j hj => by omega⟩
  have hl1 := hbn.lt
  have HC0 := Lib.hid hC0
  have hcc : c ≤ 1 := by have := HC.out; omega
  clear hbn hE hld hC0 HW0 HE0 HB0 HB1 HB2 HS0
  gi_wp2_with fail
  refine wp_rangeE (N := n.refsL.length) (gf := 177) (lb := #[.pointer (some ⟨w.heap.size + 3, 0, none⟩)]) rfl Tryz.enterRefs1 (refs_it (w.heap.size + 3) n hr)
    (fun k => rfl) (fun k W => BraC w w.heap.size (w.heap.size + 1) (w.heap.size + 1 + 1) (w.heap.size + 3) n c k W ∧ ∀ j, j < k → M (n.rr j) = true) (fun cd k W => cd = .ret ∧ M (n.rr (k - 1)) = false ∧ BraC w w.heap.size (w.heap.size + 1) (w.heap.size + 1 + 1) (w.heap.size + 3) n c (k - 1) W)
    (fun k W W' h e => ⟨⟨h.1.ext.trans e, h.1.res.keeps e (fun h => h), h.1.node.keeps e (fun h => h), h.1.full.keeps e (fun h => h), h.1.it.keeps e (fun h => h)⟩, h.2⟩)
    (fun cd k W W' h e => ⟨h.1, h.2.1, ⟨h.2.2.ext.trans e, h.2.2.res.keeps e (fun h => h), h.2.2.node.keeps e (fun h => h), h.2.2.full.keeps e (fun h => h), h.2.2.it.keeps e (fun h => h)⟩⟩) (fun k W h => h.1.it)
    (fun k W o h => ⟨⟨h.1.ext.putObj (.inr (by omega)) _, h.1.res.put_other (by omega) _, h.1.node.put_other (by omega) _, h.1.full.put_other (by omega) _, h.1.it.put_other (by omega) _⟩, h.2⟩)
    (fun k W o h => ⟨⟨h.1.ext.putObj (.inr (by omega)) _, h.1.res.put_other (by omega) _, h.1.node.put_other (by omega) _, h.1.full.put_other (by omega) _, h.1.it.put_other (by omega) _⟩, h.2⟩)
    (fun cd k W o h => ⟨h.1, h.2.1, ⟨h.2.2.ext.putObj (.inr (by omega)) _, h.2.2.res.put_other (by omega) _, h.2.2.node.put_other (by omega) _, h.2.2.full.put_other (by omega) _, h.2.2.it.put_other (by omega) _⟩⟩)
    HC0.out (fun k => { tmps := #[.agg n.cells.toArray, .pointer (some ⟨w.heap.size, 0, none⟩), .pointer (some ⟨w.heap.size + 1, 0, none⟩), .pointer (some ⟨w.heap.size + 1 + 1, 0, none⟩), undef, .string (n.rr k), .pointer (some ⟨w.heap.size, 1, none⟩), .string ⟨#[]⟩, .bool false, .bool false, .pointer (some ⟨w.heap.size, 2, none⟩), .string n.value, .int .i64 n.value.size, .bool false, .bool false, .pointer (some ⟨w.heap.size, 2, none⟩), .string n.value, .int .i64 n.value.size, .int .i64 (min (n.value.size : Int) 1), .agg n.cells.toArray, .func (.func 177) #[] #[.pointer (some ⟨w.heap.size + 3, 0, none⟩)], .int .i64 (n.ri k : Nat), .string (n.rr k), undef, undef, undef, undef, undef, undef, undef], defers := [] })
    ?hassign ?hbody ?hdone ?hstop
  case hassign =>
    intro l j W K hK
    rw [rv_eq, fold2]
    simp only [List.set_cons_zero, List.set_cons_succ]
    gi_wp2
    exact hK
  case hbody =>
    intro l k W hk h hlt
    obtain ⟨h, hall⟩ := h
    have hri := ri_lt n hr hk
    have hmay := hm _ (List.mem_of_getElem? hri.2.1) hri.2.2
    have hk16 : k < 16 := Nat.lt_of_lt_of_le hk (by
      have : ∀ (l : List ByteArray) (i : Nat), (refsFrom i l).length ≤ l.length := by
        intro l
        induction l with
        | nil => intro i; simp [refsFrom]
        | cons x r ih => intro i; unfold refsFrom; split <;> simp <;> have := ih (i + 1) <;> omega
      have := this n.refs 0
      rw [hr] at this; exact this)
    have H := Lib.hid h
    have HM := Lib.hid hmay
    have HA := Lib.hid hall
    clear h hri hmay hall
    gi_wp2_with fail
    refine ⟨trivial, rfl, CallsIn.mono (CallsIn.inRound l (callsIn_wide.2 (HM.out W (HG.out.ext H.out.ext)))) ?_⟩
    rintro e w5 ⟨rfl, hE⟩
    have q := (H.out.full.keeps hE (fun h => h)).cell (i := 0) (v := .int .i64 ((c + k : Nat) : Int)) (by rfl)
    have f : w5.frozen? ⟨w.heap.size + 1 + 1, 0, none⟩ = false := (H.out.full.keeps hE (fun h => h)).frozen
    have HE := Lib.hid hE
    have f1 : w5.frozen? ⟨w.heap.size + 1, 0, none⟩ = false := (H.out.res.keeps hE (fun h => h)).frozen
    have q1 : w5.cell? ⟨w.heap.size + 1, 0, none⟩ = some (.bool false) := (H.out.res.keeps hE (fun h => h)).cell (i := 0) (by rfl)
    clear hE
    obtain ⟨mb, hmb⟩ : ∃ mb, mb = M (n.rr k) := ⟨_, rfl⟩
    rw [← hmb]
    have HMB := Lib.hid hmb
    clear hmb
    cases mb with
    | false =>
      gi_wp2
      have K5 : Keeps (fun b => b = w.heap.size + 1) w5 (w5.setCell ⟨w.heap.size + 1, 0, none⟩ (.bool false)) := Keeps.oneSet w5 ⟨w.heap.size + 1, 0, none⟩ _
      have K6 : Keeps (fun b => b = w.heap.size + 1) W (w5.setCell ⟨w.heap.size + 1, 0, none⟩ (.bool false)) := (HE.out.mono (fun _ _ h => h.elim)).trans K5
      refine ⟨K6.mono (fun x hx e => ?_), ?_⟩
      · have e : x = _ := e; show x ≠ _ ∧ x ≠ _; omega
      · exact ⟨rfl, HMB.out.symm, ⟨H.out.ext.trans' K6 (fun x hx e => by omega), ((H.out.res.keeps HE.out (fun h => h)).set_same (i := 0) _), H.out.node.keeps K6 (by omega), H.out.full.keeps K6 (by omega), H.out.it.keeps K6 (by omega)⟩⟩
    | true =>
    gi_wp2
    rw [show (c : Int) + (k : Int) + 1 = ((c + (k + 1) : Nat) : Int) by omega]
    have K5 : Keeps (fun b => b = w.heap.size + 1 + 1) w5 (w5.setCell ⟨w.heap.size + 1 + 1, 0, none⟩ (.int .i64 ((c + (k + 1) : Nat) : Int))) := Keeps.oneSet w5 ⟨w.heap.size + 1 + 1, 0, none⟩ _
    have K6 : Keeps (fun b => b = w.heap.size + 1 + 1) W (w5.setCell ⟨w.heap.size + 1 + 1, 0, none⟩ (.int .i64 ((c + (k + 1) : Nat) : Int))) := (HE.out.mono (fun _ _ h => h.elim)).trans K5
    refine ⟨K6.mono (fun x hx e => ?_), ?_⟩
    · have e : x = _ := e; show x ≠ _ ∧ x ≠ _; omega
    · refine ⟨⟨H.out.ext.trans' K6 (fun x hx e => by omega), H.out.res.keeps K6 (by omega), H.out.node.keeps K6 (by omega), ((H.out.full.keeps HE.out (fun h => h)).set_same (i := 0) _), H.out.it.keeps K6 (by omega)⟩, fun j hj => ?_⟩
      by_cases hjk : j < k
      · exact HA.out j hjk
      · have : j = k := by omega
        subst this; exact HMB.out.symm
  case hdone =>
    intro W h hd
    obtain ⟨h, hall⟩ := h
    have q := h.full.cell (i := 0) (v := .int .i64 ((c + n.refsL.length : Nat) : Int)) (by rfl)
    have q2 := h.res.cell (i := 0) (v := .bool false) (by rfl)
    have f2 : W.frozen? ⟨w.heap.size + 1, 0, none⟩ = false := h.res.frozen
    have hb : (n.refsL.all fun x => M x.2) = true := by
      rw [List.all_eq_true]
      intro x hx
      obtain ⟨i, hi, rfl⟩ := List.getElem_of_mem hx
      have := hall i hi
      unfold NodeT.rr at this
      rw [List.getD_eq_getElem?_getD, List.getElem?_eq_getElem hi] at this
      exact this
    have hRb : R = decide (2 ≤ c + n.refsL.length) := by rw [HB.out, hb, Bool.and_true]
    have H := Lib.hid h
    have HD := Lib.hid hd
    clear h hd hall hb
    obtain ⟨bb, hbb⟩ : ∃ bb, bb = decide (2 ≤ c + n.refsL.length) := ⟨_, rfl⟩
    have c5 : decide ((2 : Int) ≤ ((c + n.refsL.length : Nat) : Int)) = bb := by rw [hbb]; exact decide_eq_decide.2 (by omega)
    have c6 : decide ((2 : Int) ≤ (c : Int) + (n.refsL.length : Int)) = bb := by rw [hbb]; exact decide_eq_decide.2 (by omega)
    have HRB := Lib.hid (hRb.trans hbb.symm)
    clear hbb hRb
    gi_wp2
    have B2 := (H.out.res.set_same (i := 0) (.bool bb))
    have BD := HD.out.set_other (p := ⟨w.heap.size + 1, 0, none⟩) (by show w1.heap.size ≠ w.heap.size + 1; omega) (.bool bb)
    have hX : Ext w ((W.setCell ⟨w.heap.size + 1, 0, none⟩ (.bool bb)).putObj w1.heap.size (.deferred none)) := (H.out.ext.setCell (.inr (by show w.heap.size ≤ w.heap.size + 1; omega)) _).putObj (.inr (by omega)) _
    obtain ⟨W3, hW3⟩ : ∃ W3, W3 = W.setCell ⟨w.heap.size + 1, 0, none⟩ (.bool bb) := ⟨_, rfl⟩
    rw [← hW3] at B2 BD hX ⊢
    have c2 : (W3.putObj w1.heap.size (.deferred none)).cell? ⟨w.heap.size + 1, 0, none⟩ = some (.bool bb) := (B2.put_other (by omega) _).cell (i := 0) (by simp)
    refine ⟨by simp, .inl ⟨_, _, rfl, run_takeDeferred BD, ?_⟩⟩
    exact ⟨.bool bb, by simp [results, Tryz.results137, go_sem, c2], by rw [HRB.out], hX⟩
  case hstop =>
    intro cd k W hk hk0 h hd
    obtain ⟨rfl, hm1, h⟩ := h
    have hb : (n.refsL.all fun x => M x.2) = false := by
      rw [List.all_eq_false]
      refine ⟨n.refsL.getD (k - 1) (0, ⟨#[]⟩), ?_, ?_⟩
      · rw [List.getD_eq_getElem?_getD, List.getElem?_eq_getElem (by omega)]; exact List.getElem_mem _
      · have : M (n.rr (k - 1)) = false := hm1
        unfold NodeT.rr at this
        rw [this]; simp
    have HRB := Lib.hid (show R = false by rw [HB.out, hb, Bool.and_false])
    have q2 := h.res.cell (i := 0) (v := .bool false) (by rfl)
    have H := Lib.hid h
    have HD := Lib.hid hd
    clear h hd hm1 hb
    have hX : Ext w (W.putObj w1.heap.size (.deferred none)) := H.out.ext.putObj (.inr (by omega)) _
    have c2 : (W.putObj w1.heap.size (.deferred none)).cell? ⟨w.heap.size + 1, 0, none⟩ = some (.bool false) := (H.out.res.put_other (by omega) _).cell (i := 0) (by rfl)
    gi_wp2
    refine ⟨by simp, .inl ⟨_, _, rfl, run_takeDeferred HD.out, ?_⟩⟩
    exact ⟨.bool false, by simp [results, Tryz.results137, go_sem, c2], by rw [HRB.out], hX⟩
end
end Go.Proofs.YtjogjmffkmfmbaaGreatDoor
/- A range over a function whose iterator only extends memory, and whose values are known by a condition only (of the world, too). Over any program. -/
namespace Go.Proofs.YtjogjmffkmfmbaaGreatDoor
section
open Go Go.RowKit
set_option linter.unusedSimpArgs false
set_option linter.unusedVariables false
/-- The iterator's contract: it hands the N values to yield one by one, until yield says no; S: what it rests on. -/
def IterV (P : Program) (gf : FuncId) (lb : Array Value) (N : Nat) (V : Nat → World → Array Value → Prop) (S : World → Prop) : Prop :=
  ∀ (l : Nat) (C : Nat → World → Prop) (Cx : Nat → World → Prop), (∀ k, St (C k)) → (∀ k, St (Cx k)) → (∀ k W, C k W → S W) →
    ∀ W, (∀ k W' vs, k < N → C k W' → V k W' vs → YieldE P l vs W' (C (k + 1)) (Cx (k + 1))) → C 0 W →
      CallsIn Fence.wide 0 P gf (#[.func (.yield l) #[] #[]] ++ lb) W (IterPostE N C Cx)
set_option maxHeartbeats 1000000 in
/-- THE LAW. g = w.heap.size and g + 1: the blocks of book-keeping. -/
theorem wp_rangeV {P : Program} {g : Operand} {ps : Array Tmp} {assign body : Code} {Q : Exit → Act → World → Prop} {a : Act} {w : World}
    {gf : Nat} {lb : Array Value} (hg : a.eval g = .func (.func gf) #[] lb) (eg : ∀ args w, (callFunc gf args).run P w = .ok (.enter gf args) w)
    {N : Nat} {V : Nat → World → Array Value → Prop} {S : World → Prop} (IS : IterV P gf lb N V S)
    (hps : ∀ k W vs, V k W vs → vs.size = ps.size) (hV : ∀ k W vs L o, V k W vs → Blk W (w.heap.size + 1) (.loop L) → V k (W.putObj (w.heap.size + 1) o) vs)
    (C : Nat → World → Prop) (Cj : Code → Nat → World → Prop) (hC : ∀ k, St (C k)) (hCj : ∀ c k, St (Cj c k)) (hS : ∀ k W, C k W → S W)
    (hup : ∀ k W o, C k W → C k (W.putObj w.heap.size o)) (hup1 : ∀ k W o, C k W → C k (W.putObj (w.heap.size + 1) o)) (hupj : ∀ c k W o, Cj c k W → Cj c k (W.putObj (w.heap.size + 1) o))
    (h0 : C 0 w) (a₁ : Array Value → Act)
    (hassign : ∀ (l k : Nat) (W : World) (vs : Array Value) (K : Act → World → Prop), k < N → V k W vs → K (a₁ vs) W →
      assign.wpIn (Fence.wide.inRound l) 0 P (Exit.then K (fun _ _ _ => False)) { tmps := (ps.zip vs).foldl (fun t (p, v) => t.setIfInBounds p v) a.tmps, defers := [] } W)
    (hbody : ∀ (l k : Nat) (W : World) (vs : Array Value), k < N → C k W → V k W vs → w.heap.size + 1 < W.heap.size → body.wpIn (Fence.wide.inRound l) 0 P (RoundE w.heap.size W (C (k + 1)) (fun c => Cj c (k + 1))) (a₁ vs) W)
    (hdone : ∀ (W : World), C N W → Blk W w.heap.size (.deferred (some [])) → Q .normal { a with defers := { target := .collected w.heap.size, args := #[] } :: a.defers } W)
    (hstop : ∀ (c : Code) (k : Nat) (W : World), k ≤ N → 0 < k → Cj c k W → Blk W w.heap.size (.deferred (some [])) →
      c.wpIn Fence.wide 0 P Q { a with defers := { target := .collected w.heap.size, args := #[] } :: a.defers } W) :
    (Code.rangeFunc g ps assign body).wpIn Fence.wide 0 P Q a w := by
  refine wpIn_rangeFunc ?_
  intro fn _
  show ∃ l mark w₁ d w₁' f args w₂, (Instr.enterLoop fn a.tmps ps assign body none).run P w = _ ∧ _
  obtain ⟨rec, hrec⟩ : ∃ rec : LoopState → Option Code → Loop, rec = fun st pe => { state := st, pending := pe, fn, tmps := a.tmps, params := ps, assign, body, defers := w.heap.size } := ⟨_, rfl⟩
  obtain ⟨W1, hW1⟩ : ∃ W1, (w.alloc (.deferred (some []))).alloc (.loop (rec .ready none)) = W1 := ⟨_, rfl⟩
  have hL1 : Blk W1 (w.heap.size + 1) (.loop (rec .ready none)) := by
    rw [← hW1]; have := Blk.new (w.alloc (.deferred (some []))) (.loop (rec .ready none)); rwa [World.size_alloc] at this
  have hK1 : Blk W1 w.heap.size (.deferred (some [])) := by
    rw [← hW1]; exact (Blk.new w _).alloc _
  have hX1 : Ext w W1 := by rw [← hW1]; exact ((Keeps.refl _ w).alloc _).alloc _
  refine ⟨w.heap.size + 1, [{ target := .collected w.heap.size, args := #[] }], W1, { target := .fn (.func gf) lb, args := #[.func (.yield (w.heap.size + 1)) #[] #[]] }, W1, gf,
    #[.func (.yield (w.heap.size + 1)) #[] #[]] ++ lb, W1, ?_, ?_, ?_, ?_, fun h => by simp [Fence.wide] at h, ?_⟩
  · rw [← hW1, hrec]; exact run_enterLoop_outer _ _ _ _ _
  · simp only [resolve, hg]
    simp [go_sem]
  · intro f' _; trivial
  · simp [invoke, go_sem, eg]
  · let CC : Nat → World → Prop := fun k W => C k W ∧ Blk W (w.heap.size + 1) (.loop (rec .ready none)) ∧ Blk W w.heap.size (.deferred (some []))
    let CX : Nat → World → Prop := fun k W => ∃ c, Cj c k W ∧ Blk W (w.heap.size + 1) (.loop (rec .done (some c))) ∧ Blk W w.heap.size (.deferred (some []))
    have key := IS (w.heap.size + 1) CC CX (fun k W W' ⟨h1, h2, h3⟩ e => ⟨hC k _ _ h1 e, h2.keeps e (fun h => h), h3.keeps e (fun h => h)⟩)
      (fun k W W' ⟨c, h1, h2, h3⟩ e => ⟨c, hCj c k _ _ h1 e, h2.keeps e (fun h => h), h3.keeps e (fun h => h)⟩) (fun k W h => hS k W h.1) W1 ?_ ⟨hC 0 _ _ h0 hX1, hL1, hK1⟩
    · refine CallsIn.mono key ?_
      rintro e W' ⟨⟨v, rfl⟩, hcase⟩
      rcases hcase with ⟨h1, h3, h4⟩ | ⟨k, hk1, hk2, c, h1, h3, h4⟩
      · obtain ⟨ox, he⟩ : ∃ ox, (Instr.endLoop (w.heap.size + 1)).run P W' = .ok none (W'.putObj (w.heap.size + 1) ox) := ⟨_, (run_endLoop (r := rec .ready none) h3 (by rw [hrec]; simp)).trans (by rw [hrec])⟩
        exact ⟨none, _, he, hdone _ (hup1 N _ _ h1) (h4.put_other (by omega) _)⟩
      · obtain ⟨ox, he⟩ : ∃ ox, (Instr.endLoop (w.heap.size + 1)).run P W' = .ok (some c) (W'.putObj (w.heap.size + 1) ox) := ⟨_, (run_endLoop (r := rec .done (some c)) h3 (by rw [hrec]; simp)).trans (by rw [hrec])⟩
        exact ⟨some c, _, he, hstop c k _ hk1 hk2 (hupj c k _ _ h1) (h4.put_other (by omega) _)⟩
    · rintro k W vs hk ⟨h1, h3, h4⟩ hvs
      refine ⟨_, _, _, _, run_yield h3 (by rw [hrec]; exact hps k W vs hvs), ?_⟩
      refine roundIn_of_wpIn trivial ?_
      rw [show (rec .ready none).tmps = a.tmps from by rw [hrec], show (rec .ready none).params = ps from by rw [hrec], show (rec .ready none).assign = assign from by rw [hrec], show (rec .ready none).body = body from by rw [hrec]]
      refine hassign _ k W vs _ hk hvs ?_
      refine ⟨_, run_beginRound h3 (by rw [hrec]), ?_⟩
      have hb1 : C k (W.putObj (w.heap.size + 1) (.loop { rec .ready none with state := .busy })) := hup1 k _ _ h1
      refine Code.wpIn_mono ?_ (hbody (w.heap.size + 1) k _ vs hk hb1 (hV k W vs _ _ hvs h3) (by rw [World.putObj_size]; exact h3.lt))
      have fin : ∀ (j : Option Code) (W' : World), Keeps (fun b => b ≠ w.heap.size ∧ b ≠ w.heap.size + 1) (W.putObj (w.heap.size + 1) (.loop { rec .ready none with state := .busy })) W' →
          (Instr.endRound (w.heap.size + 1) j).run P W' = .ok (.bool j.isNone) (W'.putObj (w.heap.size + 1) (.loop (rec (if j.isNone then .ready else .done) j))) ∧
          Blk (W'.putObj (w.heap.size + 1) (.loop (rec (if j.isNone then .ready else .done) j))) (w.heap.size + 1) (.loop (rec (if j.isNone then .ready else .done) j)) ∧
          Blk (W'.putObj (w.heap.size + 1) (.loop (rec (if j.isNone then .ready else .done) j))) w.heap.size (.deferred (some [])) := by
        intro j W' hK
        have hl : Blk W' (w.heap.size + 1) (.loop { rec .ready none with state := .busy }) := (h3.put_same _).keeps hK (fun h => h.2 rfl)
        have hd : Blk W' w.heap.size (.deferred (some [])) := (h4.put_other (by omega) _).keeps hK (fun h => h.1 rfl)
        refine ⟨?_, hl.put_same _, hd.put_other (by omega) _⟩
        rw [run_endRound j hl, hrec]
      intro e a' W' hq
      cases e with
      | normal =>
        obtain ⟨hK, hc⟩ := hq
        obtain ⟨f1, f2, f3⟩ := fin none W' hK
        exact ⟨_, _, f1, .inl ⟨rfl, hup1 _ _ _ hc, f2, f3⟩⟩
      | ret =>
        obtain ⟨hK, hc⟩ := hq
        obtain ⟨f1, f2, f3⟩ := fin (some .ret) W' hK
        exact ⟨_, _, f1, .inr ⟨rfl, .ret, hupj _ _ _ _ hc, f2, f3⟩⟩
      | exit i =>
        obtain ⟨hK, hc⟩ := hq
        obtain ⟨f1, f2, f3⟩ := fin (some (.exit i)) W' hK
        exact ⟨_, _, f1, .inr ⟨rfl, .exit i, hupj _ _ _ _ hc, f2, f3⟩⟩
      | goto t => exact hq.elim
      | panic ch => exact hq.elim
      | outgrown => exact hq.elim
end
end Go.Proofs.YtjogjmffkmfmbaaGreatDoor
/- rlp: each of a text that is no row of items: the items that there are, and a fault behind them. -/
namespace Go.Proofs.YtjogjmffkmfmbaaGreatDoor
section
open Go Go.RowKit
set_option linter.unusedSimpArgs false
set_option linter.unusedVariables false
attribute [local go_sem] Oper.semAt_some
/-- What is told at step k. -/
def EachV (xs : List ByteArray) (k : Nat) (W : World) (vs : Array Value) : Prop :=
  (k < xs.length ∧ vs = #[.string (xs.getD k ⟨#[]⟩), .nilIface]) ∨ (k = xs.length ∧ ∃ b, vs = #[.string ⟨#[]⟩, .iface 274 (.pointer (some ⟨b, 0, none⟩))] ∧ Fa2 W b)
def EachRelN (W : World) (xs : List ByteArray) (z0 : ByteArray) (C : Nat → World → Prop) (v : Value) (wr : World) : Prop := ∃ k : Nat, k ≤ xs.length ∧ v = .string (catB (xs.drop k) ++ z0) ∧ C k wr
set_option maxRecDepth 100000 in
set_option maxHeartbeats 1000000 in
theorem each_itN (b : Nat) (xs : List ByteArray) (z0 : ByteArray) (hx : ∀ x ∈ xs, IsItem x) (hs : (catB xs ++ z0).size ≤ 1000000000) (hz0 : 0 < z0.size) (hcz : cutN z0 = none) : IterV Tryz.prog 208 #[.pointer (some ⟨b, 0, none⟩)] (xs.length + 1) (EachV xs) (fun W => Blk W b (.cells #[.string (catB xs ++ z0)] 9)) := by
  intro l C Cx hC hCx hS W hY h0
  have hB := (hS 0 W h0).cell (i := 0) (v := .string (catB xs ++ z0)) (by rfl)
  have HY := Lib.hid hY
  have H0 := Lib.hid h0
  have HSZ := Lib.hid hs
  have HZ0 := Lib.hid hz0
  have HCZ := Lib.hid hcz
  have HSS0 := Lib.hid hS
  clear hY h0 hS hs hz0 hcz
  refine callsIn_of_wp Tryz.func208 rfl trivial ?_ rfl
  simp only [Tryz.ntmps208, List.size_toArray, List.length_cons, List.length_nil, Nat.reduceAdd, Nat.reduceSub, Array.replicate_succ, Array.replicate_zero, List.push_toArray, List.append_toArray, List.nil_append, List.cons_append]
  gi_wp2
  have HST := Lib.hid hC
  have HSX := Lib.hid hCx
  clear hC hCx
  gi_loopw [3] (fun v wr => EachRelN W xs z0 C v wr) (fun v _ => strSz v)
  case atStart => exact ⟨0, by omega, rfl, H0.out⟩
  case round =>
    obtain ⟨k, hk, rfl, hCk⟩ := hrel
    have HCk := Lib.hid hCk
    clear hCk
    by_cases hlt : k < xs.length
    · obtain ⟨x, hxk⟩ : ∃ x, x = xs[k] := ⟨_, rfl⟩
      have hdc := drop_cat hlt
      rw [← hxk] at hdc
      obtain ⟨y, hy⟩ : ∃ y, y = catB (xs.drop (k + 1)) ++ z0 := ⟨_, rfl⟩
      have hdc : catB (xs.drop k) ++ z0 = x ++ y := by rw [hy, hdc, ByteArray.append_assoc]
      have hsz : (x ++ y).size ≤ 1000000000 := by
        have h1 : (catB (xs.drop k) ++ z0).size ≤ (catB xs ++ z0).size := by
          have h2 : (catB xs).size = (catB (xs.take k)).size + (catB (xs.drop k)).size := by
            conv => lhs; rw [← List.take_append_drop k xs]
            simp only [catB, ByteArray.size, List.map_append, List.flatten_append, List.size_toArray, List.length_append]
          rw [ByteArray.size_append, ByteArray.size_append]; omega
        rw [hdc] at h1; have := HSZ.out; omega
      obtain ⟨r, hr1, hr2⟩ := hx x (hxk ▸ List.getElem_mem hlt) y hsz
      obtain ⟨z, hz⟩ : ∃ z, z = x ++ y := ⟨_, rfl⟩
      have hzs : z.size = x.size + y.size := by rw [hz, ByteArray.size_append]
      rw [← hz] at hdc hsz hr1
      rw [hdc]
      have hpos := cutN_pos hr1
      have hne := ne_empty hpos.1
      have he1 : z.extract (r.2.1 + r.2.2) z.size = y := by
        rw [hr2, hz]; exact ext_cat_r x y
      have he2 : z.extract 0 x.size = x := by
        rw [hz]; exact ext_cat_l x y
      have hgx : xs.getD k ⟨#[]⟩ = x := by rw [List.getD_eq_getElem?_getD, List.getElem?_eq_getElem hlt, ← hxk]; rfl
      have HGX := Lib.hid hgx
      have HX := Lib.hid hxk
      have HSS := Lib.hid hsz
      have HYY := Lib.hid hy
      have HZ := Lib.hid hz
      have HZS := Lib.hid hzs
      have HP := Lib.hid hpos
      have HR2 := Lib.hid hr2
      clear hxk hdc hy hz hgx hpos hr2 hzs
      gi_wp2_with fail
      refine ⟨trivial, rfl, CallsIn.mono (callsIn_wide.2 (cut_c wr z r hsz hr1)) ?_⟩
      rintro e w1 ⟨rfl, hE⟩
      unfold CutRes
      rw [he1]
      obtain ⟨u, hu⟩ : ∃ u, u = z.extract r.2.1 (r.2.1 + r.2.2) := ⟨_, rfl⟩
      rw [← hu]
      obtain ⟨b1, o, ln⟩ := r
      simp only
      clear hr1 he1 hu hsz
      obtain ⟨fn, tm, asg, bd, hyr, hrd⟩ := HY.out k w1 _ (by omega) (HST.out k _ _ HCk.out hE) (.inl ⟨hlt, rfl⟩)
      simp only [HGX.out] at hyr
      have HRD := Lib.hid hrd
      clear hE hrd
      have c1 : (z.size : Int) - (y.size : Int) = (x.size : Int) := by have := HZS.out; omega
      have c2 : (x.size : Int) ≤ (z.size : Int) := by have := HZS.out; omega
      have c3 : z.size ≤ 1000000000 := HSS.out
      gi_wp2
      refine ⟨rfl, (HRD.out.mono ?_)⟩
      rintro e w5 (⟨rfl, C5⟩ | ⟨rfl, C5⟩)
      · have HC5 := Lib.hid C5
        clear C5
        gi_wp2
        go_roundw
        case rel => exact ⟨k + 1, by omega, by rw [← HYY.out], HC5.out⟩
        case measure => show y.size < z.size; have := (show 0 < o + ln from HP.out.2); have := HZS.out; have := (show o + ln = x.size from HR2.out); omega
      · have HC5 := Lib.hid C5
        clear C5
        gi_wp2
        refine bodyPost_ret (results_none rfl _ _ _) rfl ?_
        exact ⟨⟨_, rfl⟩, .inr ⟨k + 1, by omega, by omega, HC5.out⟩⟩
    · have hkl : k = xs.length := by omega
      subst hkl
      have hd : catB (xs.drop xs.length) ++ z0 = z0 := by rw [List.drop_length]; exact ByteArray.empty_append
      rw [hd]
      have hne := ne_empty HZ0.out
      have hsz : z0.size ≤ (catB xs ++ z0).size := by rw [ByteArray.size_append]; omega
      have hBk := (HSS0.out _ _ HCk.out).cell (i := 0) (v := .string (catB xs ++ z0)) (by rfl)
      obtain ⟨s, hs⟩ : ∃ s, s = catB xs ++ z0 := ⟨_, rfl⟩
      rw [← hs] at hsz hBk
      have hs9 : s.size ≤ 1000000000 := by rw [hs]; exact HSZ.out
      have HS := Lib.hid hs
      clear hd hs
      gi_wp2_with fail
      refine ⟨trivial, rfl, CallsIn.mono (callsIn_wide.2 (cut_no wr z0 (by omega) HCZ.out)) ?_⟩
      rintro e w1 ⟨v, rfl, hE, hF⟩
      obtain ⟨c, k2, rfl, hFB, hFn⟩ := hF
      have hBk := cell_ext hBk hE
      have HCk1 := Lib.hid (HST.out _ _ _ HCk.out hE)
      have HFB := Lib.hid hFB
      have hx2 : Ext w1 (w1.alloc (.cells #[.int .i64 ((s.size : Int) - (z0.size : Int)), .iface 274 (.pointer (some ⟨c, 0, none⟩))] 276)) := (ExtR w1).alloc _
      obtain ⟨fn, tm, asg, bd, hyr, hrd⟩ := HY.out xs.length _ _ (Nat.lt_succ_self _) (HST.out _ _ _ HCk1.out hx2) (.inr ⟨rfl, w1.heap.size, rfl, c, _, k2, Blk.new w1 _, hFB.alloc _⟩)
      have HRD := Lib.hid hrd
      clear hE hFB HCk hx2 hrd
      gi_wp2_with fail
      refine ⟨rfl, (HRD.out.mono ?_)⟩
      rintro e w5 (⟨rfl, C5⟩ | ⟨rfl, C5⟩)
      · have HC5 := Lib.hid C5
        clear C5
        gi_wp2
        refine bodyPost_ret (results_none rfl _ _ _) rfl ?_
        exact ⟨⟨_, rfl⟩, .inl HC5.out⟩
      · have HC5 := Lib.hid C5
        clear C5
        gi_wp2
        refine bodyPost_ret (results_none rfl _ _ _) rfl ?_
        exact ⟨⟨_, rfl⟩, .inr ⟨xs.length + 1, Nat.le_refl _, Nat.succ_pos _, HC5.out⟩⟩
end
end Go.Proofs.YtjogjmffkmfmbaaGreatDoor
/- rlp.Why of a fault that holds a fault. -/
namespace Go.Proofs.YtjogjmffkmfmbaaGreatDoor
section
open Go Go.RowKit
set_option linter.unusedSimpArgs false
set_option linter.unusedVariables false
attribute [local go_sem] Oper.semAt_some
theorem at_c (w : World) (b : Nat) (k : Int) (c : Value) (hB : Blk w b (.cells #[.int .i64 k, c] 276)) : Calls Tryz.prog 265 #[.pointer (some ⟨b, 0, none⟩)] w fun e w' => e = .returned (.int .i64 k) ∧ w = w' := by
  have q0 := hB.cell (i := 0) (v := .int .i64 k) (by rfl)
  clear hB
  go_enter Tryz.func265, Tryz.ntmps265
  go_wp2_with fail
  go_ret
  exact ⟨rfl, rfl⟩
theorem Tryz.methodAt (n : Nat) (v : Value) (w : World) : (Go.method (n + 1) 274 v "At").run Tryz.prog w = .ok (265, v) w := by kernel_rfl
def WhyP (w : World) (e : Ending) (w' : World) : Prop := ∃ k : Int, e = .returned (.tuple #[.int .i64 k, .int .i64 2]) ∧ Ext w w'
set_option maxRecDepth 100000 in
set_option maxHeartbeats 2000000 in
theorem why_c (w : World) (b : Nat) (hG : ErrT w) (hF : Fa2 w b) : Calls Tryz.prog 182 #[.iface 274 (.pointer (some ⟨b, 0, none⟩))] w (WhyP w) := by
  have HG := Lib.hid hG
  have HF := Lib.hid hF
  have hM := fun v w => Tryz.methodAt 435 v w
  clear hG hF
  go_enter Tryz.func182, Tryz.ntmps182
  go_wp2_with fail
  have hx1 : Ext w (w.alloc (.cells #[.nilIface] 277)) := (ExtR w).alloc _
  refine (As_place _ w.heap.size b (Blk.new w _)).mono ?_
  rintro e w1 ⟨rfl, hk, hB⟩
  have hE1 : Ext w w1 := hx1.trans' hk (fun z hz e => by have e : z = w.heap.size := e; omega)
  have HF1 := Lib.hid (HF.out.ext hE1)
  have HE1 := Lib.hid hE1
  have q1 := hB.cell (i := 0) (v := .iface 274 (.pointer (some ⟨b, 0, none⟩))) (by rfl)
  clear hk hB hE1 hx1
  go_wp2_with fail
  obtain ⟨c, k, l, hF1, hF2⟩ := HF1.out
  refine (at_c w1 b k _ hF1).mono ?_
  rintro e w2 ⟨rfl, rfl⟩
  clear hF1 hF2 q1
  go_wp2_with fail
  have hx2 : Ext w1 (w1.alloc (.cells #[.int .i64 0] 26)) := (ExtR w1).alloc _
  refine (As_errno _ w1.heap.size b 0 (HG.out.ext (HE1.out.trans hx2)) (HF1.out.ext hx2) (Blk.new w1 _)).mono ?_
  rintro e w3 ⟨rfl, hk, hB⟩
  have HE3 := Lib.hid (HE1.out.trans (hx2.trans' hk (fun z hz e => by have e : z = w1.heap.size := e; omega)))
  have q1 := hB.cell (i := 0) (v := .int .i64 2) (by rfl)
  clear hk hB hx2
  go_wp2_with fail
  go_ret2
  exact ⟨k, rfl, HE3.out⟩
end
end Go.Proofs.YtjogjmffkmfmbaaGreatDoor
/- rlp: Items of a text that is no row of items. -/
namespace Go.Proofs.YtjogjmffkmfmbaaGreatDoor
section
open Go Go.RowKit
set_option linter.unusedSimpArgs false
set_option linter.unusedVariables false
attribute [local go_sem] Oper.semAt_some
structure ItN (w : World) (g m : Nat) (s : ByteArray) (k : Nat) (W : World) : Prop where
  ext : Ext w W
  b2 : Blk W g (.cells #[.slice none 0 0] 22)
  b3 : Blk W (g + 1) (.cells #[.int .i64 0] 26)
  bc : Blk W (g + 3) (.cells #[.string s] 9)
  row : ∃ v xs, Blk W (g + 2) (.cells #[v] 22) ∧ W.ownsRow 0 9 1 v k xs ∧ ∀ b, v.ownBlock = some b → m + 2 ≤ b
theorem ItN.st {w : World} {g m : Nat} {s : ByteArray} {k : Nat} {W W' : World} (h : ItN w g m s k W) (e : Ext W W') : ItN w g m s k W' :=
  let ⟨v, xs, h1, h2, h3⟩ := h.row
  ⟨h.ext.trans e, h.b2.keeps e (fun h => h), h.b3.keeps e (fun h => h), h.bc.keeps e (fun h => h), v, xs, h1.keeps e (fun h => h), own_ext h2 e, h3⟩
theorem ItN.put {w : World} {g m : Nat} {s : ByteArray} {k : Nat} {W : World} (h : ItN w g m s k W) {r : Nat} (hr : w.heap.size ≤ r) (h1 : g + 3 < r) (h2 : r < m + 2) (o : Obj) : ItN w g m s k (W.putObj r o) :=
  let ⟨v, xs, h3, h4, h5⟩ := h.row
  ⟨h.ext.putObj (.inr hr) _, h.b2.put_other (by omega) _, h.b3.put_other (by omega) _, h.bc.put_other (by omega) _, v, xs, h3.put_other (by omega) _,
    own_keeps h4 (Keeps.onePut W r o) (fun b hb e => by have := h5 b hb; omega), h5⟩
/-- What is told where Items fail. -/
structure ItX (w : World) (g : Nat) (W : World) : Prop where
  ext : Ext w W
  b2 : Blk W g (.cells #[.slice none 0 0] 22)
  b3 : Blk W (g + 1) (.cells #[.int .i64 2] 26)
theorem ItX.st {w : World} {g : Nat} {W W' : World} (h : ItX w g W) (e : Ext W W') : ItX w g W' := ⟨h.ext.trans e, h.b2.keeps e (fun h => h), h.b3.keeps e (fun h => h)⟩
theorem ItX.put {w : World} {g : Nat} {W : World} (h : ItX w g W) {r : Nat} (hr : w.heap.size ≤ r) (h1 : g + 1 < r) (o : Obj) : ItX w g (W.putObj r o) := ⟨h.ext.putObj (.inr hr) _, h.b2.put_other (by omega) _, h.b3.put_other (by omega) _⟩
def va0 (vs : Array Value) : Value := vs.getD 0 undef
def va1 (vs : Array Value) : Value := vs.getD 1 undef
theorem Fa2.put {W : World} {b r : Nat} {o L : _} (h : Fa2 W b) (hB : Blk W r (.loop L)) : Fa2 (W.putObj r o) b := by
  obtain ⟨c, k, l, h1, h2⟩ := h
  have ne : ∀ {x : Nat} {cs T}, Blk W x (.cells cs T) → x ≠ r := fun hx e => by
    subst e
    have := hx.symm.trans hB
    cases this
  exact ⟨c, k, l, h1.put_other (ne h1) _, h2.put_other (ne h2) _⟩
set_option maxRecDepth 100000 in
set_option maxHeartbeats 2000000 in
theorem items_no (w : World) (hG : ErrT w) (xs : List ByteArray) (z0 : ByteArray) (hx : ∀ x ∈ xs, IsItem x) (hs : (catB xs ++ z0).size ≤ 1000000000) (hn : xs.length ≤ 1000000) (hz0 : 0 < z0.size) (hcz : cutN z0 = none) : Calls Tryz.prog 131 #[.string (catB xs ++ z0)] w fun e w' => e = .returned (.tuple #[.slice none 0 0, .int .i64 2]) ∧ Ext w w' := by
  obtain ⟨i0, hi, hz, hz1, hz2⟩ := info_parts Tryz.infoStr
  have hIT := fun b => each_itN b xs z0 hx hs hz0 hcz
  obtain ⟨s, hsd⟩ : ∃ s, s = catB xs ++ z0 := ⟨_, rfl⟩
  rw [← hsd] at hIT ⊢
  have HIT := Lib.hid hIT
  have HG := Lib.hid hG
  clear hsd hIT hs hx hz0 hcz hG
  rw [← callsIn_wide (n := 0)]
  refine callsIn_of_wp_marks Tryz.func131 rfl trivial ?_ rfl
  simp only [Tryz.ntmps131, List.size_toArray, List.length_cons, List.length_nil, Nat.reduceAdd, Nat.reduceSub, Array.replicate_succ, Array.replicate_zero, List.push_toArray, List.append_toArray, List.nil_append, List.cons_append]
  gi_wp2_with fail
  obtain ⟨W0, hW0⟩ : ∃ W0, W0 = ((w.alloc (.cells #[.slice none 0 0] 22)).alloc (.cells #[.int .i64 0] 26)).alloc (.cells #[.slice none 0 0] 22) := ⟨_, rfl⟩
  rw [← hW0]
  have hs0 : W0.heap.size = w.heap.size + 3 := by rw [hW0]; simp
  have E0 : Ext w W0 := by rw [hW0]; exact ((((ExtR w).alloc _).alloc _).alloc _)
  have B2 : Blk W0 w.heap.size (.cells #[.slice none 0 0] 22) := by rw [hW0]; exact ((Blk.new w _).alloc _).alloc _
  have B3 : Blk W0 (w.heap.size + 1) (.cells #[.int .i64 0] 26) := by
    rw [hW0]; have := (Blk.new (w.alloc (.cells #[.slice none 0 0] 22)) (.cells #[.int .i64 0] 26)).alloc (.cells #[.slice none 0 0] 22); rwa [World.size_alloc] at this
  have B4 : Blk W0 (w.heap.size + 2) (.cells #[.slice none 0 0] 22) := by
    rw [hW0]; have := (Blk.new ((w.alloc (.cells #[.slice none 0 0] 22)).alloc (.cells #[.int .i64 0] 26)) (.cells #[.slice none 0 0] 22)); rwa [World.size_alloc, World.size_alloc] at this
  clear hW0
  refine ⟨trivial, rfl, CallsIn.mono (callsIn_wide.2 (each_c W0 s)) ?_⟩
  rintro e w1 ⟨rfl, hbc, hE⟩
  rw [hs0] at hbc ⊢
  have S0 : ItN w w.heap.size w1.heap.size s 0 w1 := ⟨E0.trans hE, B2.keeps hE (fun h => h), B3.keeps hE (fun h => h), hbc, _, [], B4.keeps hE (fun h => h), World.ownsRow_nil _ _ _ _, fun b hb => by cases hb⟩
  have hl1 := hbc.lt
  have HS0 := Lib.hid S0
  clear hs0 E0 B2 B3 B4 hbc hE S0 W0
  gi_wp2_with fail
  refine wp_rangeV (N := xs.length + 1) (gf := 208) (lb := #[.pointer (some ⟨w.heap.size + 3, 0, none⟩)]) rfl Tryz.enterEach1 (HIT.out (w.heap.size + 3))
    (fun k W vs h => by rcases h with ⟨_, rfl⟩ | ⟨_, b, rfl, _⟩ <;> rfl)
    (fun k W vs L o h hB => h.imp id fun ⟨h1, b, h2, h3⟩ => ⟨h1, b, h2, h3.put hB⟩)
    (fun k W => k ≤ xs.length ∧ ItN w w.heap.size w1.heap.size s k W) (fun cd _ W => cd = .ret ∧ ItX w w.heap.size W)
    (fun k W W' h e => ⟨h.1, h.2.st e⟩) (fun cd _ W W' h e => ⟨h.1, h.2.st e⟩) (fun k W h => h.2.bc)
    (fun k W o h => ⟨h.1, h.2.put (by omega) (by omega) (by omega) _⟩)
    (fun k W o h => ⟨h.1, h.2.put (by omega) (by omega) (by omega) _⟩) (fun cd _ W o h => ⟨h.1, h.2.put (by omega) (by omega) _⟩)
    ⟨Nat.zero_le _, HS0.out⟩ (fun vs => { tmps := #[.string s, undef, .pointer (some ⟨w.heap.size, 0, none⟩), .pointer (some ⟨w.heap.size + 1, 0, none⟩), .pointer (some ⟨w.heap.size + 1 + 1, 0, none⟩), va0 vs, va1 vs, undef, undef, .string s, .func (.func 208) #[] #[.pointer (some ⟨w.heap.size + 3, 0, none⟩)], va0 vs, va1 vs, undef, undef, undef, undef, undef, undef, undef, undef, undef, undef, undef, undef, undef], defers := [] })
    ?hassign ?hbody ?hdone ?hstop
  case hassign =>
    intro l j W vs K hj hV hK
    obtain ⟨a, b, rfl⟩ : ∃ a b, vs = #[a, b] := by rcases hV with ⟨_, rfl⟩ | ⟨_, b, rfl, _⟩ <;> exact ⟨_, _, rfl⟩
    rw [fold2]
    simp only [List.set_cons_zero, List.set_cons_succ]
    gi_wp2
    exact hK
  case hbody =>
    rintro l k W vs hk ⟨hkl, hS⟩ hV hlt
    rcases hV with ⟨hlk, rfl⟩ | ⟨rfl, b, rfl, hF⟩
    · have e0 : va0 #[.string (xs.getD k ⟨#[]⟩), .nilIface] = .string (xs.getD k ⟨#[]⟩) := rfl
      have e1 : va1 #[.string (xs.getD k ⟨#[]⟩), .nilIface] = .nilIface := rfl
      rw [e0, e1]
      obtain ⟨v, ys, h1, h2, h3⟩ := hS.row
      obtain ⟨ad, cp, rfl⟩ := row_slice h2
      obtain ⟨x, hxk⟩ : ∃ x, x = xs.getD k ⟨#[]⟩ := ⟨_, rfl⟩
      rw [← hxk]
      have q4 : W.cell? ⟨w.heap.size + 1 + 1, 0, none⟩ = some (.slice ad k cp) := h1.cell (i := 0) (by rfl)
      have f4 : W.frozen? ⟨w.heap.size + 1 + 1, 0, none⟩ = false := h1.frozen
      have HS := Lib.hid hS
      have H1 := Lib.hid h1
      have H2 := Lib.hid h2
      have H3 := Lib.hid h3
      clear hS h1 h2 h3 hxk e0 e1
      gi_wp2_with (gi_at_builtin; refine wpListIn_append_any _ rfl (.tmp 21) (.tmp 23) 22 rfl 9 i0 _ 1 16 Tryz.uStrs hi hz hz1 hz2 rfl (by decide) (.slice ad k cp) k _ rfl (own_ext H2.out ((ExtR W).alloc _)) ⟨W.heap.size, 0, none⟩ 1 1 [.string x] rfl rfl (news_blk (Blk.new W _)) (by simp [Value.oneCell']) (by unfold maxLen; omega) (by omega) ?_)
      intro v' w6 r1 r2 r3
      have K6 : Keeps (fun b => (Value.slice ad k cp).ownBlock = some b) W w6 := ((Keeps.refl _ W).alloc _).trans r2
      have hlt1 := HS.out.b2.lt
      have hlt4 := H1.out.lt
      have hw3 : w.heap.size ≤ w1.heap.size := by omega
      have nb : ∀ b, b < w1.heap.size + 2 → ¬ (Value.slice ad k cp).ownBlock = some b := fun b hb e => by have := H3.out b e; omega
      obtain ⟨ad', cp', rfl⟩ := row_slice r1
      have hv' : ∀ b, (Value.slice ad' (k + 1) cp').ownBlock = some b → w1.heap.size + 2 ≤ b := fun b hb => by
        rcases r3 with r3 | r3
        · exact H3.out b (r3 ▸ hb)
        · have := r3 b hb; omega
      have B4 := H1.out.keeps K6 (nb _ (by omega))
      have q4' : w6.cell? ⟨w.heap.size + 1 + 1, 0, none⟩ = some (.slice ad k cp) := B4.cell (i := 0) (by rfl)
      have f4' : w6.frozen? ⟨w.heap.size + 1 + 1, 0, none⟩ = false := B4.frozen
      have HK6 := Lib.hid K6
      have HB4 := Lib.hid B4
      have R1 := Lib.hid r1
      have HV' := Lib.hid hv'
      have NB := Lib.hid nb
      clear K6 r1 r2 r3 hv' B4 nb q4 f4
      gi_wp2
      have k7 : Keeps (fun b => b = w.heap.size + 1 + 1) w6 (w6.setCell ⟨w.heap.size + 1 + 1, 0, none⟩ (.slice ad' (k + 1) cp')) := Keeps.oneSet w6 ⟨w.heap.size + 1 + 1, 0, none⟩ _
      refine ⟨(HK6.out.mono (fun x _ e => ?_)).trans' k7 (fun x _ e => ?_), ?_⟩
      · have := H3.out x e; show x ≠ _ ∧ x ≠ _; omega
      · have e : x = _ := e; show x ≠ _ ∧ x ≠ _; omega
      · refine ⟨by omega, (HS.out.ext.trans' HK6.out (fun x hx e => by have := H3.out x e; omega)).trans' k7 (fun x hx e => by have e : x = _ := e; omega),
          (HS.out.b2.keeps HK6.out (NB.out _ (by omega))).keeps k7 (fun e => by omega), (HS.out.b3.keeps HK6.out (NB.out _ (by omega))).keeps k7 (fun e => by omega), (HS.out.bc.keeps HK6.out (NB.out _ (by omega))).keeps k7 (fun e => by omega),
          _, _, HB4.out.set_same (i := 0) _, own_keeps R1.out k7 (fun b hb e => by have := HV'.out b hb; omega), HV'.out⟩
    · have e0 : va0 #[.string ⟨#[]⟩, .iface 274 (.pointer (some ⟨b, 0, none⟩))] = .string ⟨#[]⟩ := rfl
      have e1 : va1 #[.string ⟨#[]⟩, .iface 274 (.pointer (some ⟨b, 0, none⟩))] = .iface 274 (.pointer (some ⟨b, 0, none⟩)) := rfl
      rw [e0, e1]
      have hq : ∀ w, (binOp .neq 120 (.iface 274 (.pointer (some ⟨b, 0, none⟩))) .nilIface).run Tryz.prog w = .ok (.bool true) w := fun w => by kernel_rfl
      have HS := Lib.hid hS
      have HF := Lib.hid hF
      clear hS hF e0 e1
      gi_wp2_with fail
      refine ⟨trivial, rfl, CallsIn.mono (CallsIn.inRound l (callsIn_wide.2 (why_c W b (HG.out.ext HS.out.ext) HF.out))) ?_⟩
      rintro e w5 ⟨kk, rfl, hE⟩
      have B2 := HS.out.b2.keeps hE (fun h => h)
      have B3 := HS.out.b3.keeps hE (fun h => h)
      have f2 : w5.frozen? ⟨w.heap.size, 0, none⟩ = false := B2.frozen
      have f3 : w5.frozen? ⟨w.heap.size + 1, 0, none⟩ = false := B3.frozen
      have q2 := B2.cell (i := 0) (v := .slice none 0 0) (by rfl)
      have q3 := B3.cell (i := 0) (v := .int .i64 0) (by rfl)
      have HB2 := Lib.hid B2
      have HB3 := Lib.hid B3
      have HE := Lib.hid hE
      have hlt1 := B2.lt
      clear B2 B3 hE
      gi_wp2
      have C2 := (HB2.out.set_same (i := 0) (.slice none 0 0)).set_other (p := ⟨w.heap.size + 1, 0, none⟩) (by show w.heap.size ≠ w.heap.size + 1; omega) (.int .i64 2)
      have C3 := (HB3.out.set_other (p := ⟨w.heap.size, 0, none⟩) (by show w.heap.size + 1 ≠ w.heap.size; omega) (.slice none 0 0)).set_same (i := 0) (.int .i64 2)
      have K5 : Keeps (fun b => b = w.heap.size ∨ b = w.heap.size + 1) W ((w5.setCell ⟨w.heap.size, 0, none⟩ (.slice none 0 0)).setCell ⟨w.heap.size + 1, 0, none⟩ (.int .i64 2)) :=
        ((HE.out.mono (fun _ _ h => h.elim)).setCell (.inl (.inl rfl)) _).setCell (.inl (.inr rfl)) _
      refine ⟨K5.mono (fun x hx e => ?_), ?_⟩
      · show x ≠ _ ∧ x ≠ _; omega
      · exact ⟨rfl, HS.out.ext.trans' K5 (fun x hx e => by omega), C2, C3⟩
  case hdone =>
    rintro W ⟨h, _⟩ hd
    omega
  case hstop =>
    rintro cd k W hk hk0 ⟨rfl, h⟩ hd
    have HX := Lib.hid h
    have HD := Lib.hid hd
    clear h hd
    have K3 : Ext w (W.putObj w1.heap.size (.deferred none)) := HX.out.ext.putObj (.inr (by omega)) _
    have c2 : (W.putObj w1.heap.size (.deferred none)).cell? ⟨w.heap.size, 0, none⟩ = some (.slice none 0 0) := (HX.out.b2.put_other (by omega) _).cell (i := 0) (by simp)
    have c3 : (W.putObj w1.heap.size (.deferred none)).cell? ⟨w.heap.size + 1, 0, none⟩ = some (.int .i64 2) := (HX.out.b3.put_other (by omega) _).cell (i := 0) (by simp)
    gi_wp2
    refine ⟨by simp, .inl ⟨_, _, rfl, run_takeDeferred HD.out, ?_⟩⟩
    exact ⟨.tuple #[.slice none 0 0, .int .i64 2], by simp [results, Tryz.results131, go_sem, c2, c3], rfl, K3⟩
end
end Go.Proofs.YtjogjmffkmfmbaaGreatDoor
