/- Parts of the proof, one behind the other: NodeO, NodeP, NodeQ. Each is under no condition but those that it states. -/
import Derived.Test.YtneojlgbcaejmaaGreatDoorBa19
/- node: read. -/
namespace Go.Proofs.YtneojlgbcaejmaaGreatDoor
section
open Go Go.RowKit
set_option linter.unusedSimpArgs false
set_option linter.unusedVariables false
theorem list_ne_empty (xs : List ByteArray) (hn : (catB xs).size ≤ 1048576) : listB xs ≠ textB ⟨#[]⟩ := by
  intro e
  obtain ⟨o, h1, _⟩ := cut_list0 xs hn
  obtain ⟨o', h2, _⟩ := cut_text0 ⟨#[]⟩ (by decide)
  rw [e, h2] at h1
  cases h1
theorem toList_ne {a b : ByteArray} (h : a ≠ b) : (a.toList == b.toList) = false := by
  rw [beq_eq_false_iff_ne, ByteArray.toList_eq, ByteArray.toList_eq]
  exact fun e => h (ByteArray.ext (Array.ext' e))
theorem extract_end (s : ByteArray) : s.extract s.size s.size = ⟨#[]⟩ := by
  apply ByteArray.ext; apply Array.ext'; simp
theorem listB_size (xs : List ByteArray) : (listB xs).size ≤ (catB xs).size + 9 := by
  unfold listB
  rw [ByteArray.size_append]; have := headB_size 192 (catB xs).size; omega
set_option maxRecDepth 100000 in
set_option maxHeartbeats 2000000 in
theorem readNone_c (w : World) : Calls Tryz.prog 58 #[.string (textB ⟨#[]⟩)] w fun e w' => e = .returned (.tuple #[emptyN.V, .bool true]) ∧ Ext w w' := by
  obtain ⟨em, hem⟩ : ∃ em, em = textB ⟨#[]⟩ := ⟨_, rfl⟩
  rw [← hem]
  have HEM := Lib.hid hem
  clear hem
  go_enter Tryz.func58, Tryz.ntmps58
  go_wp2_with (refine wpList_new Tryz.allocNode rfl rfl ?_; intro W1 hB1 hE1)
  refine (text_c _ ⟨#[]⟩ (by decide)).mono ?_
  rintro e w2 ⟨rfl, hE⟩
  rw [← HEM.out]
  have hB2 := hB1.keeps hE (fun h => h)
  have HE2 := Lib.hid (hE1.trans hE)
  clear hB1 hE1 hE
  go_wp2_with (refine wpList_fill (vs := emptyN.cells) rfl rfl rfl rfl hB2 rfl Tryz.szNode (NodeT.one _) ?_; intro W8 hB8 hE8)
  refine bodyPost_ret (results_cell_tmp rfl rfl rfl (run_loadVar_api W8 _ emptyN rfl hB8)) rfl ?_
  exact ⟨rfl, HE2.out.trans' hE8 (fun x hx e => by have e : x = w.heap.size := e; omega)⟩
/-- A struct stored over a whole block: a single operation. -/
theorem wp_fill {P : Program} {o : Oper} {a : Act} {w : World} {K : Act → World → Prop} {Q : Exit → Act → World → Prop} {T T2 : TypeId} {x y : Operand} {b : Nat} {old vs : List Value} (ho : o.op = .store T x y) (hx : a.eval x = .pointer (some ⟨b, 0, none⟩)) (hy : a.eval y = .agg vs.toArray)
    (hB : Blk w b (.cells old.toArray T2)) (hl : old.length = vs.length) (hi : (P.info? T).map (·.size) = some vs.length) (h1 : ∀ v ∈ vs, v.oneCell' = true)
    (h : ∀ W, Blk W b (.cells vs.toArray T2) → Keeps (fun z => z = b) w W → K (a.put o.dst undef) W) : o.wp P a w K Q := by
  refine wp_store_mid T x y ho b 0 vs.toArray hx hy (by have := thereOf hB; rw [hl] at this; simpa using this) (by simpa using hi) (all_oneCell_toArray h1) (h _ ?_ (Keeps.oneSetCells b vs 0 w))
  have := Blk.setCells vs 0 w old hB (by omega)
  rw [List.drop_of_length_le (by omega)] at this
  simpa using this
theorem Tryz.enterReadPair : ∀ args w, (callFunc 82 args).run Tryz.prog w = .ok (.enter 82 args) w := fun _ _ => by kernel_rfl
set_option maxRecDepth 100000 in
set_option maxHeartbeats 4000000 in
/-- A node of two items. -/
theorem readTwo_c (w : World) (x y : ByteArray) (n : NodeT) (hr : n.refs.length = 16) (hx : IsItem x) (hy : IsItem y) (hs : x.size + y.size ≤ 1048576)
    (hc : ∀ w, Calls Tryz.prog 82 #[.string x, .string y] w fun e w' => e = .returned (.tuple #[n.V, .bool true]) ∧ Ext w w') :
    Calls Tryz.prog 58 #[.string (listB [x, y])] w fun e w' => e = .returned (.tuple #[n.V, .bool true]) ∧ Ext w w' := by
  have hcs : (catB [x, y]).size = x.size + y.size := by rw [catB_cons, catB_cons, catB_nil]; omega
  obtain ⟨o, h1, h2, h3⟩ := cut_list0 [x, y] (by omega)
  have hls := listB_size [x, y]
  obtain ⟨em, hem⟩ : ∃ em, em = textB ⟨#[]⟩ := ⟨_, rfl⟩
  have hne := toList_ne (list_ne_empty [x, y] (by omega))
  obtain ⟨s, hsd⟩ : ∃ s, s = listB [x, y] := ⟨_, rfl⟩
  obtain ⟨c, hcd⟩ : ∃ c, c = catB [x, y] := ⟨_, rfl⟩
  rw [← hsd] at h1 h2 h3 hls hne ⊢
  rw [← hcd] at h1 h2 h3 hls hcs
  rw [← hem] at hne
  have HS := Lib.hid (show s.size ≤ 1000000000 by omega)
  have H1 := Lib.hid h1
  have H3 := Lib.hid h3
  have HEM := Lib.hid hem
  have HCD := Lib.hid hcd
  have HCS := Lib.hid hcs
  have H2 := Lib.hid h2
  have HR := Lib.hid hr
  have HC := Lib.hid hc
  clear h1 h2 h3 hls hsd hcd hem hcs hr hc
  go_enter Tryz.func58, Tryz.ntmps58
  go_wp2_with (refine wpList_new Tryz.allocNode rfl rfl ?_; intro W1 hB1 hE1)
  refine (text_c _ ⟨#[]⟩ (by decide)).mono ?_
  rintro e w2 ⟨rfl, hE⟩
  rw [← HEM.out]
  have HB2 := Lib.hid (hB1.keeps hE (fun h => h))
  have HE2 := Lib.hid (hE1.trans hE)
  clear hB1 hE1 hE
  go_wp2_with fail
  refine (split_c _ s _ HS.out H1.out).mono ?_
  rintro e w3 ⟨rfl, hE⟩
  simp only
  rw [H3.out, H2.out, extract_end]
  have HB3 := Lib.hid (HB2.out.keeps hE (fun h => h))
  have HE3 := Lib.hid (HE2.out.trans hE)
  clear hE HE2 HB2
  go_wp2_with fail
  rw [HCD.out]
  refine (items_c w3 [x, y] (by intro z hz; rcases List.mem_cons.1 hz with rfl | hz; exact hx; rw [List.mem_singleton.1 hz]; exact hy) (by rw [← HCD.out, HCS.out]; omega) (show 2 ≤ 1000000 by decide)).mono ?_
  rintro e w4 ⟨v, rfl, hv⟩
  have HB4 := Lib.hid (HB3.out.keeps hv.ext (fun h => h))
  have HE4 := Lib.hid (HE3.out.trans hv.ext)
  rcases hv.rd with ⟨_, _, _, h0⟩ | ⟨b, o2, c2, rfl, hb, hc, hcell⟩
  · cases h0
  have QX := Lib.hid (hcell 0 x rfl)
  have QY := Lib.hid (hcell 1 y rfl)
  clear hv hcell HE3 HB3
  go_wp2_with fail
  refine wp_region_mix [0,1,2,3,4,5,6,7,8,9,10] [9] Ext ExtR ExtT (by kernel_rfl) (by kernel_rfl) (by kernel_rfl) ?_
  iterate 2 (refine mix_pure _ rfl (by kernel_rfl) rfl rfl (fun K hK => ?_); go_big_quiet_op; refine hK _ ?_; clear hK K)
  refine mix_load ⟨b, o2, none⟩ _ rfl (by kernel_rfl) rfl rfl (fun w1 h1 => run_load_plain Tryz.uStr rfl (cell_ext (by exact QX.out) h1)) ?_
  simp only [Act.put, List.setIfInBounds_toArray, List.set_cons_zero, List.set_cons_succ]
  iterate 2 (refine mix_pure _ rfl (by kernel_rfl) rfl rfl (fun K hK => ?_); go_big_quiet_op; refine hK _ ?_; clear hK K)
  refine mix_load ⟨b, o2 + 1, none⟩ _ rfl (by kernel_rfl) rfl rfl (fun w1 h1 => run_load_plain Tryz.uStr rfl (cell_ext (by exact QY.out) h1)) ?_
  simp only [Act.put, List.setIfInBounds_toArray, List.set_cons_zero, List.set_cons_succ]
  refine mix_call _ 82 #[.string x, .string y] (.tuple #[n.V, .bool true]) rfl (by kernel_rfl) rfl (fun w1 => exec_call Tryz.enterReadPair (by kernel_rfl)) (fun w1 h1 => HC.out w1) ?_
  simp only [Act.put, List.setIfInBounds_toArray, List.set_cons_zero, List.set_cons_succ]
  iterate 2 (refine mix_pure _ rfl (by kernel_rfl) rfl rfl (fun K hK => ?_); go_big_quiet_op; refine hK _ ?_; clear hK K)
  refine mix_hard _ rfl (by kernel_rfl) rfl (fun w5 he K hK => ?_)
  have hX := (drewE w4).trans he
  refine wp_fill (vs := n.cells) rfl rfl rfl (HB4.out.keeps hX (fun h => h)) (by rw [n.cells_len HR.out]; rfl) (by rw [n.cells_len HR.out]; exact Tryz.szNode) n.one ?_
  intro W6 hB6 hE6
  have HB6 := Lib.hid hB6
  have HE6 := Lib.hid ((HE4.out.trans hX).trans' hE6 (fun x hx e => by have e : x = w.heap.size := e; omega))
  clear he hX hB6 hE6 QX QY HB4 HE4
  simp only [Act.put, List.setIfInBounds_toArray, List.set_cons_zero, List.set_cons_succ]
  refine hK _ _ ?_
  clear hK K
  iterate 1 (refine mix_pure _ rfl (by kernel_rfl) rfl rfl (fun K hK => ?_); go_big_quiet_op; refine hK _ ?_; clear hK K)
  refine mix_end (by kernel_rfl) (fun w7 he => ?_)
  have HB7 := Lib.hid (HB6.out.keeps he (fun h => h))
  have HE7 := Lib.hid (HE6.out.trans he)
  clear he HB6 HE6
  go_wp2_with fail
  refine bodyPost_ret (results_cell_tmp rfl rfl rfl (run_loadVar_api w7 _ n HR.out HB7.out)) rfl ?_
  exact ⟨rfl, HE7.out⟩
set_option maxRecDepth 100000 in
set_option maxHeartbeats 4000000 in
/-- A node of seventeen items. -/
theorem readMany_c (w : World) (xs : List ByteArray) (n : NodeT) (hr : n.refs.length = 16) (hl : xs.length = 17) (hx : ∀ x ∈ xs, IsItem x) (hs : (catB xs).size ≤ 1048576)
    (hc : ∀ w v, RdS w v xs → Calls Tryz.prog 83 #[v] w fun e w' => e = .returned (.tuple #[n.V, .bool true]) ∧ Ext w w') :
    Calls Tryz.prog 58 #[.string (listB xs)] w fun e w' => e = .returned (.tuple #[n.V, .bool true]) ∧ Ext w w' := by
  obtain ⟨o, h1, h2, h3⟩ := cut_list0 xs hs
  have hls := listB_size xs
  obtain ⟨em, hem⟩ : ∃ em, em = textB ⟨#[]⟩ := ⟨_, rfl⟩
  have hne := toList_ne (list_ne_empty xs hs)
  obtain ⟨s, hsd⟩ : ∃ s, s = listB xs := ⟨_, rfl⟩
  obtain ⟨c, hcd⟩ : ∃ c, c = catB xs := ⟨_, rfl⟩
  rw [← hsd] at h1 h2 h3 hls hne ⊢
  rw [← hcd] at h1 h2 h3 hls hs
  rw [← hem] at hne
  have HS := Lib.hid (show s.size ≤ 1000000000 by omega)
  have H1 := Lib.hid h1
  have H3 := Lib.hid h3
  have HEM := Lib.hid hem
  have HCD := Lib.hid hcd
  have HCS := Lib.hid hs
  have HL := Lib.hid hl
  have H2 := Lib.hid h2
  have HR := Lib.hid hr
  have HC := Lib.hid hc
  clear h1 h2 h3 hls hsd hcd hem hs hr hc hl
  go_enter Tryz.func58, Tryz.ntmps58
  go_wp2_with (refine wpList_new Tryz.allocNode rfl rfl ?_; intro W1 hB1 hE1)
  refine (text_c _ ⟨#[]⟩ (by decide)).mono ?_
  rintro e w2 ⟨rfl, hE⟩
  rw [← HEM.out]
  have HB2 := Lib.hid (hB1.keeps hE (fun h => h))
  have HE2 := Lib.hid (hE1.trans hE)
  clear hB1 hE1 hE
  go_wp2_with fail
  refine (split_c _ s _ HS.out H1.out).mono ?_
  rintro e w3 ⟨rfl, hE⟩
  simp only
  rw [H3.out, H2.out, extract_end]
  have HB3 := Lib.hid (HB2.out.keeps hE (fun h => h))
  have HE3 := Lib.hid (HE2.out.trans hE)
  clear hE HE2 HB2
  go_wp2_with fail
  rw [HCD.out]
  refine (items_c w3 xs hx (by rw [← HCD.out]; have := HCS.out; omega) (by have := HL.out; omega)).mono ?_
  rintro e w4 ⟨v, rfl, hv⟩
  have HB4 := Lib.hid (HB3.out.keeps hv.ext (fun h => h))
  have HE4 := Lib.hid (HE3.out.trans hv.ext)
  have hrd := hv.rd
  rcases hv.sl with ⟨ad, cp, rfl⟩
  rw [HL.out] at hrd ⊢
  have hcall := HC.out w4 _ hrd
  have HCL := Lib.hid hcall
  clear hv HE3 HB3 hrd hcall
  go_wp2_with fail
  refine HCL.out.mono ?_
  rintro e w5 ⟨rfl, hE⟩
  have HE5 := Lib.hid (HE4.out.trans hE)
  have hB5 := HB4.out.keeps hE (fun h => h)
  clear hE HE4 HB4
  unfold NodeT.V
  go_wp2_with (refine wpList_fill (vs := n.cells) rfl rfl rfl rfl hB5 (by rw [n.cells_len HR.out]; rfl) (by rw [n.cells_len HR.out]; exact Tryz.szNode) n.one ?_; intro W8 hB8 hE8)
  refine bodyPost_ret (results_cell_tmp rfl rfl rfl (run_loadVar_api W8 _ n HR.out hB8)) rfl ?_
  exact ⟨rfl, HE5.out.trans' hE8 (fun x hx e => by have e : x = w.heap.size := e; omega)⟩
end
end Go.Proofs.YtneojlgbcaejmaaGreatDoor
/- node: Get, Inline. -/
namespace Go.Proofs.YtneojlgbcaejmaaGreatDoor
section
open Go Go.RowKit
set_option linter.unusedSimpArgs false
set_option linter.unusedVariables false
theorem fold_set : ∀ (l : List ByteArray) (i : Nat) (m : List ByteArray) (j : Nat), i + l.length ≤ m.length →
    ((refsFrom i l).foldl (fun l x => l.set x.1 x.2) m)[j]? = if i ≤ j ∧ j < i + l.length ∧ (l.getD (j - i) ⟨#[]⟩).size ≠ 0 then some (l.getD (j - i) ⟨#[]⟩) else m[j]?
  | [], i, m, j, _ => by
    rw [if_neg (fun h => by have h1 := h.1; have h2 := h.2.1; rw [List.length_nil] at h2; omega)]; rfl
  | r :: l, i, m, j, h => by
    unfold refsFrom
    simp only [List.length_cons] at h ⊢
    have key : ∀ (m' : List ByteArray), m'.length = m.length → (∀ k, k ≠ i → m'[k]? = m[k]?) → ((refsFrom (i + 1) l).foldl (fun l x => l.set x.1 x.2) m')[j]? = if i ≤ j ∧ j < i + (l.length + 1) ∧ ((r :: l).getD (j - i) ⟨#[]⟩).size ≠ 0 ∧ j ≠ i then some ((r :: l).getD (j - i) ⟨#[]⟩) else m'[j]? := by
      intro m' hm' hk
      rw [fold_set l (i + 1) m' j (by omega)]
      by_cases hj : i + 1 ≤ j
      · have e : (r :: l).getD (j - i) ⟨#[]⟩ = l.getD (j - (i + 1)) ⟨#[]⟩ := by
          rw [show j - i = (j - (i + 1)) + 1 by omega, List.getD_cons_succ]
        rw [e]
        by_cases h2 : j < i + 1 + l.length ∧ (l.getD (j - (i + 1)) ⟨#[]⟩).size ≠ 0
        · rw [if_pos ⟨hj, h2.1, h2.2⟩, if_pos ⟨by omega, by omega, h2.2, by omega⟩]
        · rw [if_neg (fun h3 => h2 h3.2), if_neg (fun h3 => h2 ⟨by omega, h3.2.2.1⟩)]
      · rw [if_neg (fun h3 => hj h3.1), if_neg (fun h3 => hj (by omega))]
    split
    · rename_i h0
      rw [key m rfl (fun _ _ => rfl)]
      by_cases hj : j = i
      · subst hj
        rw [if_neg (fun h3 => h3.2.2.2 rfl), if_neg (fun h3 => h3.2.2 (by rw [Nat.sub_self]; exact h0))]
      · by_cases h2 : i ≤ j ∧ j < i + (l.length + 1) ∧ ((r :: l).getD (j - i) ⟨#[]⟩).size ≠ 0
        · rw [if_pos ⟨h2.1, h2.2.1, h2.2.2, hj⟩, if_pos h2]
        · rw [if_neg (fun h3 => h2 ⟨h3.1, h3.2.1, h3.2.2.1⟩), if_neg h2]
    · rename_i h0
      rw [List.foldl_cons, key (m.set i r) (by simp) (fun k hk => List.getElem?_set_ne (Ne.symm hk))]
      by_cases hj : j = i
      · subst hj
        rw [if_neg (fun h3 => h3.2.2.2 rfl), if_pos ⟨Nat.le_refl _, by omega, by rw [Nat.sub_self]; exact h0⟩, Nat.sub_self]
        rw [List.getElem?_set_self (by omega)]; rfl
      · rw [List.getElem?_set_ne (Ne.symm hj)]
        by_cases h2 : i ≤ j ∧ j < i + (l.length + 1) ∧ ((r :: l).getD (j - i) ⟨#[]⟩).size ≠ 0
        · rw [if_pos ⟨h2.1, h2.2.1, h2.2.2, hj⟩, if_pos h2]
        · rw [if_neg (fun h3 => h2 ⟨h3.1, h3.2.1, h3.2.2.1⟩), if_neg h2]
theorem branchL_eq (n : NodeT) (hr : n.refs.length = 16) : branchL n = branchX n.refs n.value := by
  apply List.ext_getElem?
  intro j
  unfold branchL brItems branchX
  rw [List.take_of_length_le (Nat.le_refl _)]
  unfold NodeT.refsL
  have hlen : ((refsFrom 0 n.refs).foldl (fun l x => l.set x.1 x.2) (List.replicate 17 (textB ⟨#[]⟩))).length = 17 := by
    have := brItems_len n n.refsL.length
    unfold brItems at this
    rw [List.take_of_length_le (Nat.le_refl _)] at this; exact this
  by_cases h16 : j = 16
  · subst h16
    rw [List.getElem?_set_self (by rw [hlen]; omega), List.getElem?_append_right (by rw [List.length_map, hr]; omega), List.length_map, hr]; rfl
  · rw [List.getElem?_set_ne (by omega), fold_set n.refs 0 _ j (by rw [hr, List.length_replicate]; omega), hr]
    by_cases hj : j < 16
    · have hlt : j < n.refs.length := by omega
      rw [List.getElem?_append_left (by rw [List.length_map]; exact hlt), List.getElem?_map, List.getElem?_eq_getElem hlt]
      have e : n.refs.getD (j - 0) ⟨#[]⟩ = n.refs[j] := by rw [List.getD_eq_getElem?_getD, Nat.sub_zero, List.getElem?_eq_getElem hlt]; rfl
      rw [e]
      by_cases h0 : n.refs[j].size = 0
      · rw [if_neg (fun h3 => h3.2.2 h0), List.getElem?_replicate, if_pos (by omega), Option.map_some, if_pos h0]
      · rw [if_pos ⟨by omega, by omega, h0⟩, Option.map_some, if_neg h0]
    · rw [if_neg (fun h3 => hj (by omega)), List.getElem?_replicate, if_neg (by omega), List.getElem?_eq_none (by simp [hr]; omega)]
section
variable {I : ByteArray → NodeT → Prop} (HI : InlP I)
include HI
theorem MayP.item {r : ByteArray} (h : MayP I r) : IsItem r := by
  rcases h with ⟨h, h1, rfl⟩ | ⟨m, hm⟩
  · exact isItem_text h (by omega)
  · obtain ⟨xs, rfl, h2⟩ := HI.list r m hm
    exact isItem_list xs h2
theorem MayP.ne {r : ByteArray} (h : MayP I r) : r ≠ textB ⟨#[]⟩ := by
  rcases h with h | ⟨m, hm⟩
  · intro e
    have := h.size
    rw [e] at this; exact absurd this (by decide)
  · obtain ⟨xs, rfl, h2⟩ := HI.list r m hm
    exact list_ne_empty xs h2
theorem read_c4 (w : World) (n : NodeT) (h : GoodW I n) : Calls Tryz.prog 58 #[.string (nodeB n)] w fun e w' => e = .returned (.tuple #[n.V, .bool true]) ∧ Ext w w' := by
  have h1 := h.one HI
  have hbl := branchL_size n h1
  cases h with
  | none => exact readNone_c w
  | leaf p v h2 h3 h4 =>
    obtain ⟨a, b, c⟩ := pathOk_spec h2
    have z1 := putB_size p true
    have z2 := textB_size (putB p true)
    have z3 := textB_size v
    simp only at b
    exact readTwo_c w (textB (putB p true)) (textB v) _ h1.refs (isItem_text _ (by omega)) (isItem_text _ (by omega)) (by omega) (fun w => readLeaf_c w p v (by omega) (by omega) c)
  | ext p r h2 h3 h4 =>
    obtain ⟨a, b, c⟩ := pathOk_spec h2
    have z1 := putB_size p false
    have z2 := textB_size (putB p false)
    simp only at b
    have hm : MayP I r := h4.imp id (fun ⟨m, h, _⟩ => ⟨m, h⟩)
    have z3 := hm.size HI
    exact readTwo_c w (textB (putB p false)) r _ h1.refs (isItem_text _ (by omega)) (hm.item HI) (by omega) (fun w => readExt_c w p r (by omega) c)
  | branch v rs h2 h3 h4 h5 =>
    have e : branchL ⟨3, ⟨#[]⟩, v, rs⟩ = branchX rs v := branchL_eq _ h2
    have hitem : ∀ x ∈ branchX rs v, IsItem x := by
      intro x hx
      unfold branchX at hx
      rcases List.mem_append.1 hx with hx | hx
      · obtain ⟨r, hr, rfl⟩ := List.mem_map.1 hx
        by_cases h0 : r.size = 0
        · rw [if_pos h0]; exact isItem_text _ (by decide)
        · rw [if_neg h0]; exact (h4 r hr h0).item HI
      · rw [List.mem_singleton.1 hx]; exact isItem_text _ (by omega)
    show Calls Tryz.prog _ #[.string (listB (branchL ⟨3, ⟨#[]⟩, v, rs⟩))] w _
    rw [e] at hbl ⊢
    exact readMany_c w (branchX rs v) _ h2 (by simp [branchX, h2]) hitem (by omega) (fun w a ha => readBranch_c w a rs v h2 (by omega) (fun r hr h0 => (h4 r hr h0).ne HI) ha)
end
end
end Go.Proofs.YtneojlgbcaejmaaGreatDoor
/- node: Get, Inline, by depth. -/
namespace Go.Proofs.YtneojlgbcaejmaaGreatDoor
section
open Go Go.RowKit
set_option linter.unusedSimpArgs false
set_option linter.unusedVariables false
theorem nodeB_size (n : NodeT) (h : Node1 n) : (nodeB n).size ≤ 2000 := by
  unfold nodeB
  have h1 := h.path
  have h2 := h.value
  split
  · exact Nat.le_trans (textB_size _) (by decide)
  · split
    · have z1 := putB_size n.path true
      have z2 := textB_size (putB n.path true)
      have z3 := textB_size n.value
      have z4 := listB_size [textB (putB n.path true), textB n.value]
      rw [catB_cons, catB_cons, catB_nil] at z4
      unfold leafB; omega
    · split
      · have z1 := putB_size n.path false
        have z2 := textB_size (putB n.path false)
        have z4 := listB_size [textB (putB n.path false), n.refs.getD 0 ⟨#[]⟩]
        rw [catB_cons, catB_cons, catB_nil] at z4
        have z5 : (n.refs.getD 0 ⟨#[]⟩).size ≤ 33 := h.each _ (by
          rw [List.getD_eq_getElem?_getD, List.getElem?_eq_getElem (by rw [h.refs]; omega)]; exact List.getElem_mem _)
        unfold extB; omega
      · have z := branchL_size n h
        have z4 := listB_size (branchL n)
        unfold branchB; omega
theorem nodeB_list (n : NodeT) (h : Node1 n) (hk : n.kind ≠ 0) : ∃ xs, nodeB n = listB xs ∧ (catB xs).size ≤ 1048576 := by
  have h1 := h.path
  have h2 := h.value
  unfold nodeB
  rw [if_neg hk]
  split
  · have z1 := putB_size n.path true
    have z2 := textB_size (putB n.path true)
    have z3 := textB_size n.value
    exact ⟨_, rfl, by rw [catB_cons, catB_cons, catB_nil]; omega⟩
  · split
    · have z1 := putB_size n.path false
      have z2 := textB_size (putB n.path false)
      have z5 : (n.refs.getD 0 ⟨#[]⟩).size ≤ 33 := h.each _ (by
        rw [List.getD_eq_getElem?_getD, List.getElem?_eq_getElem (by rw [h.refs]; omega)]; exact List.getElem_mem _)
      exact ⟨_, rfl, by rw [catB_cons, catB_cons, catB_nil]; omega⟩
    · exact ⟨_, rfl, by have := branchL_size n h; omega⟩
section
variable {I : ByteArray → NodeT → Prop} (HI : InlP I)
include HI
set_option maxRecDepth 100000 in
set_option maxHeartbeats 2000000 in
theorem get_c4 (w : World) (n : NodeT) (h : GoodW I n) : Calls Tryz.prog 40 #[.string (nodeB n)] w fun e w' => e = .returned (.tuple #[n.V, .int .i64 0]) ∧ Ext w w' := by
  have h1 := h.one HI
  obtain ⟨s, hs⟩ : ∃ s, s = nodeB n := ⟨_, rfl⟩
  rw [← hs]
  have HS := Lib.hid hs
  have H := Lib.hid h
  have H1 := Lib.hid h1
  have HL := Lib.hid (n.cells_len h1.refs)
  clear h h1 hs
  go_enter Tryz.func40, Tryz.ntmps40
  go_wp2_with (refine wpList_new Tryz.allocNode rfl rfl ?_; intro W1 hB1 hE1)
  rw [HS.out]
  refine (read_c4 HI W1 n H.out).mono ?_
  rintro e w2 ⟨rfl, hE⟩
  rw [← HS.out]
  have HB2 := Lib.hid (hB1.keeps hE (fun h => h))
  have HE2 := Lib.hid (hE1.trans hE)
  clear hB1 hE1 hE
  unfold NodeT.V
  go_wp2_with (first | (refine wpList_new Tryz.allocNode rfl rfl ?_; intro W3 hB3 hE3; refine wpList_fill (vs := n.cells) rfl rfl rfl rfl hB3 (by rw [HL.out]; rfl) (by rw [HL.out]; exact Tryz.szNode) n.one ?_; intro W4 hB4 hE4) | (refine wpList_load_known 76 (.tmp 4) rfl rfl _ _ rfl (run_load_api _ _ n H1.out.refs hB4) ?_))
  have hX4 : Ext w2 W4 := hE3.trans' hE4 (fun x hx e => by have e : x = w2.heap.size := e; omega)
  refine (valid_c4 HI W4 n H.out).mono ?_
  rintro e w5 ⟨rfl, hE⟩
  have hB5 := hB4.keeps hE (fun h => h)
  have HB5 := Lib.hid hB5
  have HX := Lib.hid (hX4.trans hE)
  clear hB3 hE3 hB4 hE4 hX4 hE
  go_wp2_with (refine wpList_load_known 76 (.tmp 4) rfl rfl _ _ rfl (run_load_api _ _ n H1.out.refs hB5) ?_)
  refine (ntext_c w5 n H1.out).mono ?_
  rintro e w6 ⟨rfl, hE⟩
  rw [← HS.out]
  have hB6 := HB5.out.keeps hE (fun h => h)
  have hX6 := HX.out.trans hE
  have hB26 := HB2.out.keeps hX6 (fun h => h)
  clear hB5 hE
  go_wp2_with (first | (refine wpList_load_known 76 (.tmp 4) rfl rfl _ _ rfl (run_load_api _ _ n H1.out.refs hB6) ?_) | (refine wpList_fill (vs := n.cells) rfl rfl rfl rfl hB26 (by rw [HL.out]; rfl) (by rw [HL.out]; exact Tryz.szNode) n.one ?_; intro W8 hB8 hE8))
  refine bodyPost_ret (results_cell_tmp rfl rfl rfl (run_loadVar_api W8 _ n H1.out.refs hB8)) rfl ?_
  exact ⟨rfl, (HE2.out.trans hX6).trans' hE8 (fun x hx e => by have e : x = w.heap.size := e; omega)⟩
set_option maxRecDepth 100000 in
set_option maxHeartbeats 2000000 in
theorem inline_c4 (w : World) (n : NodeT) (h : GoodW I n) (hk : n.kind ≠ 0) (hsm : (nodeB n).size < 32) : Calls Tryz.prog 99 #[.string (nodeB n)] w fun e w' => e = .returned (.tuple #[n.V, .bool true]) ∧ Ext w w' := by
  have h1 := h.one HI
  obtain ⟨s, hs⟩ : ∃ s, s = nodeB n := ⟨_, rfl⟩
  rw [← hs] at hsm ⊢
  have c1 : ¬ (32 : Int) ≤ (s.size : Int) := by omega
  have c2 : ((n.kind : Int) == 0) = false := by simp; omega
  have c3 : ¬ (n.kind : Int) = 0 := by omega
  have HS := Lib.hid hs
  have H := Lib.hid h
  have H1 := Lib.hid h1
  have HL := Lib.hid (n.cells_len h1.refs)
  clear h h1 hs hk
  go_enter Tryz.func99, Tryz.ntmps99
  go_wp2_with (refine wpList_new Tryz.allocNode rfl rfl ?_; intro W1 hB1 hE1)
  rw [HS.out]
  refine (get_c4 HI W1 n H.out).mono ?_
  rintro e w2 ⟨rfl, hE⟩
  rw [← HS.out]
  have hB2 := hB1.keeps hE (fun h => h)
  have HE2 := Lib.hid (hE1.trans hE)
  clear hB1 hE1 hE
  unfold NodeT.V
  go_wp2_with (first | (refine wpList_new Tryz.allocNode rfl rfl ?_; intro W3 hB3 hE3; refine wpList_fill (vs := n.cells) rfl rfl rfl rfl hB3 (by rw [HL.out]; rfl) (by rw [HL.out]; exact Tryz.szNode) n.one ?_; intro W4 hB4 hE4; have q0 : W4.cell? ⟨w2.heap.size, 0, none⟩ = some (.int .i64 (n.kind : Int)) := hB4.cellL (by rfl); have hB24 := (hB2.keeps hE3 (fun h => h)).keeps hE4 (by have := hB2.lt; omega)) | (refine wpList_load_known 76 (.tmp 4) rfl rfl _ _ rfl (run_load_api _ _ n H1.out.refs hB4) ?_) | (refine wpList_fill (vs := n.cells) rfl rfl rfl rfl hB24 (by rw [HL.out]; rfl) (by rw [HL.out]; exact Tryz.szNode) n.one ?_; intro W8 hB8 hE8))
  refine bodyPost_ret (results_cell_tmp rfl rfl rfl (run_loadVar_api W8 _ n H1.out.refs hB8)) rfl ?_
  have hX4 : Ext w2 W4 := hE3.trans' hE4 (fun x hx e => by have e : x = w2.heap.size := e; omega)
  exact ⟨rfl, (HE2.out.trans hX4).trans' hE8 (fun x hx e => by have e : x = w.heap.size := e; omega)⟩
end
/-- Which texts, as refs, are which nodes; so many in one another. -/
def InlD : Nat → ByteArray → NodeT → Prop
  | 0, _, _ => False
  | d + 1, r, m => GoodW (InlD d) m ∧ r = nodeB m ∧ r.size < 32 ∧ m.kind ≠ 0
theorem inlP : ∀ d, InlP (InlD d)
  | 0 => ⟨fun _ _ h => h.elim, fun _ _ h => h.elim, fun _ _ h => h.elim, fun _ _ h => h.elim, fun _ _ h => h.elim, fun _ _ h => h.elim⟩
  | d + 1 => by
    have ih := inlP d
    have hl : ∀ r m, InlD (d + 1) r m → ∃ xs, r = listB xs ∧ (catB xs).size ≤ 1048576 := fun r m ⟨h1, h2, h3, h4⟩ => by
      obtain ⟨xs, h5, h6⟩ := nodeB_list m (h1.one ih) h4
      exact ⟨xs, h2.trans h5, h6⟩
    refine ⟨fun r m h => (h.1.one ih).refs, fun r m h => h.2.2.1, fun r m h => ?_, hl, fun r m h => ?_, fun r m h w => ?_⟩
    · obtain ⟨xs, h5, h6⟩ := hl r m h
      obtain ⟨o, h7, _⟩ := cut_list0 xs h6
      rw [h5]
      have := (cutN_pos h7).1
      omega
    · obtain ⟨xs, h5, h6⟩ := hl r m h
      rw [h5]; exact hash_list xs h6
    · obtain ⟨h1, h2, h3, h4⟩ := h
      rw [h2] at h3 ⊢
      exact inline_c4 ih w m h1 h4 h3
end
end Go.Proofs.YtneojlgbcaejmaaGreatDoor
