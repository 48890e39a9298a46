/- Parts of the proof, one behind the other: HashA, RowT, CanonPb, FewB, StoreA. Each is under no condition but those that it states. -/
import Derived.Test.YtjogjmffkmfmbaaGreatDoorPc19
import Derived.Test.YtjogjmffkmfmbaaGreatDoorPc20
/- node: Hashes, of nodes that may be. -/
namespace Go.Proofs.YtjogjmffkmfmbaaGreatDoor
section
open Go Go.RowKit
set_option linter.unusedSimpArgs false
set_option linter.unusedVariables false
attribute [local go_sem] Oper.semAt_some
theorem refs_hashes : ∀ (l : List ByteArray) (i : Nat), ((refsFrom i l).filterMap fun x => hashR x.2) = l.filterMap hashR
  | [], _ => rfl
  | x :: l, i => by
    unfold refsFrom
    by_cases h : x.size = 0
    · rw [if_pos h, refs_hashes l, List.filterMap_cons, ba_empty h, hashR_nil]
    · rw [if_neg h, List.filterMap_cons, List.filterMap_cons, refs_hashes l]
/-- The hashes of the first k refs. -/
def hashK (n : NodeT) (k : Nat) : List ByteArray := (n.refsL.take k).filterMap fun x => hashR x.2
theorem hashK_all (n : NodeT) : hashK n n.refsL.length = hashesT n := by
  unfold hashK; rw [List.take_length]; exact refs_hashes _ _
theorem hashK_step (n : NodeT) {k : Nat} (hk : k < n.refsL.length) : hashK n (k + 1) = hashK n k ++ (hashR (n.rr k)).toList := by
  unfold hashK
  rw [List.take_succ_eq_append_getElem hk, List.filterMap_append]
  congr 1
  have : n.rr k = (n.refsL[k]).2 := by simp [NodeT.rr, List.getD_eq_getElem?_getD, hk]
  rw [this, List.filterMap_cons]
  cases hashR (n.refsL[k]).2 <;> rfl
theorem hashK_len (n : NodeT) (k : Nat) : (hashK n k).length ≤ n.refs.length := by
  have h1 : ∀ (l : List ByteArray) (i : Nat), (refsFrom i l).length ≤ l.length := by
    intro l
    induction l with
    | nil => intro i; simp [refsFrom]
    | cons x r ih => intro i; unfold refsFrom; split <;> simp <;> have := ih (i + 1) <;> omega
  have h2 := h1 n.refs 0
  unfold hashK
  have h3 := List.length_filterMap_le (fun x : Nat × ByteArray => hashR x.2) (n.refsL.take k)
  rw [List.length_take] at h3
  have : n.refsL = refsFrom 0 n.refs := rfl
  rw [this] at h3 ⊢
  omega
theorem mem_list {x : ByteArray} {l : List ByteArray} (h : x ∈ l) : x.size ≤ (listB l).size := Nat.le_trans (catB_mem l x h) (listB_ge l)
theorem may_none {d : Nat} {r : ByteArray} (h : MayP (InlD d) r) (hs : r.size < 32) : hashR r = none := by
  rcases h with h | ⟨m, h⟩
  · have := h.size; omega
  · exact hashR_inl (inlP d) h
/-- A node that stands in a ref refers to nothing by a hash. -/
theorem small_hashes {d : Nat} {n : NodeT} (h : GoodW (InlD d) n) (hs : (nodeB n).size < 32) : hashesT n = [] := by
  unfold hashesT
  cases h with
  | none => exact hashes_no 16
  | leaf p v h1 h2 h3 => exact hashes_no 16
  | ext p r h1 h2 h3 =>
    show (r :: noRefs 15).filterMap hashR = []
    have hr : r.size < 32 := by
      have e : nodeB ⟨2, p, ⟨#[]⟩, r :: noRefs 15⟩ = listB [textB (putB p false), r] := rfl
      have := mem_list (x := r) (l := [textB (putB p false), r]) (by simp)
      rw [e] at hs; omega
    rw [List.filterMap_cons, hashes_no, may_none (h3.imp id fun ⟨m, h, _⟩ => ⟨m, h⟩) hr]
  | branch v rs h1 h2 h3 h4 =>
    show rs.filterMap hashR = []
    rw [List.filterMap_eq_nil_iff]
    intro r hr
    by_cases h0 : r.size = 0
    · rw [ba_empty h0, hashR_nil]
    · have e : nodeB ⟨3, ⟨#[]⟩, v, rs⟩ = listB (branchX rs v) := by
        show listB (branchL _) = _
        rw [branchL_eq _ h1]
      have hm : r ∈ branchX rs v := by
        unfold branchX
        refine List.mem_append.2 (.inl (List.mem_map.2 ⟨r, hr, ?_⟩))
        rw [if_neg h0]
      have := mem_list hm
      rw [e] at hs
      exact may_none (h3 r hr h0) (by omega)
theorem own_le {w : World} {B : Nat} {T : TypeId} {sz : Nat} {ad : Option Addr} {n cp : Nat} {xs : List Value} (h : w.ownsRow B T sz (.slice ad n cp) n xs) : n ≤ cp := by
  obtain ⟨_, ⟨h1, h2⟩ | ⟨g, cap, cur, h1, h2, h3, h4, _⟩⟩ := h
  · omega
  · obtain ⟨_, _, h5⟩ := Value.slice.inj h1; omega
structure HsS (w : World) (g3 gi m : Nat) (n : NodeT) (k : Nat) (W : World) : Prop where
  ext : Ext w W
  it : Blk W gi (.cells n.cells.toArray 154)
  row : ∃ v, Blk W g3 (.cells #[v] 22) ∧ W.ownsRow 0 9 1 v (hashK n k).length ((hashK n k).map Value.string) ∧ (∀ b, v.ownBlock = some b → m + 2 ≤ b) ∧ (hashK n k = [] → v = .slice none 0 0)
theorem HsS.st {w : World} {g3 gi m : Nat} {n : NodeT} {k : Nat} {W W' : World} (h : HsS w g3 gi m n k W) (e : Ext W W') : HsS w g3 gi m n k W' :=
  let ⟨v, h1, h2, h3, h4⟩ := h.row
  ⟨h.ext.trans e, h.it.keeps e (fun h => h), v, h1.keeps e (fun h => h), own_ext h2 e, h3, h4⟩
theorem HsS.put {w : World} {g3 gi m : Nat} {n : NodeT} {k : Nat} {W : World} (h : HsS w g3 gi m n k W) {r : Nat} (hr : w.heap.size ≤ r) (h1 : g3 < r) (h1' : gi < r) (h2 : r < m + 2) (o : Obj) : HsS w g3 gi m n k (W.putObj r o) :=
  let ⟨v, h3, h4, h5, h6⟩ := h.row
  ⟨h.ext.putObj (.inr hr) _, h.it.put_other (by omega) _, v, h3.put_other (by omega) _, own_keeps h4 (Keeps.onePut W r o) (fun b hb e => by have := h5 b hb; omega), h5, h6⟩
/-- What Hashes answers. -/
def HashP (w : World) (n : NodeT) (e : Ending) (w' : World) : Prop := ∃ v, e = .returned v ∧ SRow w w' v (hashesT n).length (hashesT n) ∧ (hashesT n = [] → v = .slice none 0 0)
theorem good_may {I : ByteArray → NodeT → Prop} {n : NodeT} (h : GoodW I n) : ∀ r ∈ n.refs, r.size ≠ 0 → MayP I r := by
  have hz : ∀ r ∈ noRefs 16, r.size ≠ 0 → MayP I r := fun r hr h0 => by rw [List.eq_of_mem_replicate hr] at h0; exact absurd rfl h0
  cases h with
  | none => exact hz
  | leaf p v h1 h2 h3 => exact hz
  | ext p r h1 h2 h3 =>
    intro x hx h0
    rcases List.mem_cons.1 hx with rfl | hx
    · exact h3.imp id fun ⟨m, h, _⟩ => ⟨m, h⟩
    · rw [List.eq_of_mem_replicate hx] at h0; exact absurd rfl h0
  | branch v rs h1 h2 h3 h4 => exact h3
theorem Tryz.enterHashes : ∀ args w, (callFunc 87 args).run Tryz.prog w = .ok (.enter 87 args) w := fun _ _ => by kernel_rfl
set_option maxRecDepth 100000 in
set_option maxHeartbeats 4000000 in
theorem hashes_step (d : Nat) (n : NodeT) (h : GoodW (InlD d) n) (ih : ∀ r m, InlD d r m → ∀ w, Calls Tryz.prog 87 #[m.V] w (HashP w m)) (w : World) : Calls Tryz.prog 87 #[n.V] w (HashP w n) := by
  have hr := (h.one (inlP d)).refs
  obtain ⟨i0, hi, hz0, hz1, hz2⟩ := info_parts Tryz.infoStr
  have HV := Lib.hid (fun w => valid_c4 (inlP d) w n h)
  have HM := Lib.hid (good_may h)
  have HIH := Lib.hid ih
  have HQ := Lib.hid (show ∀ (v : Value) W', HashP w n (.returned v) W' ↔ (SRow w W' v (hashesT n).length (hashesT n) ∧ (hashesT n = [] → v = .slice none 0 0)) from fun v W' => ⟨fun ⟨_, e, h⟩ => by cases e; exact h, fun h => ⟨v, rfl, h⟩⟩)
  have hld := run_load_api (w.alloc (.cells n.cells.toArray 108)) _ n hr (Blk.new w _)
  clear h ih
  unfold NodeT.V at hld ⊢
  rw [← callsIn_wide (n := 0)]
  refine callsIn_of_wp_marks Tryz.func87 rfl trivial ?_ rfl
  simp only [Tryz.ntmps87, List.size_toArray, List.length_cons, List.length_nil, Nat.reduceAdd, Nat.reduceSub, Array.replicate_succ, Array.replicate_zero, List.push_toArray, List.append_toArray, List.nil_append, List.cons_append]
  gi_wp2_with (refine wpListIn_load_known rfl 108 (.tmp 1) rfl _ _ rfl hld ?_)
  refine ⟨trivial, rfl, CallsIn.mono (callsIn_wide.2 (HV.out _)) ?_⟩
  rintro e w1 ⟨rfl, hE⟩
  have hB1 := (Blk.new w (.cells n.cells.toArray 108)).keeps hE (fun h => h)
  have HE1 := Lib.hid (((ExtR w).alloc _).trans hE)
  obtain ⟨W2, hW2⟩ : ∃ W2, W2 = w1.alloc (.cells #[.slice none 0 0] 22) := ⟨_, rfl⟩
  have HW2 := Lib.hid hW2
  have hB2 : Blk W2 w.heap.size (.cells n.cells.toArray 108) := by rw [hW2]; exact hB1.alloc _
  have HB3 := Lib.hid (show Blk W2 w1.heap.size (.cells #[.slice none 0 0] 22) by rw [hW2]; exact Blk.new w1 _)
  have HE2 := Lib.hid (show Ext w W2 by rw [hW2]; exact HE1.out.alloc _)
  have hld2 := run_load_api W2 _ n hr hB2
  have hg3 := hB1.lt
  rw [hW2] at hld2
  clear hld hE hB1 hW2 hB2
  unfold NodeT.V at hld2
  gi_wp2_with (refine wpListIn_load_known rfl 108 (.tmp 1) rfl _ _ rfl hld2 ?_)
  rw [← HW2.out]
  refine ⟨trivial, rfl, CallsIn.mono (callsIn_wide.2 (refs_c W2 n)) ?_⟩
  rintro e w3 ⟨rfl, hbn, hE⟩
  have hW2s := HB3.out.lt
  obtain ⟨gi, hgi⟩ : ∃ g, g = W2.heap.size := ⟨_, rfl⟩
  obtain ⟨g3, hg3e⟩ : ∃ g, g = w1.heap.size := ⟨_, rfl⟩
  rw [← hg3e] at HB3 hW2s hg3
  rw [← hgi] at hbn hW2s ⊢
  rw [← hg3e]
  have S0 : HsS w g3 gi w3.heap.size n 0 w3 := ⟨HE2.out.trans hE, hbn, _, HB3.out.keeps hE (fun h => h), World.ownsRow_nil _ _ _ _, (fun b hb => by cases hb), (fun _ => rfl)⟩
  have hl1 := hbn.lt
  have hgw := HE1.out.size
  have HS0 := Lib.hid S0
  have HGW := Lib.hid (show w.heap.size ≤ g3 by omega)
  clear hld2 hbn hE HE1 HW2 HB3 HE2 S0 hgw hgi hg3e
  gi_wp2_with fail
  refine wp_rangeE (N := n.refsL.length) (gf := 177) (lb := #[.pointer (some ⟨gi, 0, none⟩)]) rfl Tryz.enterRefs1 (refs_it gi n hr)
    (fun k => rfl) (HsS w g3 gi w3.heap.size n) (fun _ _ _ => False) (fun k W W' h e => h.st e) (fun _ _ _ _ h _ => h) (fun k W h => h.it)
    (fun k W o h => h.put (by have := HGW.out; omega) (by omega) (by omega) (by omega) _)
    (fun k W o h => h.put (by have := HGW.out; omega) (by omega) (by omega) (by omega) _) (fun _ _ _ _ h => h)
    HS0.out (fun k => { tmps := #[.agg n.cells.toArray, .pointer (some ⟨w.heap.size, 0, none⟩), .slice none 0 0, .pointer (some ⟨g3, 0, none⟩), undef, .string (n.rr k), undef, undef, undef, undef, .agg n.cells.toArray, .bool true, .bool false, .agg n.cells.toArray, .func (.func 177) #[] #[.pointer (some ⟨gi, 0, none⟩)], .int .i64 (n.ri k : Nat), .string (n.rr k), undef, undef, undef, undef, undef, undef, undef, undef, undef, undef, undef, undef, undef, undef, undef, undef, undef, undef, undef, undef], defers := [] })
    ?hassign ?hbody ?hdone ?hstop
  case hassign =>
    intro l j W K hK
    rw [rv_eq, fold2]
    simp only [List.set_cons_zero, List.set_cons_succ]
    gi_wp2
    exact hK
  case hbody =>
    intro l k W hk hS hlt
    have hri := ri_lt n hr hk
    have hmay := HM.out _ (List.mem_of_getElem? hri.2.1) hri.2.2
    have hst := hashK_step n hk
    have hkl := hashK_len n k
    rw [hr] at hkl
    obtain ⟨r, hre⟩ : ∃ r, r = n.rr k := ⟨_, rfl⟩
    rw [← hre] at hmay hst ⊢
    have HS := Lib.hid hS
    have HST := Lib.hid hst
    have hwg := HGW.out
    have HWG := Lib.hid hwg
    clear hS hri hst hre hwg
    rcases hmay with hh | ⟨m, hm⟩
    · obtain ⟨hs, x, q, h3, h4⟩ := hh.known
      have HX := Lib.hid (show hashK n (k + 1) = hashK n k ++ [x] by
        rw [HST.out]; unfold hashR; rw [h3]; show _ ++ (hashB r q).toList = _; rw [h4]; rfl)
      have H3 := Lib.hid h3
      have H4 := Lib.hid h4
      clear h3 h4 hh
      gi_wp2_with fail
      refine ⟨trivial, rfl, CallsIn.mono (CallsIn.inRound l (callsIn_wide.2 (hash_c W r q hs H3.out))) ?_⟩
      rintro e w5 ⟨rfl, hE⟩
      rw [H4.out]
      have S5 := HS.out.st hE
      obtain ⟨v, h1, h2, h3, h4⟩ := S5.row
      obtain ⟨ad, cp, rfl⟩ := row_slice h2
      have q4 : w5.cell? ⟨g3, 0, none⟩ = some (.slice ad (hashK n k).length cp) := h1.cell (i := 0) (by rfl)
      have f4 : w5.frozen? ⟨g3, 0, none⟩ = false := h1.frozen
      have hsz := hE.size
      have HS5 := Lib.hid S5
      have HE5 := Lib.hid hE
      have HB1 := Lib.hid h1
      have HB2 := Lib.hid h2
      have HB3 := Lib.hid h3
      clear S5 h1 h2 h3 h4 hE
      unfold optV
      gi_wp2_with (gi_at_builtin; refine wpListIn_append_any _ rfl (.tmp 23) (.tmp 25) 22 rfl 9 i0 _ 1 16 Tryz.uStrs hi hz0 hz1 hz2 rfl (by decide) (.slice ad (hashK n k).length cp) (hashK n k).length _ rfl (own_ext HB2.out ((ExtR w5).alloc _)) ⟨w5.heap.size, 0, none⟩ 1 1 [.string x] rfl rfl (news_blk (Blk.new w5 _)) (by simp [Value.oneCell']) (by unfold maxLen; omega) (by omega) ?_)
      intro v' w6 r1 r2 r3
      have K6 : Keeps (fun b => (Value.slice ad (hashK n k).length cp).ownBlock = some b) w5 w6 := ((Keeps.refl _ w5).alloc _).trans r2
      have hl : (hashK n (k + 1)).length = (hashK n k).length + 1 := by rw [HX.out]; simp
      have r1 : w6.ownsRow 0 9 1 v' (hashK n (k + 1)).length ((hashK n (k + 1)).map Value.string) := by
        rw [hl, HX.out, List.map_append]; exact r1
      have nb : ∀ b, b < w3.heap.size + 2 → ¬ (Value.slice ad (hashK n k).length cp).ownBlock = some b := fun b hb e => by have := HB3.out b e; omega
      obtain ⟨ad', cp', rfl⟩ := row_slice r1
      have hv' : ∀ b, (Value.slice ad' (hashK n (k + 1)).length cp').ownBlock = some b → w3.heap.size + 2 ≤ b := fun b hb => by
        rcases r3 with r3 | r3
        · exact HB3.out b (r3 ▸ hb)
        · have := r3 b hb; first | omega | (simp at this; omega)
      have B4 := HB1.out.keeps K6 (nb _ (by omega))
      have q4' : w6.cell? ⟨g3, 0, none⟩ = some (.slice ad (hashK n k).length cp) := B4.cell (i := 0) (by rfl)
      have f4' : w6.frozen? ⟨g3, 0, none⟩ = false := B4.frozen
      have HK6 := Lib.hid K6
      have HB4 := Lib.hid B4
      have R1 := Lib.hid r1
      have HV' := Lib.hid hv'
      have NB := Lib.hid nb
      clear K6 r1 r2 r3 hv' B4 nb q4 f4 hl
      gi_wp2
      have k7 : Keeps (fun b => b = g3) w6 (w6.setCell ⟨g3, 0, none⟩ (.slice ad' (hashK n (k + 1)).length cp')) := Keeps.oneSet w6 ⟨g3, 0, none⟩ _
      refine ⟨((HE5.out.mono (fun _ _ h => h.elim)).trans (HK6.out.mono (fun x _ e => ?_))).trans' k7 (fun x _ e => ?_), ?_⟩
      · have := HB3.out x e; show x ≠ _ ∧ x ≠ _; omega
      · have e : x = _ := e; show x ≠ _ ∧ x ≠ _; omega
      · refine ⟨(HS5.out.ext.trans' HK6.out (fun x hx e => by have := HB3.out x e; have := HWG.out; omega)).trans' k7 (fun x hx e => by have e : x = _ := e; have := HWG.out; omega),
          (HS5.out.it.keeps HK6.out (NB.out _ (by omega))).keeps k7 (fun e => by omega),
          _, HB4.out.set_same (i := 0) _, own_keeps R1.out k7 (fun b hb e => by have := HV'.out b hb; omega), HV'.out, fun h0 => ?_⟩
        rw [HX.out] at h0; simp at h0
    · have hs := (inlP d).small r m hm
      obtain ⟨q, h3, h4⟩ := (inlP d).nohash r m hm
      have HX := Lib.hid (show hashK n (k + 1) = hashK n k by
        rw [HST.out, hashR_inl (inlP d) hm]; simp)
      have HC := Lib.hid ((inlP d).inl r m hm)
      have HRL := Lib.hid ((inlP d).refs r m hm)
      have H3 := Lib.hid h3
      have H4 := Lib.hid h4
      have HCM := Lib.hid (show ∀ W, Calls Tryz.prog 87 #[m.V] W fun e W' => e = .returned (.slice none 0 0) ∧ Ext W W' from fun W => by
        have hsm : hashesT m = [] := by
          cases d with
          | zero => exact hm.elim
          | succ d => exact small_hashes hm.1 (by rw [← hm.2.1]; exact hm.2.2.1)
        refine (HIH.out r m hm W).mono ?_
        rintro e W' ⟨v, rfl, h1, h2⟩
        rw [h2 hsm]; exact ⟨rfl, h1.ext⟩)
      clear h3 h4 hm
      gi_wp2_with fail
      refine ⟨trivial, rfl, CallsIn.mono (CallsIn.inRound l (callsIn_wide.2 (hash_c W r q (by omega) H3.out))) ?_⟩
      rintro e w5 ⟨rfl, hE⟩
      rw [H4.out]
      have HE5 := Lib.hid hE
      clear hE
      unfold optV
      gi_wp2_with fail
      refine ⟨trivial, rfl, CallsIn.mono (CallsIn.inRound l (callsIn_wide.2 (HC.out w5))) ?_⟩
      rintro e w6 ⟨rfl, hE⟩
      have HE6 := Lib.hid (HE5.out.trans hE)
      clear hE HE5
      unfold NodeT.V
      gi_wp2_with (refine wpListIn_new Tryz.allocNode rfl rfl ?_; intro W7 hB7 hE7; refine wpListIn_fill (vs := m.cells) rfl rfl rfl rfl hB7 (by rw [m.cells_len HRL.out]; rfl) (by rw [m.cells_len HRL.out]; exact Tryz.szNode) m.one ?_; intro W8 hB8 hE8)
      have hX8 : Ext w6 W8 := hE7.trans' hE8 (fun x hx e => by have e : x = w6.heap.size := e; omega)
      have S8 := HS.out.st (HE6.out.trans hX8)
      obtain ⟨v, h1, h2, h3, h4⟩ := S8.row
      obtain ⟨ad, cp, rfl⟩ := row_slice h2
      have hcp := own_le h2
      have HS8 := Lib.hid S8
      have HB8 := Lib.hid hB8
      have H1 := Lib.hid h1
      have HX8 := Lib.hid hX8
      have HCP := Lib.hid hcp
      clear hB7 hE7 hE8 hB8 hX8 S8 h1 h2 h3 h4 hcp
      gi_wp2_with fail
      refine wpIn_region_mix_r [0,1,2,3,4] [4] Ext ExtR ExtT (by kernel_rfl) (by kernel_rfl) (by kernel_rfl) (by kernel_rfl) ?_
      refine mix_load ⟨g3, 0, none⟩ _ rfl (by kernel_rfl) rfl rfl (fun w1 h1 => run_load_plain Tryz.uStrs rfl (cell_ext (by exact H1.out.cell (i := 0) (v := .slice ad (hashK n k).length cp) (by rfl)) ((drewE _).trans h1))) ?_
      simp only [Act.put, List.setIfInBounds_toArray, List.set_cons_zero, List.set_cons_succ]
      refine mix_load ⟨w6.heap.size, 0, none⟩ _ rfl (by kernel_rfl) rfl rfl (fun w1 h1 => run_load_api w1 _ m HRL.out (HB8.out.keeps ((drewE _).trans h1) (fun h => h))) ?_
      simp only [Act.put, List.setIfInBounds_toArray, List.set_cons_zero, List.set_cons_succ]
      refine mix_call _ 87 #[m.V] (.slice none 0 0) rfl (by kernel_rfl) rfl (fun w1 => exec_call Tryz.enterHashes (by kernel_rfl)) (fun w1 h1 => HCM.out w1) ?_
      simp only [Act.put, List.setIfInBounds_toArray, List.set_cons_zero, List.set_cons_succ]
      refine mix_any _ (.slice ad (hashK n k).length cp) rfl (by kernel_rfl) rfl (fun w1 => exec_append (run_append_zero Tryz.uStrs hi ad (hashK n k).length cp HCP.out 0 w1) (by kernel_rfl)) ?_
      simp only [Act.put, List.setIfInBounds_toArray, List.set_cons_zero, List.set_cons_succ]
      refine mix_hard _ rfl (by kernel_rfl) rfl (fun w1 he K hK => ?_)
      have S9 := HS8.out.st ((drewE _).trans he)
      have hEW : Ext W w1 := (HE6.out.trans HX8.out).trans ((drewE _).trans he)
      obtain ⟨v, h1, h2, h3, h4⟩ := S9.row
      have hcell : w1.cell? ⟨g3, 0, none⟩ = some (.slice ad (hashK n k).length cp) := cell_ext (H1.out.cell (i := 0) (v := .slice ad (hashK n k).length cp) (by rfl)) ((drewE _).trans he)
      have hve : v = .slice ad (hashK n k).length cp := by
        have := h1.cell (i := 0) (v := v) (by rfl)
        rw [hcell] at this; exact (Option.some.inj this).symm
      rw [hve] at h1 h2 h3 h4
      have q4 := hcell
      have f4 : w1.frozen? ⟨g3, 0, none⟩ = false := h1.frozen
      have HS9 := Lib.hid S9
      have HB1 := Lib.hid h1
      have HB2 := Lib.hid h2
      have HB3 := Lib.hid h3
      have HB4 := Lib.hid h4
      have HEW := Lib.hid hEW
      clear S9 hcell hve h1 h2 h3 h4 he hEW
      go_simp
      refine hK _ _ ?_
      clear hK K q4 f4
      refine mix_end (by kernel_rfl) (fun w2 he => ?_)
      have k7 : Keeps (fun b => b = g3) w1 (w1.setCell ⟨g3, 0, none⟩ (.slice ad (hashK n k).length cp)) := Keeps.oneSet w1 ⟨g3, 0, none⟩ _
      have k8 : Keeps (fun b => b = g3) w1 w2 := k7.trans (he.mono (fun _ _ h => h.elim))
      refine ⟨(HEW.out.mono (fun _ _ h => h.elim)).trans' k8 (fun x _ e => ?_), ?_⟩
      · have e : x = _ := e; show x ≠ _ ∧ x ≠ _; omega
      · refine ⟨HS9.out.ext.trans' k8 (fun x hx e => by have e : x = _ := e; have := HWG.out; omega), HS9.out.it.keeps k8 (fun e => by omega), .slice ad (hashK n k).length cp, (HB1.out.set_same (i := 0) _).keeps he (fun h => h), ?_⟩
        rw [HX.out]
        exact ⟨own_keeps HB2.out k8 (fun b hb e => by have := HB3.out b hb; omega), HB3.out, HB4.out⟩
  case hdone =>
    intro W hS hd
    obtain ⟨v, h1, h2, h3, h4⟩ := hS.row
    rw [hashK_all] at h2 h4
    obtain ⟨ad, cp, rfl⟩ := row_slice h2
    have q4 : W.cell? ⟨g3, 0, none⟩ = some (.slice ad (hashesT n).length cp) := h1.cell (i := 0) (by rfl)
    have HS := Lib.hid hS
    have HR := Lib.hid (show ORow 9 1 w W (.slice ad (hashesT n).length cp) (hashesT n).length ((hashesT n).map Value.string) from ⟨⟨_, _, rfl⟩, h2, hS.ext, fun b hb => by have := h3 b hb; have := HGW.out; omega⟩)
    have H3 := Lib.hid h3
    have H4 := Lib.hid h4
    have HD := Lib.hid hd
    clear hS h1 h2 h3 h4 hd
    gi_wp2
    refine ⟨by simp, .inl ⟨_, _, rfl, run_takeDeferred HD.out, ?_⟩⟩
    refine ⟨.slice ad (hashesT n).length cp, by simp [results, Tryz.results87, go_sem], (HQ.out _ _).2 ⟨HR.out.keeps (Keeps.onePut W w3.heap.size (.deferred none)) (fun b hb e => by have := H3.out b hb; omega) (fun b hb e => by have := HGW.out; omega), H4.out⟩⟩
  case hstop => intro c k W _ _ h; exact h.elim
theorem hashes_c : ∀ (d : Nat) (n : NodeT), GoodW (InlD d) n → ∀ w, Calls Tryz.prog 87 #[n.V] w (HashP w n)
  | 0, n, h, w => hashes_step 0 n h (fun _ _ hm => hm.elim) w
  | d + 1, n, h, w => hashes_step (d + 1) n h (fun r m hm w => hashes_c d m hm.1 w) w
end
end Go.Proofs.YtjogjmffkmfmbaaGreatDoor
/- Rows of texts: In, parts of rows, append of nothing; the node of a text. -/
namespace Go.Proofs.YtjogjmffkmfmbaaGreatDoor
section
open Go Go.RowKit
set_option linter.unusedSimpArgs false
set_option linter.unusedVariables false
theorem RdS.take {w : World} {a : Option Addr} {c : Nat} {l : List ByteArray} (h : RdS w (.slice a l.length c) l) {i : Nat} (hi : i ≤ l.length) : RdS w (.slice a i c) (l.take i) := by
  by_cases h0 : i = 0
  · subst h0; exact .inl ⟨a, c, rfl, rfl⟩
  rcases h with ⟨_, _, _, h1⟩ | ⟨b, o, c1, h1, h2, h3, h4⟩
  · rw [h1] at hi; exact absurd (by simpa using hi) h0
  · obtain ⟨e1, _, e3⟩ := Value.slice.inj h1
    refine .inr ⟨b, o, c, by rw [e1, List.length_take]; congr 1; omega, h2, by rw [List.length_take]; omega, fun j x hx => h4 j x ?_⟩
    rw [List.getElem?_take] at hx
    split at hx
    · exact hx
    · cases hx
open Classical in
noncomputable def nodeOf (t : ByteArray) : NodeT := if h : ∃ n, IsNode t n then h.choose else emptyN
theorem nodeOf_is {t : ByteArray} {n : NodeT} (h : IsNode t n) : IsNode t (nodeOf t) := by
  unfold nodeOf
  have hh : ∃ n, IsNode t n := ⟨n, h⟩
  rw [dif_pos hh]; exact hh.choose_spec
theorem hashesT_len {t : ByteArray} {n : NodeT} (h : IsNode t n) : (hashesT n).length ≤ 16 := by
  obtain ⟨_, g, hg⟩ := h
  have := (hg.one (inlP g)).refs
  unfold hashesT
  have h2 := List.length_filterMap_le hashR n.refs
  omega
theorem RdS.cap {w : World} {a : Option Addr} {n c : Nat} {xs : List ByteArray} (h : RdS w (.slice a n c) xs) : xs.length ≤ c := by
  rcases h with ⟨_, _, _, h1⟩ | ⟨b, o, c1, h1, _, h2, _⟩
  · rw [h1]; exact Nat.zero_le _
  · obtain ⟨_, _, e⟩ := Value.slice.inj h1; omega
theorem nodup_take {L : List ByteArray} (h : L.Nodup) {i : Nat} {t : ByteArray} (ht : L[i]? = some t) : t ∉ L.take i := fun hm => by
  obtain ⟨k, hk, e⟩ := List.mem_take_iff_getElem.1 hm
  obtain ⟨hi, e2⟩ := List.getElem?_eq_some_iff.1 ht
  exact List.pairwise_iff_getElem.1 h k i (by omega) hi (by omega) (e.trans e2.symm)
end
end Go.Proofs.YtjogjmffkmfmbaaGreatDoor
/- canon: Nodes of what is no map. -/
namespace Go.Proofs.YtjogjmffkmfmbaaGreatDoor
section
open Go Go.RowKit
set_option linter.unusedSimpArgs false
set_option linter.unusedVariables false
end
end Go.Proofs.YtjogjmffkmfmbaaGreatDoor
/- canon: Few. -/
namespace Go.Proofs.YtjogjmffkmfmbaaGreatDoor
section
open Go Go.RowKit
set_option linter.unusedSimpArgs false
set_option linter.unusedVariables false
end
end Go.Proofs.YtjogjmffkmfmbaaGreatDoor
/- store: maps of items in memory; Get, Count, Held, Room, New. -/
namespace Go.Proofs.YtjogjmffkmfmbaaGreatDoor
section
open Go Go.RowKit
set_option linter.unusedSimpArgs false
set_option linter.unusedVariables false
abbrev Key := List UInt8
abbrev EntK := Ent Key
/-! A map in memory as a list. -/
def kvE (x : EntK) : Key × Value := (x.1, x.2.1)
def getV (m : List (Key × Value)) (k : Key) : Option Value := (m.find? fun x => decide (k = x.1)).map (·.2)
def putV : List (Key × Value) → Key → Value → List (Key × Value)
  | [], k, v => [(k, v)]
  | x :: r, k, v => if k = x.1 then (k, v) :: r else x :: putV r k v
def delV : List (Key × Value) → Key → List (Key × Value)
  | [], _ => []
  | x :: r, k => if k = x.1 then r else x :: delV r k
structure MapV (es : List EntK) (ck : Nat) (m : List (Key × Value)) : Prop where
  same : es.map kvE = m
  born : (es.map (·.2.2)).Nodup
  lt : ∀ x ∈ es, x.2.2 < ck
  keys : (m.map (·.1)).Nodup
theorem MapV.nil (ck : Nat) : MapV [] ck [] := ⟨rfl, by simp, by simp, by simp⟩
theorem MapV.len {es : List EntK} {ck : Nat} {m : List (Key × Value)} (h : MapV es ck m) : es.length = m.length := by rw [← h.same]; simp
theorem get_kv (k : Key) : ∀ es : List EntK, entGet es k = getV (es.map kvE) k
  | [] => rfl
  | x :: r => by
    have ih := get_kv k r
    unfold getV entGet at *
    rw [List.map_cons, List.find?_cons, List.find?_cons]
    by_cases h : k = x.1
    · simp [h, kvE]
    · simp [h, kvE] at ih ⊢; exact ih
theorem MapV.get {es : List EntK} {ck : Nat} {m : List (Key × Value)} (h : MapV es ck m) (k : Key) : entGet es k = getV m k := by rw [get_kv, h.same]
theorem put_kv (k : Key) (v : Value) (n : Nat) : ∀ es : List EntK, (entPut es k v n).map kvE = putV (es.map kvE) k v
  | [] => rfl
  | x :: r => by
    unfold entPut
    rw [List.map_cons, putV]
    by_cases h : k = x.1
    · rw [if_pos h, if_pos (show k = (kvE x).1 from h), List.map_cons]; rfl
    · rw [if_neg h, if_neg (show ¬ k = (kvE x).1 from h), List.map_cons, put_kv k v n r]
theorem del_kv (k : Key) : ∀ es : List EntK, (entDel es k).map kvE = delV (es.map kvE) k
  | [] => rfl
  | x :: r => by
    unfold entDel
    rw [List.map_cons, delV]
    by_cases h : k = x.1
    · rw [if_pos h, if_pos (show k = (kvE x).1 from h)]
    · rw [if_neg h, if_neg (show ¬ k = (kvE x).1 from h), List.map_cons, del_kv k r]
theorem getK_cons (x : EntK) (r : List EntK) (k : Key) : entGet (x :: r) k = if k = x.1 then some x.2.1 else entGet r k := by
  by_cases h : k = x.1 <;> simp [entGet, h]
theorem putK_born (k : Key) (v : Value) (n : Nat) : ∀ es : List EntK, (entPut es k v n).map (·.2.2) = if (entGet es k).isSome then es.map (·.2.2) else es.map (·.2.2) ++ [n]
  | [] => rfl
  | x :: r => by
    unfold entPut
    rw [getK_cons]
    by_cases h : k = x.1
    · rw [if_pos h, if_pos h]; simp
    · rw [if_neg h, if_neg h, List.map_cons, putK_born k v n r]
      cases (entGet r k).isSome <;> simp
theorem putV_keys (k : Key) (v : Value) : ∀ m : List (Key × Value), (putV m k v).map (·.1) = if k ∈ m.map (·.1) then m.map (·.1) else m.map (·.1) ++ [k]
  | [] => rfl
  | x :: r => by
    rw [putV]
    by_cases h : k = x.1
    · rw [if_pos h, if_pos (by simp [h])]; simp [h]
    · rw [if_neg h, List.map_cons, putV_keys k v r]
      by_cases h2 : k ∈ r.map (·.1)
      · rw [if_pos h2, if_pos (by rw [List.map_cons]; exact List.mem_cons_of_mem _ h2)]; rfl
      · rw [if_neg h2, if_neg (by rw [List.map_cons, List.mem_cons]; exact fun e => e.elim h h2)]; rfl
theorem MapV.put {es : List EntK} {ck : Nat} {m : List (Key × Value)} (h : MapV es ck m) (k : Key) (v : Value) : MapV (entPut es k v ck) (if (entGet es k).isSome then ck else ck + 1) (putV m k v) := by
  have hb := putK_born k v ck es
  refine ⟨by rw [put_kv, h.same], ?_, ?_, ?_⟩
  · rw [hb]
    split
    · exact h.born
    · rw [List.nodup_append]
      refine ⟨h.born, by simp, fun a ha b hb e => ?_⟩
      obtain ⟨x, hx, e1⟩ := List.mem_map.1 ha
      have := h.lt x hx
      simp at hb; omega
  · intro x hx
    have hm : x.2.2 ∈ (entPut es k v ck).map (·.2.2) := List.mem_map.2 ⟨x, hx, rfl⟩
    rw [hb] at hm
    split at hm
    · rename_i hs
      rw [if_pos hs]
      obtain ⟨y, hy, e⟩ := List.mem_map.1 hm
      rw [← e]; exact h.lt y hy
    · rename_i hs
      rw [if_neg hs]
      rcases List.mem_append.1 hm with hm | hm
      · obtain ⟨y, hy, e⟩ := List.mem_map.1 hm
        have := h.lt y hy; omega
      · simp at hm; omega
  · rw [putV_keys]
    split
    · exact h.keys
    · rename_i hn
      rw [List.nodup_append]
      exact ⟨h.keys, by simp, fun a ha b hb e => by simp at hb; subst hb; subst e; exact hn ha⟩
theorem delK_sub (k : Key) : ∀ es : List EntK, (entDel es k).Sublist es
  | [] => List.Sublist.refl _
  | x :: r => by
    unfold entDel
    split
    · exact List.sublist_cons_self _ _
    · exact (delK_sub k r).cons_cons _
theorem delV_sub (k : Key) : ∀ m : List (Key × Value), (delV m k).Sublist m
  | [] => List.Sublist.refl _
  | x :: r => by
    unfold delV
    split
    · exact List.sublist_cons_self _ _
    · exact (delV_sub k r).cons_cons _
theorem MapV.del {es : List EntK} {ck : Nat} {m : List (Key × Value)} (h : MapV es ck m) (k : Key) : MapV (entDel es k) ck (delV m k) := by
  have hs := delK_sub k es
  exact ⟨by rw [del_kv, h.same], h.born.sublist (hs.map _), fun x hx => h.lt x (hs.subset hx), h.keys.sublist ((delV_sub k m).map _)⟩
/-! Items. -/
structure It where
  text : ByteArray
  refs : List ByteArray
  used : Int
  held : Int
/-- A node in the store: its key, its block, what it is. -/
abbrev Nd5 := Key × Nat × It
theorem Tryz.uMapIt : Tryz.prog.underlying 92 = some (.map 9 99) := by kernel_rfl
theorem Tryz.zeroIt (w : World) : (zeroValue 99).run Tryz.prog w = .ok (.pointer none) w := by kernel_rfl
structure ItemAt (W : World) (b : Nat) (it : It) : Prop where
  cells : ∃ rv, Blk W b (.cells #[.string it.text, rv, .int .i64 it.used, .int .i64 it.held] 101) ∧ W.ownsRow 0 9 1 rv it.refs.length (it.refs.map Value.string)
/-- No block of these is a row of texts. -/
def NoRow (W : World) (F : BSet) : Prop := ∀ b cur fz, F b → ¬ Blk W b (.cells cur 9 fz)
theorem NoRow.none (W : World) : NoRow W (fun _ => False) := fun _ _ _ h => h.elim
theorem row_keeps {W W' : World} {F : BSet} {v : Value} {n : Nat} {xs : List Value} (h : W.ownsRow 0 9 1 v n xs) (k : Keeps F W W') (hF : NoRow W F) : W'.ownsRow 0 9 1 v n xs := by
  refine own_keeps h k fun b hb hf => ?_
  obtain ⟨_, ⟨h1, _⟩ | ⟨g, cap, cur, h1, _, h3, _⟩⟩ := h
  · rw [h1] at hb; cases hb
  · rw [h1] at hb
    have e : some g = some b := hb
    obtain rfl := Option.some.inj e
    exact hF g cur (0, 0) hf h3
theorem ItemAt.keeps {W W' : World} {F : BSet} {b : Nat} {it : It} (h : ItemAt W b it) (k : Keeps F W W') (hb : ¬ F b) (hF : NoRow W F) : ItemAt W' b it := by
  obtain ⟨rv, h1, h2⟩ := h.cells
  exact ⟨rv, h1.keeps k hb, row_keeps h2 k hF⟩
theorem ItemAt.lt {W : World} {b : Nat} {it : It} (h : ItemAt W b it) : b < W.heap.size := by obtain ⟨rv, h1, _⟩ := h.cells; exact h1.lt
def kvN (x : Nd5) : Key × Value := (x.1, .pointer (some ⟨x.2.1, 0, none⟩))
/-- A map of items in memory. -/
structure MapAt (W : World) (bm : Nat) (L : List Nd5) : Prop where
  mp : ∃ es ck, Blk W bm (.map (Tryz.ES.arr es) ck) ∧ MapV es ck (L.map kvN)
  blks : (L.map (·.2.1)).Nodup
  items : ∀ x ∈ L, ItemAt W x.2.1 x.2.2
theorem MapAt.keeps {W W' : World} {F : BSet} {bm : Nat} {L : List Nd5} (h : MapAt W bm L) (k : Keeps F W W') (hm : ¬ F bm) (hL : ∀ x ∈ L, ¬ F x.2.1) (hF : NoRow W F) : MapAt W' bm L := by
  obtain ⟨es, ck, h1, h2⟩ := h.mp
  exact ⟨⟨es, ck, h1.keeps k hm, h2⟩, h.blks, fun x hx => (h.items x hx).keeps k (hL x hx) hF⟩
theorem MapAt.ext {W W' : World} {bm : Nat} {L : List Nd5} (h : MapAt W bm L) (k : Ext W W') : MapAt W' bm L := h.keeps k (fun h => h) (fun _ _ h => h) (NoRow.none W)
def atL (L : List Nd5) (k : Key) : Option Nd5 := L.find? fun x => decide (k = x.1)
theorem get_at (k : Key) : ∀ L : List Nd5, getV (L.map kvN) k = (atL L k).map fun x => .pointer (some ⟨x.2.1, 0, none⟩)
  | [] => rfl
  | x :: r => by
    have ih := get_at k r
    unfold getV atL at *
    rw [List.map_cons, List.find?_cons, List.find?_cons]
    by_cases h : k = x.1
    · simp [h, kvN]
    · simp [h, kvN] at ih ⊢; exact ih
theorem atL_mem {L : List Nd5} {k : Key} {x : Nd5} (h : atL L k = some x) : x ∈ L ∧ x.1 = k := by
  unfold atL at h
  have h2 := List.find?_some h
  exact ⟨List.mem_of_find?_eq_some h, (of_decide_eq_true h2).symm⟩
def ptrO (o : Option Nd5) : Value := match o with | some x => .pointer (some ⟨x.2.1, 0, none⟩) | none => .pointer none
/-- What a look into the map tells. -/
theorem MapAt.look {W : World} {bm : Nat} {L : List Nd5} (h : MapAt W bm L) (k : ByteArray) (ok : Bool) :
    (Instr.lookup 92 (.map (some bm)) (.string k) ok).run Tryz.prog W = .ok (if ok then .tuple #[ptrO (atL L k.data.toList), .bool (atL L k.data.toList).isSome] else ptrO (atL L k.data.toList)) W := by
  obtain ⟨es, ck, h1, h2⟩ := h.mp
  have := run_lookup Tryz.ES Tryz.uMapIt h1 (Tryz.zeroIt W) k.data.toList ok
  rw [h2.get, get_at] at this
  cases ha : atL L k.data.toList with
  | none => rw [ha] at this; exact this
  | some x => rw [ha] at this; exact this
/-- A store in memory: its room, its items. -/
structure StoreAt (W : World) (s bm : Nat) (room : Int) (L : List Nd5) : Prop where
  st : Blk W s (.cells #[.int .i64 room, .map (some bm)] 94)
  mp : MapAt W bm L
theorem StoreAt.ext {W W' : World} {s bm : Nat} {room : Int} {L : List Nd5} (h : StoreAt W s bm room L) (k : Ext W W') : StoreAt W' s bm room L := ⟨h.st.keeps k (fun h => h), h.mp.ext k⟩
/-! The small methods. -/
set_option maxRecDepth 100000 in
set_option maxHeartbeats 4000000 in
theorem sget_c (w : World) (s bm : Nat) (room : Int) (L : List Nd5) (k : ByteArray) (h : StoreAt w s bm room L) : Calls Tryz.prog 17 #[.pointer (some ⟨s, 0, none⟩), .string k] w fun e w' => e = .returned (optV ((atL L k.data.toList).map (·.2.2.text))) ∧ Ext w w' := by
  have q1 := h.st.cell (i := 1) (v := .map (some bm)) (by rfl)
  have hlk := h.mp.look k true
  have HI := Lib.hid h.mp.items
  simp only [if_true] at hlk
  clear h
  cases ha : atL L k.data.toList with
  | none =>
    rw [ha] at hlk
    unfold ptrO at hlk
    simp only [Option.isSome] at hlk
    clear ha
    go_enter Tryz.func17, Tryz.ntmps17
    go_wp2_with fail
    go_ret2
    exact ⟨rfl, ExtR w⟩
  | some x =>
    rw [ha] at hlk
    obtain ⟨rv, hB, _⟩ := (HI.out x (atL_mem ha).1).cells
    have q2 := hB.cell (i := 0) (v := .string x.2.2.text) (by rfl)
    unfold ptrO at hlk
    simp only [Option.isSome] at hlk
    clear ha hB
    go_enter Tryz.func17, Tryz.ntmps17
    go_wp2_with fail
    go_ret2
    exact ⟨rfl, ExtR w⟩
def heldO (o : Option Nd5) : Int := match o with | some x => x.2.2.held | none => 0
def countO (o : Option Nd5) : Int := match o with | some x => x.2.2.used + x.2.2.held | none => 0
end
end Go.Proofs.YtjogjmffkmfmbaaGreatDoor
