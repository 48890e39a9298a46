/- Parts of the proof, one behind the other: NodeT. Each is under no condition but those that it states. -/
import Derived.Test.YtjogjmffkmfmbaaGreatDoorPc29
import Derived.Test.YtjogjmffkmfmbaaGreatDoorPc30
/- node: read of any text. -/
namespace Go.Proofs.YtjogjmffkmfmbaaGreatDoor
section
open Go Go.RowKit
set_option linter.unusedSimpArgs false
set_option linter.unusedVariables false
attribute [local go_sem] Oper.semAt_some
/-- What read may read of a text. -/
def FormR (s : ByteArray) (m : NodeT) : Prop := (∃ p v, m = ⟨1, p, v, noRefs 16⟩ ∧ validN p = true ∧ p.size ≤ 1000000 ∧ v.size ≤ 1000000) ∨
  (∃ p y, m = ⟨2, p, ⟨#[]⟩, y :: noRefs 15⟩ ∧ validN p = true ∧ p.size ≤ 1000000 ∧ y.size < s.size ∧ y.size ≠ 0) ∨
  (∃ v rs, m = ⟨3, ⟨#[]⟩, v, rs⟩ ∧ rs.length = 16 ∧ v.size ≤ 1000000 ∧ (∀ r ∈ rs, r.size < s.size) ∧ ∀ r ∈ rs, r.size ≠ 0 → r ≠ textB ⟨#[]⟩)
def ReadP (w : World) (s : ByteArray) (e : Ending) (w' : World) : Prop := RdNo w e w' ∨ ∃ m : NodeT, m.refs.length = 16 ∧ FormR s m ∧ e = .returned (.tuple #[m.V, .bool true]) ∧ Ext w w'
set_option maxRecDepth 100000 in
set_option maxHeartbeats 4000000 in
theorem read_notlist (w : World) (s : ByteArray) (hs : s.size ≤ 400000) (hne : s ≠ textB ⟨#[]⟩) (o n : Nat) (h : cutN s = some (false, o, n)) : Calls Tryz.prog 89 #[.string s] w (RdNo w) := by
  obtain ⟨em, hem⟩ : ∃ em, em = textB ⟨#[]⟩ := ⟨_, rfl⟩
  have hnl := toList_ne hne
  rw [← hem] at hnl
  have HEM := Lib.hid hem
  have HS := Lib.hid (show s.size ≤ 1000000000 by omega)
  have H1 := Lib.hid h
  obtain ⟨bh, hbh⟩ : ∃ bh, bh = s.extract (o + n) s.size := ⟨_, rfl⟩
  obtain ⟨c, hcd⟩ : ∃ c, c = s.extract o (o + n) := ⟨_, rfl⟩
  have HX := Lib.hid (And.intro hbh hcd)
  clear hem hne h hbh hcd
  go_enter Tryz.func89, Tryz.ntmps89
  go_wp2_with (refine wpList_new Tryz.allocNode rfl rfl ?_; intro W1 hB1 hE1)
  refine (text_c _ ⟨#[]⟩ (by decide)).mono ?_
  rintro e w2 ⟨rfl, hE⟩
  rw [← HEM.out]
  have HB2 := Lib.hid (hB1.keeps hE (fun h => h))
  have HE2 := Lib.hid (hE1.trans hE)
  clear hB1 hE1 hE
  go_wp2_with fail
  refine (split_c _ s _ HS.out H1.out).mono ?_
  rintro e w3 ⟨rfl, hE⟩
  simp only
  rw [← HX.out.1, ← HX.out.2]
  have HE3 := Lib.hid (HE2.out.trans hE)
  have hB3 := HB2.out.keeps hE (fun h => h)
  clear hE HE2 HB2
  go_wp2_with (refine wpList_fill (vs := emptyN.cells) rfl rfl rfl rfl hB3 rfl Tryz.szNode (NodeT.one _) ?_; intro W8 hB8 hE8)
  refine bodyPost_ret (results_cell_tmp rfl rfl rfl (run_loadVar_api W8 _ emptyN rfl hB8)) rfl ?_
  exact ⟨emptyN, rfl, rfl, HE3.out.trans' hE8 (fun x hx e => by have e : x = w.heap.size := e; omega)⟩
set_option maxRecDepth 100000 in
set_option maxHeartbeats 4000000 in
theorem read_behind (w : World) (s : ByteArray) (hs : s.size ≤ 400000) (hne : s ≠ textB ⟨#[]⟩) (o n : Nat) (h : cutN s = some (true, o, n)) (hlt : o + n < s.size) : Calls Tryz.prog 89 #[.string s] w (RdNo w) := by
  obtain ⟨em, hem⟩ : ∃ em, em = textB ⟨#[]⟩ := ⟨_, rfl⟩
  have hnl := toList_ne hne
  rw [← hem] at hnl
  have HEM := Lib.hid hem
  have HS := Lib.hid (show s.size ≤ 1000000000 by omega)
  have H1 := Lib.hid h
  obtain ⟨bh, hbh⟩ : ∃ bh, bh = s.extract (o + n) s.size := ⟨_, rfl⟩
  obtain ⟨c, hcd⟩ : ∃ c, c = s.extract o (o + n) := ⟨_, rfl⟩
  have hbn := ne_empty (s := bh) (by rw [hbh, ByteArray.size_extract]; omega)
  have HX := Lib.hid (And.intro hbh hcd)
  clear hem hne h hbh hcd hlt
  go_enter Tryz.func89, Tryz.ntmps89
  go_wp2_with (refine wpList_new Tryz.allocNode rfl rfl ?_; intro W1 hB1 hE1)
  refine (text_c _ ⟨#[]⟩ (by decide)).mono ?_
  rintro e w2 ⟨rfl, hE⟩
  rw [← HEM.out]
  have HB2 := Lib.hid (hB1.keeps hE (fun h => h))
  have HE2 := Lib.hid (hE1.trans hE)
  clear hB1 hE1 hE
  go_wp2_with fail
  refine (split_c _ s _ HS.out H1.out).mono ?_
  rintro e w3 ⟨rfl, hE⟩
  simp only
  rw [← HX.out.1, ← HX.out.2]
  have HE3 := Lib.hid (HE2.out.trans hE)
  have hB3 := HB2.out.keeps hE (fun h => h)
  clear hE HE2 HB2
  go_wp2_with (refine wpList_fill (vs := emptyN.cells) rfl rfl rfl rfl hB3 rfl Tryz.szNode (NodeT.one _) ?_; intro W8 hB8 hE8)
  refine bodyPost_ret (results_cell_tmp rfl rfl rfl (run_loadVar_api W8 _ emptyN rfl hB8)) rfl ?_
  exact ⟨emptyN, rfl, rfl, HE3.out.trans' hE8 (fun x hx e => by have e : x = w.heap.size := e; omega)⟩
set_option maxRecDepth 100000 in
set_option maxHeartbeats 4000000 in
theorem read_noitems (w : World) (s : ByteArray) (hs : s.size ≤ 400000) (hne : s ≠ textB ⟨#[]⟩) (o n : Nat) (h : cutN s = some (true, o, n)) (hle : o + n = s.size) (c : ByteArray) (hcd : c = s.extract o (o + n)) (hI : ∀ w1, Ext w w1 → Calls Tryz.prog 131 #[.string c] w1 fun e w' => e = .returned (.tuple #[.slice none 0 0, .int .i64 2]) ∧ Ext w1 w') : Calls Tryz.prog 89 #[.string s] w (RdNo w) := by
  obtain ⟨em, hem⟩ : ∃ em, em = textB ⟨#[]⟩ := ⟨_, rfl⟩
  have hnl := toList_ne hne
  rw [← hem] at hnl
  have HEM := Lib.hid hem
  have HS := Lib.hid (show s.size ≤ 1000000000 by omega)
  have H1 := Lib.hid h
  have H2 := Lib.hid hle
  have HCD := Lib.hid hcd
  have HI := Lib.hid hI
  clear hem hne h hle hcd hI
  go_enter Tryz.func89, Tryz.ntmps89
  go_wp2_with (refine wpList_new Tryz.allocNode rfl rfl ?_; intro W1 hB1 hE1)
  refine (text_c _ ⟨#[]⟩ (by decide)).mono ?_
  rintro e w2 ⟨rfl, hE⟩
  rw [← HEM.out]
  have HB2 := Lib.hid (hB1.keeps hE (fun h => h))
  have HE2 := Lib.hid (hE1.trans hE)
  clear hB1 hE1 hE
  go_wp2_with fail
  refine (split_c _ s _ HS.out H1.out).mono ?_
  rintro e w3 ⟨rfl, hE⟩
  simp only
  rw [← HCD.out, H2.out, extract_end]
  have HE3 := Lib.hid (HE2.out.trans hE)
  have HB3 := Lib.hid (HB2.out.keeps hE (fun h => h))
  clear hE HE2 HB2
  go_wp2_with fail
  refine (HI.out w3 HE3.out).mono ?_
  rintro e w4 ⟨rfl, hE⟩
  have hB4 := HB3.out.keeps hE (fun h => h)
  have HE4 := Lib.hid (HE3.out.trans hE)
  clear hE HE3 HB3
  go_wp2_with (refine wpList_fill (vs := emptyN.cells) rfl rfl rfl rfl hB4 rfl Tryz.szNode (NodeT.one _) ?_; intro W8 hB8 hE8)
  refine bodyPost_ret (results_cell_tmp rfl rfl rfl (run_loadVar_api W8 _ emptyN rfl hB8)) rfl ?_
  exact ⟨emptyN, rfl, rfl, HE4.out.trans' hE8 (fun x hx e => by have e : x = w.heap.size := e; omega)⟩
set_option maxRecDepth 100000 in
set_option maxHeartbeats 4000000 in
theorem read_nolen (w : World) (s : ByteArray) (hs : s.size ≤ 400000) (hne : s ≠ textB ⟨#[]⟩) (o n : Nat) (h : cutN s = some (true, o, n)) (hle : o + n = s.size) (c : ByteArray) (hcd : c = s.extract o (o + n)) (xs : List ByteArray) (hI : ∀ w1, Calls Tryz.prog 131 #[.string c] w1 fun e w' => ∃ v, e = .returned (.tuple #[v, .int .i64 0]) ∧ SRow w1 w' v xs.length xs) (hl2 : xs.length ≠ 2) (hl17 : xs.length ≠ 17) : Calls Tryz.prog 89 #[.string s] w (RdNo w) := by
  obtain ⟨em, hem⟩ : ∃ em, em = textB ⟨#[]⟩ := ⟨_, rfl⟩
  have hnl := toList_ne hne
  rw [← hem] at hnl
  have HEM := Lib.hid hem
  have HS := Lib.hid (show s.size ≤ 1000000000 by omega)
  have H1 := Lib.hid h
  have H2 := Lib.hid hle
  have HCD := Lib.hid hcd
  have HI := Lib.hid hI
  clear hem hne h hle hcd hI
  go_enter Tryz.func89, Tryz.ntmps89
  go_wp2_with (refine wpList_new Tryz.allocNode rfl rfl ?_; intro W1 hB1 hE1)
  refine (text_c _ ⟨#[]⟩ (by decide)).mono ?_
  rintro e w2 ⟨rfl, hE⟩
  rw [← HEM.out]
  have HB2 := Lib.hid (hB1.keeps hE (fun h => h))
  have HE2 := Lib.hid (hE1.trans hE)
  clear hB1 hE1 hE
  go_wp2_with fail
  refine (split_c _ s _ HS.out H1.out).mono ?_
  rintro e w3 ⟨rfl, hE⟩
  simp only
  rw [← HCD.out, H2.out, extract_end]
  have HE3 := Lib.hid (HE2.out.trans hE)
  have HB3 := Lib.hid (HB2.out.keeps hE (fun h => h))
  clear hE HE2 HB2
  go_wp2_with fail
  refine (HI.out w3).mono ?_
  rintro e w4 ⟨v, rfl, hv⟩
  have hB4 := HB3.out.keeps hv.ext (fun h => h)
  have HE4 := Lib.hid (HE3.out.trans hv.ext)
  rcases hv.sl with ⟨ad, cp, rfl⟩
  have d2 : ((xs.length : Int) == 2) = false := by simp; omega
  have d17 : ((xs.length : Int) == 17) = false := by simp; omega
  clear hv HE3 HB3
  go_wp2_with (refine wpList_fill (vs := emptyN.cells) rfl rfl rfl rfl hB4 rfl Tryz.szNode (NodeT.one _) ?_; intro W8 hB8 hE8)
  refine bodyPost_ret (results_cell_tmp rfl rfl rfl (run_loadVar_api W8 _ emptyN rfl hB8)) rfl ?_
  exact ⟨emptyN, rfl, rfl, HE4.out.trans' hE8 (fun x hx e => by have e : x = w.heap.size := e; omega)⟩
set_option maxRecDepth 100000 in
set_option maxHeartbeats 4000000 in
theorem read_two (w : World) (s : ByteArray) (hs : s.size ≤ 400000) (hne : s ≠ textB ⟨#[]⟩) (o n : Nat) (h : cutN s = some (true, o, n)) (hle : o + n = s.size) (c : ByteArray) (hcd : c = s.extract o (o + n)) (x y : ByteArray) (hI : ∀ w1, Calls Tryz.prog 131 #[.string c] w1 fun e w' => ∃ v, e = .returned (.tuple #[v, .int .i64 0]) ∧ SRow w1 w' v 2 [x, y]) (hx : x.size ≤ 400000) (hy : y.size < s.size) (hy0 : y.size ≠ 0) : Calls Tryz.prog 89 #[.string s] w (ReadP w s) := by
  have HP := Lib.hid (fun w => pair_any w x y (by omega) (by omega))
  have HR := Lib.hid (pairN_len x y)
  have HF := Lib.hid (fun h => pairN_ok (x := x) (y := y) (by omega) (by omega) h)
  have HY := Lib.hid (And.intro hy hy0)
  obtain ⟨g, hg⟩ : ∃ g, g = pairN x y := ⟨_, rfl⟩
  unfold PairP at HP
  rw [← hg] at HR HF HP
  clear hg hy hy0
  obtain ⟨m, ok⟩ := g
  obtain ⟨em, hem⟩ : ∃ em, em = textB ⟨#[]⟩ := ⟨_, rfl⟩
  have hnl := toList_ne hne
  rw [← hem] at hnl
  have HEM := Lib.hid hem
  have HS := Lib.hid (show s.size ≤ 1000000000 by omega)
  have H1 := Lib.hid h
  have H2 := Lib.hid hle
  have HCD := Lib.hid hcd
  have HI := Lib.hid hI
  clear hem hne h hle hcd hI
  go_enter Tryz.func89, Tryz.ntmps89
  go_wp2_with (refine wpList_new Tryz.allocNode rfl rfl ?_; intro W1 hB1 hE1)
  refine (text_c _ ⟨#[]⟩ (by decide)).mono ?_
  rintro e w2 ⟨rfl, hE⟩
  rw [← HEM.out]
  have HB2 := Lib.hid (hB1.keeps hE (fun h => h))
  have HE2 := Lib.hid (hE1.trans hE)
  clear hB1 hE1 hE
  go_wp2_with fail
  refine (split_c _ s _ HS.out H1.out).mono ?_
  rintro e w3 ⟨rfl, hE⟩
  simp only
  rw [← HCD.out, H2.out, extract_end]
  have HE3 := Lib.hid (HE2.out.trans hE)
  have HB3 := Lib.hid (HB2.out.keeps hE (fun h => h))
  clear hE HE2 HB2
  go_wp2_with fail
  refine (HI.out w3).mono ?_
  rintro e w4 ⟨v, rfl, hv⟩
  have HB4 := Lib.hid (HB3.out.keeps hv.ext (fun h => h))
  have HE4 := Lib.hid (HE3.out.trans hv.ext)
  rcases hv.rd with ⟨_, _, _, h0⟩ | ⟨b, o2, c2, rfl, hb, hc, hcell⟩
  · cases h0
  have QX := Lib.hid (hcell 0 x rfl)
  have QY := Lib.hid (hcell 1 y rfl)
  clear hv hcell HE3 HB3
  go_wp2_with fail
  refine wp_region_mix [0,1,2,3,4,5,6,7,8,9,10] [9] Ext ExtR ExtT (by kernel_rfl) (by kernel_rfl) (by kernel_rfl) ?_
  iterate 2 (refine mix_pure _ rfl (by kernel_rfl) rfl rfl (fun K hK => ?_); go_big_quiet_op; refine hK _ ?_; clear hK K)
  refine mix_load ⟨b, o2, none⟩ _ rfl (by kernel_rfl) rfl rfl (fun w1 h1 => run_load_plain Tryz.uStr rfl (cell_ext (by exact QX.out) h1)) ?_
  simp only [Act.put, List.setIfInBounds_toArray, List.set_cons_zero, List.set_cons_succ]
  iterate 2 (refine mix_pure _ rfl (by kernel_rfl) rfl rfl (fun K hK => ?_); go_big_quiet_op; refine hK _ ?_; clear hK K)
  refine mix_load ⟨b, o2 + 1, none⟩ _ rfl (by kernel_rfl) rfl rfl (fun w1 h1 => run_load_plain Tryz.uStr rfl (cell_ext (by exact QY.out) h1)) ?_
  simp only [Act.put, List.setIfInBounds_toArray, List.set_cons_zero, List.set_cons_succ]
  refine mix_call _ 132 #[.string x, .string y] (.tuple #[m.V, .bool ok]) rfl (by kernel_rfl) rfl (fun w1 => exec_call Tryz.enterReadPair (by kernel_rfl)) (fun w1 h1 => HP.out w1) ?_
  simp only [Act.put, List.setIfInBounds_toArray, List.set_cons_zero, List.set_cons_succ]
  iterate 2 (refine mix_pure _ rfl (by kernel_rfl) rfl rfl (fun K hK => ?_); go_big_quiet_op; refine hK _ ?_; clear hK K)
  refine mix_hard _ rfl (by kernel_rfl) rfl (fun w5 he K hK => ?_)
  have hX := (drewE w4).trans he
  refine wp_fill (vs := m.cells) rfl rfl rfl (HB4.out.keeps hX (fun h => h)) (by rw [m.cells_len HR.out]; rfl) (by rw [m.cells_len HR.out]; exact Tryz.szNode) m.one ?_
  intro W6 hB6 hE6
  have HB6 := Lib.hid hB6
  have HE6 := Lib.hid ((HE4.out.trans hX).trans' hE6 (fun x hx e => by have e : x = w.heap.size := e; omega))
  clear he hX hB6 hE6 QX QY HB4 HE4
  simp only [Act.put, List.setIfInBounds_toArray, List.set_cons_zero, List.set_cons_succ]
  refine hK _ _ ?_
  clear hK K
  iterate 1 (refine mix_pure _ rfl (by kernel_rfl) rfl rfl (fun K hK => ?_); go_big_quiet_op; refine hK _ ?_; clear hK K)
  refine mix_end (by kernel_rfl) (fun w7 he => ?_)
  have HB7 := Lib.hid (HB6.out.keeps he (fun h => h))
  have HE7 := Lib.hid (HE6.out.trans he)
  clear he HB6 HE6
  go_wp2_with fail
  refine bodyPost_ret (results_cell_tmp rfl rfl rfl (run_loadVar_api w7 _ m HR.out HB7.out)) rfl ?_
  cases ok with
  | false => exact .inl ⟨m, HR.out, rfl, HE7.out⟩
  | true =>
    refine .inr ⟨m, HR.out, ?_, rfl, HE7.out⟩
    rcases HF.out rfl with ⟨p, v, h1, h2, h3, h4⟩ | ⟨p, h1, h2, h3⟩
    · exact .inl ⟨p, v, h1, h2, h3, h4⟩
    · exact .inr (.inl ⟨p, y, h1, h2, h3, HY.out.1, HY.out.2⟩)
set_option maxRecDepth 100000 in
set_option maxHeartbeats 4000000 in
theorem read_many (w : World) (s : ByteArray) (hs : s.size ≤ 400000) (hne : s ≠ textB ⟨#[]⟩) (o n : Nat) (h : cutN s = some (true, o, n)) (hle : o + n = s.size) (c : ByteArray) (hcd : c = s.extract o (o + n)) (xs : List ByteArray) (hI : ∀ w1, Calls Tryz.prog 131 #[.string c] w1 fun e w' => ∃ v, e = .returned (.tuple #[v, .int .i64 0]) ∧ SRow w1 w' v xs.length xs) (hl : xs.length = 17) (h0 : ∀ x ∈ xs, x.size ≠ 0) (hlt : ∀ x ∈ xs, x.size < s.size) : Calls Tryz.prog 89 #[.string s] w (ReadP w s) := by
  obtain ⟨rs, z, hxs, hrl, hrn, hrm, hz⟩ := branch_parts xs hl h0
  have hzs := hlt z hz
  have hc : ∀ w v, RdS w v xs → Calls Tryz.prog 133 #[v] w (BranchP w rs z) := fun w v hv => branch_put w v rs z hrl (by omega) hrn (by rw [← hxs]; exact hv)
  have HF := Lib.hid (show ∀ v, plainA z = some v → FormR s ⟨3, ⟨#[]⟩, v, rs⟩ from fun v hv => .inr (.inr ⟨v, rs, rfl, hrl, by have := plainA_size hv; omega, fun r hr => by
    rcases hrm r hr with e | e
    · rw [e]
      have := h0 z hz
      show 0 < s.size; omega
    · exact hlt r e, hrn⟩))
  have HRL := Lib.hid hrl
  have HC := Lib.hid hc
  have HL := Lib.hid hl
  clear hxs hrn hrm hz hzs hc hl h0 hlt hrl
  obtain ⟨em, hem⟩ : ∃ em, em = textB ⟨#[]⟩ := ⟨_, rfl⟩
  have hnl := toList_ne hne
  rw [← hem] at hnl
  have HEM := Lib.hid hem
  have HS := Lib.hid (show s.size ≤ 1000000000 by omega)
  have H1 := Lib.hid h
  have H2 := Lib.hid hle
  have HCD := Lib.hid hcd
  have HI := Lib.hid hI
  clear hem hne h hle hcd hI
  go_enter Tryz.func89, Tryz.ntmps89
  go_wp2_with (refine wpList_new Tryz.allocNode rfl rfl ?_; intro W1 hB1 hE1)
  refine (text_c _ ⟨#[]⟩ (by decide)).mono ?_
  rintro e w2 ⟨rfl, hE⟩
  rw [← HEM.out]
  have HB2 := Lib.hid (hB1.keeps hE (fun h => h))
  have HE2 := Lib.hid (hE1.trans hE)
  clear hB1 hE1 hE
  go_wp2_with fail
  refine (split_c _ s _ HS.out H1.out).mono ?_
  rintro e w3 ⟨rfl, hE⟩
  simp only
  rw [← HCD.out, H2.out, extract_end]
  have HE3 := Lib.hid (HE2.out.trans hE)
  have HB3 := Lib.hid (HB2.out.keeps hE (fun h => h))
  clear hE HE2 HB2
  go_wp2_with fail
  refine (HI.out w3).mono ?_
  rintro e w4 ⟨v, rfl, hv⟩
  have HB4 := Lib.hid (HB3.out.keeps hv.ext (fun h => h))
  have HE4 := Lib.hid (HE3.out.trans hv.ext)
  have hrd := hv.rd
  rcases hv.sl with ⟨ad, cp, rfl⟩
  rw [HL.out] at hrd ⊢
  have hcall := HC.out w4 _ hrd
  have HCL := Lib.hid hcall
  clear hv HE3 HB3 hrd hcall
  go_wp2_with fail
  refine HCL.out.mono ?_
  rintro e w5 (⟨m, hml, rfl, hE⟩ | ⟨v, hv, rfl, hE⟩)
  · have HE5 := Lib.hid (HE4.out.trans hE)
    have hB5 := HB4.out.keeps hE (fun h => h)
    have HML := Lib.hid hml
    clear hE HE4 HB4 hml
    unfold NodeT.V
    go_wp2_with (refine wpList_fill (vs := m.cells) rfl rfl rfl rfl hB5 (by rw [m.cells_len HML.out]; rfl) (by rw [m.cells_len HML.out]; exact Tryz.szNode) m.one ?_; intro W8 hB8 hE8)
    refine bodyPost_ret (results_cell_tmp rfl rfl rfl (run_loadVar_api W8 _ m HML.out hB8)) rfl ?_
    exact .inl ⟨m, HML.out, rfl, HE5.out.trans' hE8 (fun x hx e => by have e : x = w.heap.size := e; omega)⟩
  · have HE5 := Lib.hid (HE4.out.trans hE)
    have hB5 := HB4.out.keeps hE (fun h => h)
    have HFV := Lib.hid (HF.out v hv)
    obtain ⟨m, hm⟩ : ∃ m : NodeT, m = ⟨3, ⟨#[]⟩, v, rs⟩ := ⟨_, rfl⟩
    rw [← hm] at HFV ⊢
    have HML := Lib.hid (show m.refs.length = 16 by rw [hm]; exact HRL.out)
    clear hE HE4 HB4 hv hm
    unfold NodeT.V
    go_wp2_with (refine wpList_fill (vs := m.cells) rfl rfl rfl rfl hB5 (by rw [m.cells_len HML.out]; rfl) (by rw [m.cells_len HML.out]; exact Tryz.szNode) m.one ?_; intro W8 hB8 hE8)
    refine bodyPost_ret (results_cell_tmp rfl rfl rfl (run_loadVar_api W8 _ m HML.out hB8)) rfl ?_
    exact .inr ⟨m, HML.out, HFV.out, rfl, HE5.out.trans' hE8 (fun x hx e => by have e : x = w.heap.size := e; omega)⟩
theorem isItem_pos {x : ByteArray} (h : IsItem x) (hs : x.size ≤ 1000000000) : x.size ≠ 0 := fun e => by
  obtain ⟨r, h1, h2⟩ := h ⟨#[]⟩ (by rw [app_nil]; exact hs)
  have := (cutN_pos h1).2
  omega
set_option maxRecDepth 10000 in
theorem cutN_list_pos {s : ByteArray} {o n : Nat} (h : cutN s = some (true, o, n)) : 0 < o := by
  obtain ⟨⟨l⟩⟩ := s
  cases l with
  | nil => exact absurd (cutN_pos h).1 (by decide)
  | cons a t =>
    have h : cutN ⟨(a :: t).toArray⟩ = some (true, o, n) := h
    rw [cutN_cons] at h
    obtain ⟨m, hm⟩ : ∃ m, m = (if a.toNat < 192 then a.toNat - 128 else a.toNat - 192) := ⟨_, rfl⟩
    rw [← hm] at h
    clear hm
    by_cases h1 : a.toNat < 128
    · rw [if_pos h1] at h; cases (Prod.mk.inj (Option.some.inj h)).1
    rw [if_neg h1] at h
    by_cases h2 : m ≤ 55
    · rw [if_pos h2] at h
      split at h
      · have := (Prod.mk.inj (Prod.mk.inj (Option.some.inj h)).2).1; omega
      · cases h
    · rw [if_neg h2] at h
      split at h
      · split at h
        · have := (Prod.mk.inj (Prod.mk.inj (Option.some.inj h)).2).1; omega
        · cases h
      · cases h
theorem read_any (w : World) (hG : ErrT w) (s : ByteArray) (hs : s.size ≤ 400000) (hne : s ≠ textB ⟨#[]⟩) : Calls Tryz.prog 89 #[.string s] w (ReadP w s) := by
  cases h : cutN s with
  | none => exact (read_nosplit w s (by omega) h).mono fun _ _ h => .inl h
  | some r =>
    obtain ⟨b, o, n⟩ := r
    cases b with
    | false => exact (read_notlist w s hs hne o n h).mono fun _ _ h => .inl h
    | true =>
      have hle := cutN_le h
      have hle : o + n ≤ s.size := hle
      by_cases hlt : o + n < s.size
      · exact (read_behind w s hs hne o n h hlt).mono fun _ _ h => .inl h
      have he : o + n = s.size := by omega
      have hop := cutN_list_pos h
      obtain ⟨c, hcd⟩ : ∃ c, c = s.extract o (o + n) := ⟨_, rfl⟩
      have hcs : c.size < s.size := by rw [hcd, ByteArray.size_extract]; omega
      obtain ⟨xs, z, h1, h2, h3, h4, h5⟩ := items_split c.size c (Nat.le_refl _)
      rcases h5 with rfl | ⟨hz0, hz⟩
      · have h2 : c = catB xs := by rw [h2]; exact app_nil _
        have hI : ∀ w1, Calls Tryz.prog 131 #[.string c] w1 fun e w' => ∃ v, e = .returned (.tuple #[v, .int .i64 0]) ∧ SRow w1 w' v xs.length xs := fun w1 => by
          rw [h2]; exact items_c w1 xs h1 (by rw [← h2]; omega) (by omega)
        by_cases l2 : xs.length = 2
        · match xs, l2 with
          | [x, y], _ =>
            have hx := h3 x (by simp)
            have hy := h3 y (by simp)
            exact read_two w s hs hne o n h he c hcd x y hI (by omega) (by omega) (isItem_pos (h1 y (by simp)) (by omega))
        · by_cases l17 : xs.length = 17
          · exact read_many w s hs hne o n h he c hcd xs hI l17 (fun x hx => isItem_pos (h1 x hx) (by have := h3 x hx; omega)) (fun x hx => by have := h3 x hx; omega)
          · exact (read_nolen w s hs hne o n h he c hcd xs hI l2 l17).mono fun _ _ h => .inl h
      · refine (read_noitems w s hs hne o n h he c hcd fun w1 e1 => ?_).mono fun _ _ h => .inl h
        rw [h2]
        exact items_no w1 (hG.ext e1) xs z h1 (by rw [← h2]; omega) (by omega) hz0 hz
end
end Go.Proofs.YtjogjmffkmfmbaaGreatDoor
