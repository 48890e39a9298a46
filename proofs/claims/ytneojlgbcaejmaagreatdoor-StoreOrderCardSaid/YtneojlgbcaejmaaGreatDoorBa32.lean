/- Parts of the proof, one behind the other: StoreE, StoreF. Each is under no condition but those that it states. -/
import Derived.Test.YtneojlgbcaejmaaGreatDoorBa31
import Derived.WalkMore
/- store: reached. -/
namespace Go.Proofs.YtneojlgbcaejmaaGreatDoor
section
open Go Go.RowKit
set_option linter.unusedSimpArgs false
set_option linter.unusedVariables false
attribute [local go_sem] Oper.semAt_some
/-- A map of nodes that holds what its nodes refer to. -/
structure Shut (G : List Nd5) : Prop where
  few : G.length ≤ 1000
  refs : ∀ y ∈ G, y.2.2.refs.length ≤ 16
  shut : ∀ y ∈ G, ∀ r ∈ y.2.2.refs, (atL G r.data.toList).isSome = true
def refsO (G : List Nd5) (x : ByteArray) : List ByteArray := match atL G x.data.toList with | some y => y.2.2.refs | none => []
theorem refsO_some {G : List Nd5} {x : ByteArray} {y : Nd5} (h : atL G x.data.toList = some y) : refsO G x = y.2.2.refs := by unfold refsO; rw [h]
structure Path (S G : List Nd5) (root : ByteArray) (M : List ByteArray) (i : Nat) : Prop where
  is : M = root :: ((frK S M).take i).flatMap (refsO G)
  le : i ≤ (frK S M).length
  inG : ∀ x ∈ M, (atL G x.data.toList).isSome = true
theorem flatG_len {G : List Nd5} (h : Shut G) : ∀ l : List ByteArray, (l.flatMap (refsO G)).length ≤ 16 * l.length
  | [] => by simp
  | x :: r => by
    have ih := flatG_len h r
    have : (refsO G x).length ≤ 16 := by
      unfold refsO
      split
      · rename_i y hy; exact h.refs y (atL_mem hy).1
      · simp
    rw [List.flatMap_cons, List.length_append, List.length_cons]; omega
theorem Path.len {S G : List Nd5} {root : ByteArray} {M : List ByteArray} {i : Nat} (h : Path S G root M i) (hs : Shut G) : M.length ≤ 1 + 16 * i := by
  have := flatG_len hs ((frK S M).take i)
  rw [List.length_take] at this
  have h2 := congrArg List.length h.is
  rw [List.length_cons] at h2
  omega
theorem frK_nodup (S : List Nd5) (M : List ByteArray) : (frK S M).Nodup := (firsts_nodup M).sublist List.filter_sublist
theorem frK_mem {S : List Nd5} {M : List ByteArray} {x : ByteArray} : x ∈ frK S M ↔ x ∈ M ∧ atL S x.data.toList = none := by
  unfold frK; rw [List.mem_filter, firsts_mem]; simp
theorem ba_data {x y : ByteArray} (h : x.data.toList = y.data.toList) : x = y := ByteArray.ext (Array.ext' h)
theorem frK_len {S G : List Nd5} {M : List ByteArray} (h : ∀ x ∈ M, (atL G x.data.toList).isSome = true) : (frK S M).length ≤ G.length := by
  have h1 : ((frK S M).map fun x => x.data.toList).Nodup := by
    have := frK_nodup S M
    generalize frK S M = l at this
    induction l with
    | nil => simp
    | cons z r ih =>
      rw [List.nodup_cons] at this
      rw [List.map_cons, List.nodup_cons]
      exact ⟨fun hm => by obtain ⟨y, hy, e⟩ := List.mem_map.1 hm; exact this.1 (ba_data e ▸ hy), ih this.2⟩
  have := List.Nodup.length_le_of_subset h1 (l₂ := G.map (·.1)) (fun k hk => by
    obtain ⟨x, hx, e⟩ := List.mem_map.1 hk
    obtain ⟨y, hy⟩ := Option.isSome_iff_exists.1 (h x (frK_mem.1 hx).1)
    exact List.mem_map.2 ⟨y, (atL_mem hy).1, by rw [(atL_mem hy).2, e]⟩)
  simpa using this
/-- frK only grows. -/
theorem frK_grow (S : List Nd5) (M : List ByteArray) : ∀ T : List ByteArray, ∃ X, frK S (M ++ T) = frK S M ++ X
  | [] => ⟨[], by simp⟩
  | x :: T => by
    obtain ⟨X, hX⟩ := frK_grow S (M ++ [x]) T
    have e : M ++ x :: T = M ++ [x] ++ T := by simp
    rw [e, hX, frK_step]
    split
    · exact ⟨X, rfl⟩
    · split
      · exact ⟨x :: X, by simp⟩
      · exact ⟨X, rfl⟩
theorem Path.step {S G : List Nd5} {root : ByteArray} {M : List ByteArray} {i : Nat} (h : Path S G root M i) (hs : Shut G) {x : ByteArray} (hx : (frK S M)[i]? = some x) : Path S G root (M ++ refsO G x) (i + 1) := by
  obtain ⟨X, hX⟩ := frK_grow S M (refsO G x)
  have hlt : i < (frK S M).length := (List.getElem?_eq_some_iff.1 hx).1
  refine ⟨?_, ?_, ?_⟩
  · have e : (frK S (M ++ refsO G x)).take (i + 1) = (frK S M).take i ++ [x] := by
      rw [hX, List.take_append_of_le_length (by omega), List.take_add_one, hx]; rfl
    rw [e, List.flatMap_append]
    have := h.is
    generalize frK S M = l at this
    rw [this]
    simp
  · rw [hX, List.length_append]; omega
  · intro y hy
    rcases List.mem_append.1 hy with hy | hy
    · exact h.inG y hy
    · unfold refsO at hy
      split at hy
      · rename_i z hz; exact hs.shut z (atL_mem hz).1 y hy
      · cases hy
theorem meet_init (w0 : World) (s : Nat) (S : List Nd5) (bg : Nat) : Meet w0 s S bg w0.heap.size [] (((((w0.alloc (.cells #[.pointer (some ⟨s, 0, none⟩)] 24)).alloc (.cells #[.map (some bg)] 89)).alloc (.cells #[.slice none 0 0] 57)).alloc (.map #[] 0)).alloc (.cells #[.map (some (w0.heap.size + 3))] 93)) := by
  obtain ⟨W1, h1⟩ : ∃ W1, W1 = w0.alloc (.cells #[.pointer (some ⟨s, 0, none⟩)] 24) := ⟨_, rfl⟩
  obtain ⟨W2, h2⟩ : ∃ W2, W2 = W1.alloc (.cells #[.map (some bg)] 89) := ⟨_, rfl⟩
  obtain ⟨W3, h3⟩ : ∃ W3, W3 = W2.alloc (.cells #[.slice none 0 0] 57) := ⟨_, rfl⟩
  obtain ⟨W4, h4⟩ : ∃ W4, W4 = W3.alloc (.map #[] 0) := ⟨_, rfl⟩
  obtain ⟨W5, h5⟩ : ∃ W5, W5 = W4.alloc (.cells #[.map (some (w0.heap.size + 3))] 93) := ⟨_, rfl⟩
  rw [← h1, ← h2, ← h3, ← h4, ← h5]
  have z1 : W1.heap.size = w0.heap.size + 1 := by rw [h1, World.size_alloc]
  have z2 : W2.heap.size = w0.heap.size + 2 := by rw [h2, World.size_alloc, z1]
  have z3 : W3.heap.size = w0.heap.size + 3 := by rw [h3, World.size_alloc, z2]
  have z4 : W4.heap.size = w0.heap.size + 4 := by rw [h4, World.size_alloc, z3]
  have e1 : Ext w0 W1 := by rw [h1]; exact (ExtR w0).alloc _
  have e2 : Ext W1 W2 := by rw [h2]; exact (ExtR W1).alloc _
  have e3 : Ext W2 W3 := by rw [h3]; exact (ExtR W2).alloc _
  have e4 : Ext W3 W4 := by rw [h4]; exact (ExtR W3).alloc _
  have e5 : Ext W4 W5 := by rw [h5]; exact (ExtR W4).alloc _
  have b1 := by have := Blk.new w0 (.cells #[.pointer (some ⟨s, 0, none⟩)] 24); rw [← h1] at this; exact this
  have b2 := by have := Blk.new W1 (.cells #[.map (some bg)] 89); rw [← h2, z1] at this; exact this
  have b3 := by have := Blk.new W2 (.cells #[.slice none 0 0] 57); rw [← h3, z2] at this; exact this
  have b4 := by have := Blk.new W3 (.map #[] 0); rw [← h4, z3] at this; exact this
  have b5 := by have := Blk.new W4 (.cells #[.map (some (w0.heap.size + 3))] 93); rw [← h5, z4] at this; exact this
  exact ⟨(((e1.trans e2).trans e3).trans e4).trans e5, Nat.le_refl _, b1.keeps (((e2.trans e3).trans e4).trans e5) (fun g => g), b2.keeps ((e3.trans e4).trans e5) (fun g => g), b5,
    ⟨[], 0, b4.keeps e5 (fun g => g), fun y => rfl⟩, .slice none 0 0, 0, b3.keeps (e4.trans e5) (fun g => g), World.ownsRow_nil _ _ _ _, Nat.le_refl _, fun z hz => by cases hz⟩
theorem own_rd {w : World} {v : Value} {n : Nat} {xs : List ByteArray} (h : w.ownsRow 0 9 1 v n (xs.map Value.string)) : RdS w v xs := by
  have hl : xs.length = n := by have := h.1; simpa using this
  obtain ⟨_, ⟨rfl, h2⟩ | ⟨g, cap, cur, rfl, h3, h4, h5, h6, h7⟩⟩ := id h
  · exact .inl ⟨none, 0, rfl, List.eq_nil_of_length_eq_zero (by omega)⟩
  · subst hl
    refine .inr ⟨g, 0, cap, rfl, (Array.getElem?_eq_some_iff.1 h4).1, h5, fun j x hx => ?_⟩
    have hj := (List.getElem?_eq_some_iff.1 hx).1
    have := h.cellAt j (by omega)
    rw [Nat.zero_add, this, List.getElem?_map, hx]; rfl
def RhRel (w0 : World) (s : Nat) (S G : List Nd5) (bg b : Nat) (root : ByteArray) (wv iv : Value) (W : World) : Prop := wv = .bool true ∧ ∃ (i : Nat) (M : List ByteArray), iv = .int .i64 i ∧ Path S G root M i ∧ Meet w0 s S bg b M W
def RhRel2 (w0 : World) (s : Nat) (S G : List Nd5) (bg b : Nat) (M R : List ByteArray) (wv jv : Value) (W : World) : Prop := wv = .bool true ∧ ∃ j : Nat, jv = .int .i64 j ∧ j ≤ R.length ∧ Meet w0 s S bg b (M ++ R.take j) W
set_option maxRecDepth 100000 in
set_option maxHeartbeats 8000000 in
theorem reached_c (w0 : World) (s bm : Nat) (room : Int) (S G : List Nd5) (bg : Nat) (h : StoreAt w0 s bm room S) (hG : MapAt w0 bg G) (hs : Shut G) (root : ByteArray) (hr : (atL G root.data.toList).isSome = true) :
    Calls Tryz.prog 53 #[.pointer (some ⟨s, 0, none⟩), .string root, .map (some bg)] w0 fun e w' => ∃ v n M, e = .returned (.tuple #[v, .int .i64 0]) ∧ Path S G root M (frK S M).length ∧ SRow w0 w' v n (frK S M) := by
  have HS := Lib.hid h
  have HG := Lib.hid hG
  have HSH := Lib.hid hs
  have HR := Lib.hid hr
  have hmm := Tryz.makeMapSI
  clear h hG hs hr
  go_enter Tryz.func53, Tryz.ntmps53
  go_wp2_with fail
  go_step3
  go_wp2_with fail
  refine (meet_c w0 s bm room S G bg w0.heap.size HS.out HG.out _ [] (meet_init w0 s S bg) root HR.out (by simp)).mono ?_
  rintro e w5 ⟨rfl, hM⟩
  have HM := Lib.hid hM
  clear hM hmm
  obtain ⟨b, hb⟩ : ∃ b, b = w0.heap.size := ⟨_, rfl⟩
  rw [show w0.heap.size + 1 + 1 + 1 + 1 = w0.heap.size + 4 from rfl, show w0.heap.size + 1 + 1 + 1 = w0.heap.size + 3 from rfl, show w0.heap.size + 1 + 1 = w0.heap.size + 2 from rfl]
  rw [← hb] at HM ⊢
  clear hb
  go_wp2_with fail
  go_step3
  go_wp2_with fail
  go_loopw [11, 12] (fun wv iv wr => RhRel w0 s S G bg b root wv iv wr) (fun _ iv _ => 1001 - (intOf iv).toNat)
  case atStart =>
    refine ⟨rfl, 0, [root], rfl, ⟨by simp, Nat.zero_le _, fun x hx => by simp at hx; subst hx; exact HR.out⟩, HM.out⟩
  case round =>
    obtain ⟨rfl, i, M, rfl, hP, hM⟩ := hrel
    obtain ⟨v, n, h1, h2, h3, h4⟩ := hM.var
    obtain ⟨ad, cp, rfl⟩ := row_slice h2
    have hn : (frK S M).length = n := by have := h2.1; simpa using this
    have hfl := frK_len (S := S) hP.inG
    have hfew := HSH.out.few
    have q8 := h1.cell (i := 0) (v := .slice ad n cp) (by rfl)
    have hile := hP.le
    by_cases hlt : i < n
    · have b1 : (i : Int) < (n : Int) := by omega
      obtain ⟨x, hx⟩ : ∃ x, (frK S M)[i]? = some x := ⟨_, List.getElem?_eq_getElem (by omega)⟩
      obtain ⟨ax, cx, hh, hcell⟩ := (own_rd h2).slice
      obtain ⟨ba, oa, hao, hqa⟩ := hcell i x hx
      subst hao
      cases hh
      obtain ⟨y, hy⟩ := Option.isSome_iff_exists.1 (hP.inG x (frK_mem.1 (List.mem_of_getElem? hx)).1)
      have hI := HG.out.items y (atL_mem hy).1
      have hro := refsO_some hy
      have h16 := HSH.out.refs y (atL_mem hy).1
      have HXG := Lib.hid (HSH.out.shut y (atL_mem hy).1)
      obtain ⟨rv, hIb, hIr⟩ := hI.cells
      obtain ⟨ar, cr, rfl⟩ := row_slice hIr
      obtain ⟨R, hR⟩ : ∃ R, R = y.2.2.refs := ⟨_, rfl⟩
      have Q5 := Lib.hid (hM.c5.cell (i := 0) (v := .map (some bg)) (by rfl))
      have Q8 := Lib.hid q8
      have QA := Lib.hid hqa
      have QR := Lib.hid ((hIb.keeps hM.ext (fun g => g)).cell (i := 1) (v := .slice ar y.2.2.refs.length cr) (by rfl))
      have HMG := Lib.hid (HG.out.ext hM.ext)
      have HY := Lib.hid hy
      have HPS := Lib.hid (hP.step HSH.out hx)
      have HPL := Lib.hid (hP.len HSH.out)
      have HRR := Lib.hid (own_rd hIr)
      have HM2 := Lib.hid hM
      rw [hro, ← hR] at HPS
      rw [← hR] at QR HRR HXG h16
      have hi1000 : i ≤ 1000 := by omega
      obtain ⟨yb, hyb⟩ : ∃ yb, yb = y.2.1 := ⟨_, rfl⟩
      rw [← hyb] at QR
      have HYB := Lib.hid hyb
      clear hro hR hyb hIr hIb hI hy hx hcell hqa h1 h2 hP hM hn hfl hile
      go_wp2_with fail
      refine wp_region_mixK [0,1,2,3,4,5,6,7,8,9,10] Ext ExtR ExtT (by kernel_rfl) (by kernel_rfl) (by kernel_rfl) ?_
      refine mixk_load ⟨b + 1, 0, none⟩ _ rfl (by kernel_rfl) rfl rfl (fun w1 h1 => run_load_plain Tryz.underlying89 rfl (cell_ext Q5.out ((drewE _).trans h1))) ?_
      simp only [Act.put, List.setIfInBounds_toArray, List.set_cons_zero, List.set_cons_succ]
      refine mixk_load ⟨b + 2, 0, none⟩ _ rfl (by kernel_rfl) rfl rfl (fun w1 h1 => run_load_plain Tryz.underlying57 rfl (cell_ext Q8.out ((drewE _).trans h1))) ?_
      simp only [Act.put, List.setIfInBounds_toArray, List.set_cons_zero, List.set_cons_succ]
      iterate 2 (refine mixk_pure _ rfl (by kernel_rfl) rfl rfl (fun K hK => ?_); go_big_quiet_op; refine hK _ ?_; clear hK K)
      refine mixk_load ⟨ba, oa + i, none⟩ _ rfl (by kernel_rfl) rfl rfl (fun w1 h1 => run_load_plain Tryz.underlying9 rfl (cell_ext QA.out ((drewE _).trans h1))) ?_
      simp only [Act.put, List.setIfInBounds_toArray, List.set_cons_zero, List.set_cons_succ]
      refine mixk_val _ (.pointer (some ⟨yb, 0, none⟩)) rfl (by kernel_rfl) rfl (fun w1 h1 => by
        have hx := (HMG.out.ext ((drewE _).trans h1)).look x false
        rw [HY.out] at hx
        unfold ptrO at hx
        simp only [Bool.false_eq_true, if_false] at hx
        rw [← HYB.out] at hx
        simp [execOp, Act.eval, hx, Sem.run_bind, Result.andThen, Sem.run_pure]) ?_
      simp only [Act.put, List.setIfInBounds_toArray, List.set_cons_zero, List.set_cons_succ]
      refine mixk_val _ (.pointer (some ⟨yb, 0, none⟩)) rfl (by kernel_rfl) rfl (fun w1 _ => by kernel_rfl) ?_
      simp only [Act.put, List.setIfInBounds_toArray, List.set_cons_zero, List.set_cons_succ]
      iterate 1 (refine mixk_pure _ rfl (by kernel_rfl) rfl rfl (fun K hK => ?_); go_big_quiet_op; refine hK _ ?_; clear hK K)
      refine mixk_load ⟨yb, 1, none⟩ _ rfl (by kernel_rfl) rfl rfl (fun w1 h1 => run_load_plain Tryz.underlying57 rfl (cell_ext QR.out ((drewE _).trans h1))) ?_
      simp only [Act.put, List.setIfInBounds_toArray, List.set_cons_zero, List.set_cons_succ]
      iterate 2 (refine mixk_pure _ rfl (by kernel_rfl) rfl rfl (fun K hK => ?_); go_big_quiet_op; refine hK _ ?_; clear hK K)
      refine mixk_end (by kernel_rfl) (fun w3 he => ?_)
      have HM3 := Lib.hid (HM2.out.keeps ((drewE _).trans he))
      clear he HM2 Q5 Q8 QA QR HMG HY q8
      go_wp2_with fail
      go_loopw [11, 36] (fun wv jv wr2 => RhRel2 w0 s S G bg b M R wv jv wr2) (fun _ jv _ => R.length - (intOf jv).toNat)
      case atStart => exact ⟨rfl, 0, rfl, Nat.zero_le _, by rw [List.take_zero, List.append_nil]; exact HM3.out⟩
      case round =>
        obtain ⟨rfl, j, rfl, hj, hM'⟩ := hrel
        by_cases hlt2 : j < R.length
        · have b2 : (j : Int) < (R.length : Int) := by omega
          obtain ⟨z, hz⟩ : ∃ z, R[j]? = some z := ⟨_, List.getElem?_eq_getElem hlt2⟩
          obtain ⟨ax2, cx2, hh2, hcell2⟩ := HRR.out.slice
          obtain ⟨ba2, oa2, hao2, hqa2⟩ := hcell2 j z hz
          subst hao2
          cases hh2
          have q2 := cell_ext hqa2 hM'.ext
          have HZ := Lib.hid (HXG.out z (List.mem_of_getElem? hz))
          have HT := Lib.hid (show M ++ R.take (j + 1) = M ++ R.take j ++ [z] by rw [List.take_add_one, hz, ← List.append_assoc]; rfl)
          have HL := Lib.hid (show (M ++ R.take j).length ≤ 1000000 by have := HPL.out; rw [List.length_append, List.length_take]; omega)
          have HMJ := Lib.hid hM'
          clear hcell2 hqa2 hM' hz
          go_wp2_with fail
          refine (meet_c w0 s bm room S G bg b HS.out HG.out _ _ HMJ.out z HZ.out HL.out).mono ?_
          rintro e w9 ⟨rfl, hM9⟩
          rw [← HT.out] at hM9
          have HM9 := Lib.hid hM9
          clear hM9 HMJ q2
          go_wp2_with fail
          go_roundw
          case rel => exact ⟨rfl, j + 1, by go_num, by omega, HM9.out⟩
          case measure => simp [intOf]; omega
        · have hje : j = R.length := by omega
          subst hje
          rw [List.take_length] at hM'
          have HM9 := Lib.hid hM'
          clear hM'
          go_wp2_with fail
          go_roundw
          case rel => exact ⟨rfl, i + 1, M ++ R, by go_num, HPS.out, HM9.out⟩
          case measure => simp [intOf]; omega
    · have hie : i = (frK S M).length := by omega
      have HP := Lib.hid (show Path S G root M (frK S M).length by rw [← hie]; exact hP)
      have HRW := Lib.hid (show SRow w0 wr (.slice ad n cp) n (frK S M) from ⟨⟨_, _, rfl⟩, h2, hM.ext, fun z hz => by have := h4 z hz; have := hM.lo; omega⟩)
      have b1 : ¬ (i : Int) < (n : Int) := by omega
      clear hie hP hM h1 h2 h4 hn hfl hile
      go_wp2_with fail
      go_ret2
      exact ⟨.slice ad n cp, n, M, rfl, HP.out, HRW.out⟩
end
end Go.Proofs.YtneojlgbcaejmaaGreatDoor
/- store: for Add: what is given is shut; items that are set; keys that are counted. -/
namespace Go.Proofs.YtneojlgbcaejmaaGreatDoor
section
open Go Go.RowKit
set_option linter.unusedSimpArgs false
set_option linter.unusedVariables false
attribute [local go_sem] Oper.semAt_some
theorem readG_snoc (L : List ByteArray) (t : ByteArray) : readG (L ++ [t]) = addG (readG L) t := by unfold readG; rw [List.foldl_append]; rfl
theorem readG_all (L : List ByteArray) : (∀ p ∈ readG L, ∃ t ∈ L, p = (ky t, itOf t)) ∧ (∀ t ∈ L, ∃ p ∈ readG L, p.1 = ky t) ∧ (readG L).length ≤ L.length := by
  suffices h : ∀ (R acc : List ByteArray), ((∀ p ∈ readG acc, ∃ t ∈ acc, p = (ky t, itOf t)) ∧ (∀ t ∈ acc, ∃ p ∈ readG acc, p.1 = ky t) ∧ (readG acc).length ≤ acc.length) → (∀ p ∈ readG (acc ++ R), ∃ t ∈ acc ++ R, p = (ky t, itOf t)) ∧ (∀ t ∈ acc ++ R, ∃ p ∈ readG (acc ++ R), p.1 = ky t) ∧ (readG (acc ++ R)).length ≤ (acc ++ R).length from by
    have := h L [] ⟨fun p hp => (by cases hp), fun t ht => (by cases ht), Nat.le_refl _⟩
    simpa using this
  intro R
  induction R with
  | nil => intro acc h; simpa using h
  | cons t R ih =>
    intro acc ⟨h1, h2, h3⟩
    have := ih (acc ++ [t]) (by
      rw [readG_snoc]
      unfold addG
      split
      · rename_i hb
        obtain ⟨p, hp, e⟩ := List.any_eq_true.1 hb
        refine ⟨fun p hp => by obtain ⟨x, hx, e⟩ := h1 p hp; exact ⟨x, List.mem_append.2 (.inl hx), e⟩, fun x hx => ?_, by rw [List.length_append]; exact Nat.le_trans h3 (Nat.le_add_right _ _)⟩
        rcases List.mem_append.1 hx with hx | hx
        · exact h2 x hx
        · simp only [List.mem_singleton] at hx; subst hx; exact ⟨p, hp, (of_decide_eq_true e).symm⟩
      · refine ⟨fun p hp => ?_, fun x hx => ?_, by rw [List.length_append, List.length_append]; exact Nat.add_le_add_right h3 1⟩
        · rcases List.mem_append.1 hp with hp | hp
          · obtain ⟨x, hx, e⟩ := h1 p hp; exact ⟨x, List.mem_append.2 (.inl hx), e⟩
          · simp only [List.mem_singleton] at hp; subst hp; exact ⟨t, by simp, rfl⟩
        · rcases List.mem_append.1 hx with hx | hx
          · obtain ⟨p, hp, e⟩ := h2 x hx; exact ⟨p, List.mem_append.2 (.inl hp), e⟩
          · simp only [List.mem_singleton] at hx; subst hx; exact ⟨(ky x, itOf x), by simp, rfl⟩)
    simpa using this
/-- Texts of nodes that hold what they refer to. -/
structure ShutL (L : List ByteArray) : Prop where
  node : ∀ t ∈ L, ∃ n, IsNode t n
  shut : ∀ t ∈ L, ∀ h ∈ hashesT (nodeOf t), ∃ t' ∈ L, h = shaB t'
  few : L.length ≤ 1000
theorem given_has {L : List ByteArray} {G : List Nd5} (h : G.map kvI = readG L) {t : ByteArray} (ht : t ∈ L) : (atL G (shaB t).data.toList).isSome = true := by
  obtain ⟨p, hp, e⟩ := (readG_all L).2.1 t ht
  rw [← h] at hp
  obtain ⟨x, hx, rfl⟩ := List.mem_map.1 hp
  cases ha : atL G (shaB t).data.toList with
  | some y => rfl
  | none => exact absurd e.symm (atL_none.1 ha x hx)
theorem given_is {L : List ByteArray} {G : List Nd5} (h : G.map kvI = readG L) {x : Nd5} (hx : x ∈ G) : ∃ t ∈ L, x.1 = ky t ∧ x.2.2 = itOf t := by
  obtain ⟨t, ht, e⟩ := (readG_all L).1 (kvI x) (by rw [← h]; exact List.mem_map.2 ⟨x, hx, rfl⟩)
  exact ⟨t, ht, congrArg Prod.fst e, congrArg Prod.snd e⟩
theorem given_shut {L : List ByteArray} {G : List Nd5} (h : G.map kvI = readG L) (hL : ShutL L) : Shut G := by
  refine ⟨?_, fun y hy => ?_, fun y hy r hr => ?_⟩
  · have := (readG_all L).2.2
    rw [← h, List.length_map] at this
    exact Nat.le_trans this hL.few
  · obtain ⟨t, ht, _, e⟩ := given_is h hy
    rw [e]
    obtain ⟨n, hn⟩ := hL.node t ht
    exact hashesT_len (nodeOf_is hn)
  · obtain ⟨t, ht, _, e⟩ := given_is h hy
    rw [e] at hr
    obtain ⟨t', ht', rfl⟩ := hL.shut t ht r hr
    exact given_has h ht'
/-! A field of an item is set. -/
def putF (f : Nat) (v : Int) (it : It) : It := if f = 2 then { it with used := v } else { it with held := v }
def setB (f c : Nat) (v : Int) (x : Nd5) : Nd5 := if x.2.1 = c then (x.1, x.2.1, putF f v x.2.2) else x
theorem setB_kvN (f c : Nat) (v : Int) (L : List Nd5) : (L.map (setB f c v)).map kvN = L.map kvN := by
  rw [List.map_map]
  refine List.map_congr_left (fun x _ => ?_)
  simp only [Function.comp, setB]; split <;> rfl
theorem setB_blk (f c : Nat) (v : Int) (L : List Nd5) : (L.map (setB f c v)).map (·.2.1) = L.map (·.2.1) := by
  rw [List.map_map]
  refine List.map_congr_left (fun x _ => ?_)
  simp only [Function.comp, setB]; split <;> rfl
theorem MapAt.setF {W : World} {bm : Nat} {L : List Nd5} (h : MapAt W bm L) {c : Nat} {it : It} (hc : ItemAt W c it) {f : Nat} (hf : f = 2 ∨ f = 3) (v : Int) : MapAt (W.setCell ⟨c, f, none⟩ (.int .i64 v)) bm (L.map (setB f c v)) := by
  obtain ⟨rv, hcb, hcr⟩ := hc.cells
  have hK : Keeps (fun z => z = c) W (W.setCell ⟨c, f, none⟩ (.int .i64 v)) := Keeps.oneSet W ⟨c, f, none⟩ _
  have hN : NoRow W (fun z => z = c) := fun z cur fz e hz => by
    have e : z = c := e
    subst e
    have := hcb.uniq hz; injection this with _ h2; exact absurd h2 (by decide)
  obtain ⟨es, ck, h1, h2⟩ := h.mp
  have hne : bm ≠ c := fun e => by subst e; have := h1.uniq hcb; cases this
  refine ⟨⟨es, ck, h1.keeps hK hne, by rw [setB_kvN]; exact h2⟩, by rw [setB_blk]; exact h.blks, fun x hx => ?_⟩
  obtain ⟨y, hy, rfl⟩ := List.mem_map.1 hx
  have hi := h.items y hy
  unfold setB
  split
  · rename_i e
    obtain ⟨rw', hb, hr⟩ := hi.cells
    rw [e] at hb
    refine ⟨rw', ?_, ?_⟩
    · show Blk _ y.2.1 _
      rw [e]
      rcases hf with rfl | rfl
      · exact hb.set_same (i := 2) _
      · exact hb.set_same (i := 3) _
    · have := row_keeps hr hK hN
      rcases hf with rfl | rfl <;> exact this
  · rename_i e
    exact hi.keeps hK e hN
end
end Go.Proofs.YtneojlgbcaejmaaGreatDoor
