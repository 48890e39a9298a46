/- Parts of the proof, one behind the other: StoreE, StoreF, StoreFb, StoreG, StoreH, NibbleE. Each is under no condition but those that it states. -/
import Derived.Test.YtjogjmffkmfmbaaGreatDoorPc24
import Derived.Test.YtjogjmffkmfmbaaGreatDoorPc17
import Derived.Test.YtjogjmffkmfmbaaGreatDoorPc19
import Derived.WalkMore
/- store: reached. -/
namespace Go.Proofs.YtjogjmffkmfmbaaGreatDoor
section
open Go Go.RowKit
set_option linter.unusedSimpArgs false
set_option linter.unusedVariables false
attribute [local go_sem] Oper.semAt_some
/-- A map of nodes that holds what its nodes refer to. -/
structure Shut (G : List Nd5) : Prop where
  few : G.length ≤ 1000
  refs : ∀ y ∈ G, y.2.2.refs.length ≤ 16
  shut : ∀ y ∈ G, ∀ r ∈ y.2.2.refs, (atL G r.data.toList).isSome = true
def refsO (G : List Nd5) (x : ByteArray) : List ByteArray := match atL G x.data.toList with | some y => y.2.2.refs | none => []
theorem refsO_some {G : List Nd5} {x : ByteArray} {y : Nd5} (h : atL G x.data.toList = some y) : refsO G x = y.2.2.refs := by unfold refsO; rw [h]
structure Path (S G : List Nd5) (root : ByteArray) (M : List ByteArray) (i : Nat) : Prop where
  is : M = root :: ((frK S M).take i).flatMap (refsO G)
  le : i ≤ (frK S M).length
  inG : ∀ x ∈ M, (atL G x.data.toList).isSome = true
theorem flatG_len {G : List Nd5} (h : Shut G) : ∀ l : List ByteArray, (l.flatMap (refsO G)).length ≤ 16 * l.length
  | [] => by simp
  | x :: r => by
    have ih := flatG_len h r
    have : (refsO G x).length ≤ 16 := by
      unfold refsO
      split
      · rename_i y hy; exact h.refs y (atL_mem hy).1
      · simp
    rw [List.flatMap_cons, List.length_append, List.length_cons]; omega
theorem Path.len {S G : List Nd5} {root : ByteArray} {M : List ByteArray} {i : Nat} (h : Path S G root M i) (hs : Shut G) : M.length ≤ 1 + 16 * i := by
  have := flatG_len hs ((frK S M).take i)
  rw [List.length_take] at this
  have h2 := congrArg List.length h.is
  rw [List.length_cons] at h2
  omega
theorem frK_nodup (S : List Nd5) (M : List ByteArray) : (frK S M).Nodup := (firsts_nodup M).sublist List.filter_sublist
theorem frK_mem {S : List Nd5} {M : List ByteArray} {x : ByteArray} : x ∈ frK S M ↔ x ∈ M ∧ atL S x.data.toList = none := by
  unfold frK; rw [List.mem_filter, firsts_mem]; simp
theorem ba_data {x y : ByteArray} (h : x.data.toList = y.data.toList) : x = y := ByteArray.ext (Array.ext' h)
theorem frK_len {S G : List Nd5} {M : List ByteArray} (h : ∀ x ∈ M, (atL G x.data.toList).isSome = true) : (frK S M).length ≤ G.length := by
  have h1 : ((frK S M).map fun x => x.data.toList).Nodup := by
    have := frK_nodup S M
    generalize frK S M = l at this
    induction l with
    | nil => simp
    | cons z r ih =>
      rw [List.nodup_cons] at this
      rw [List.map_cons, List.nodup_cons]
      exact ⟨fun hm => by obtain ⟨y, hy, e⟩ := List.mem_map.1 hm; exact this.1 (ba_data e ▸ hy), ih this.2⟩
  have := List.Nodup.length_le_of_subset h1 (l₂ := G.map (·.1)) (fun k hk => by
    obtain ⟨x, hx, e⟩ := List.mem_map.1 hk
    obtain ⟨y, hy⟩ := Option.isSome_iff_exists.1 (h x (frK_mem.1 hx).1)
    exact List.mem_map.2 ⟨y, (atL_mem hy).1, by rw [(atL_mem hy).2, e]⟩)
  simpa using this
/-- frK only grows. -/
theorem frK_grow (S : List Nd5) (M : List ByteArray) : ∀ T : List ByteArray, ∃ X, frK S (M ++ T) = frK S M ++ X
  | [] => ⟨[], by simp⟩
  | x :: T => by
    obtain ⟨X, hX⟩ := frK_grow S (M ++ [x]) T
    have e : M ++ x :: T = M ++ [x] ++ T := by simp
    rw [e, hX, frK_step]
    split
    · exact ⟨X, rfl⟩
    · split
      · exact ⟨x :: X, by simp⟩
      · exact ⟨X, rfl⟩
theorem Path.step {S G : List Nd5} {root : ByteArray} {M : List ByteArray} {i : Nat} (h : Path S G root M i) (hs : Shut G) {x : ByteArray} (hx : (frK S M)[i]? = some x) : Path S G root (M ++ refsO G x) (i + 1) := by
  obtain ⟨X, hX⟩ := frK_grow S M (refsO G x)
  have hlt : i < (frK S M).length := (List.getElem?_eq_some_iff.1 hx).1
  refine ⟨?_, ?_, ?_⟩
  · have e : (frK S (M ++ refsO G x)).take (i + 1) = (frK S M).take i ++ [x] := by
      rw [hX, List.take_append_of_le_length (by omega), List.take_add_one, hx]; rfl
    rw [e, List.flatMap_append]
    have := h.is
    generalize frK S M = l at this
    rw [this]
    simp
  · rw [hX, List.length_append]; omega
  · intro y hy
    rcases List.mem_append.1 hy with hy | hy
    · exact h.inG y hy
    · unfold refsO at hy
      split at hy
      · rename_i z hz; exact hs.shut z (atL_mem hz).1 y hy
      · cases hy
theorem meet_init (w0 : World) (s : Nat) (S : List Nd5) (bg : Nat) : Meet w0 s S bg w0.heap.size [] (((((w0.alloc (.cells #[.pointer (some ⟨s, 0, none⟩)] 24)).alloc (.cells #[.map (some bg)] 92)).alloc (.cells #[.slice none 0 0] 22)).alloc (.map #[] 0)).alloc (.cells #[.map (some (w0.heap.size + 3))] 131)) := by
  obtain ⟨W1, h1⟩ : ∃ W1, W1 = w0.alloc (.cells #[.pointer (some ⟨s, 0, none⟩)] 24) := ⟨_, rfl⟩
  obtain ⟨W2, h2⟩ : ∃ W2, W2 = W1.alloc (.cells #[.map (some bg)] 92) := ⟨_, rfl⟩
  obtain ⟨W3, h3⟩ : ∃ W3, W3 = W2.alloc (.cells #[.slice none 0 0] 22) := ⟨_, rfl⟩
  obtain ⟨W4, h4⟩ : ∃ W4, W4 = W3.alloc (.map #[] 0) := ⟨_, rfl⟩
  obtain ⟨W5, h5⟩ : ∃ W5, W5 = W4.alloc (.cells #[.map (some (w0.heap.size + 3))] 131) := ⟨_, rfl⟩
  rw [← h1, ← h2, ← h3, ← h4, ← h5]
  have z1 : W1.heap.size = w0.heap.size + 1 := by rw [h1, World.size_alloc]
  have z2 : W2.heap.size = w0.heap.size + 2 := by rw [h2, World.size_alloc, z1]
  have z3 : W3.heap.size = w0.heap.size + 3 := by rw [h3, World.size_alloc, z2]
  have z4 : W4.heap.size = w0.heap.size + 4 := by rw [h4, World.size_alloc, z3]
  have e1 : Ext w0 W1 := by rw [h1]; exact (ExtR w0).alloc _
  have e2 : Ext W1 W2 := by rw [h2]; exact (ExtR W1).alloc _
  have e3 : Ext W2 W3 := by rw [h3]; exact (ExtR W2).alloc _
  have e4 : Ext W3 W4 := by rw [h4]; exact (ExtR W3).alloc _
  have e5 : Ext W4 W5 := by rw [h5]; exact (ExtR W4).alloc _
  have b1 := by have := Blk.new w0 (.cells #[.pointer (some ⟨s, 0, none⟩)] 24); rw [← h1] at this; exact this
  have b2 := by have := Blk.new W1 (.cells #[.map (some bg)] 92); rw [← h2, z1] at this; exact this
  have b3 := by have := Blk.new W2 (.cells #[.slice none 0 0] 22); rw [← h3, z2] at this; exact this
  have b4 := by have := Blk.new W3 (.map #[] 0); rw [← h4, z3] at this; exact this
  have b5 := by have := Blk.new W4 (.cells #[.map (some (w0.heap.size + 3))] 131); rw [← h5, z4] at this; exact this
  exact ⟨(((e1.trans e2).trans e3).trans e4).trans e5, Nat.le_refl _, b1.keeps (((e2.trans e3).trans e4).trans e5) (fun g => g), b2.keeps ((e3.trans e4).trans e5) (fun g => g), b5,
    ⟨[], 0, b4.keeps e5 (fun g => g), fun y => rfl⟩, .slice none 0 0, 0, b3.keeps (e4.trans e5) (fun g => g), World.ownsRow_nil _ _ _ _, Nat.le_refl _, fun z hz => by cases hz⟩
theorem own_rd {w : World} {v : Value} {n : Nat} {xs : List ByteArray} (h : w.ownsRow 0 9 1 v n (xs.map Value.string)) : RdS w v xs := by
  have hl : xs.length = n := by have := h.1; simpa using this
  obtain ⟨_, ⟨rfl, h2⟩ | ⟨g, cap, cur, rfl, h3, h4, h5, h6, h7⟩⟩ := id h
  · exact .inl ⟨none, 0, rfl, List.eq_nil_of_length_eq_zero (by omega)⟩
  · subst hl
    refine .inr ⟨g, 0, cap, rfl, (Array.getElem?_eq_some_iff.1 h4).1, h5, fun j x hx => ?_⟩
    have hj := (List.getElem?_eq_some_iff.1 hx).1
    have := h.cellAt j (by omega)
    rw [Nat.zero_add, this, List.getElem?_map, hx]; rfl
def RhRel (w0 : World) (s : Nat) (S G : List Nd5) (bg b : Nat) (root : ByteArray) (wv iv : Value) (W : World) : Prop := wv = .bool true ∧ ∃ (i : Nat) (M : List ByteArray), iv = .int .i64 i ∧ Path S G root M i ∧ Meet w0 s S bg b M W
def RhRel2 (w0 : World) (s : Nat) (S G : List Nd5) (bg b : Nat) (M R : List ByteArray) (wv jv : Value) (W : World) : Prop := wv = .bool true ∧ ∃ j : Nat, jv = .int .i64 j ∧ j ≤ R.length ∧ Meet w0 s S bg b (M ++ R.take j) W
set_option maxRecDepth 100000 in
set_option maxHeartbeats 8000000 in
theorem reached_c (w0 : World) (s bm : Nat) (room : Int) (S G : List Nd5) (bg : Nat) (h : StoreAt w0 s bm room S) (hG : MapAt w0 bg G) (hs : Shut G) (root : ByteArray) (hr : (atL G root.data.toList).isSome = true) :
    Calls Tryz.prog 51 #[.pointer (some ⟨s, 0, none⟩), .string root, .map (some bg)] w0 fun e w' => ∃ v n M, e = .returned (.tuple #[v, .int .i64 0]) ∧ Path S G root M (frK S M).length ∧ SRow w0 w' v n (frK S M) := by
  have HS := Lib.hid h
  have HG := Lib.hid hG
  have HSH := Lib.hid hs
  have HR := Lib.hid hr
  have hmm := Tryz.makeMapSI
  clear h hG hs hr
  go_enter Tryz.func51, Tryz.ntmps51
  go_wp2_with fail
  go_step3
  go_wp2_with fail
  refine (meet_c w0 s bm room S G bg w0.heap.size HS.out HG.out _ [] (meet_init w0 s S bg) root HR.out (by simp)).mono ?_
  rintro e w5 ⟨rfl, hM⟩
  have HM := Lib.hid hM
  clear hM hmm
  obtain ⟨b, hb⟩ : ∃ b, b = w0.heap.size := ⟨_, rfl⟩
  rw [show w0.heap.size + 1 + 1 + 1 + 1 = w0.heap.size + 4 from rfl, show w0.heap.size + 1 + 1 + 1 = w0.heap.size + 3 from rfl, show w0.heap.size + 1 + 1 = w0.heap.size + 2 from rfl]
  rw [← hb] at HM ⊢
  clear hb
  go_wp2_with fail
  go_step3
  go_wp2_with fail
  go_loopw [11, 12] (fun wv iv wr => RhRel w0 s S G bg b root wv iv wr) (fun _ iv _ => 1001 - (intOf iv).toNat)
  case atStart =>
    refine ⟨rfl, 0, [root], rfl, ⟨by simp, Nat.zero_le _, fun x hx => by simp at hx; subst hx; exact HR.out⟩, HM.out⟩
  case round =>
    obtain ⟨rfl, i, M, rfl, hP, hM⟩ := hrel
    obtain ⟨v, n, h1, h2, h3, h4⟩ := hM.var
    obtain ⟨ad, cp, rfl⟩ := row_slice h2
    have hn : (frK S M).length = n := by have := h2.1; simpa using this
    have hfl := frK_len (S := S) hP.inG
    have hfew := HSH.out.few
    have q8 := h1.cell (i := 0) (v := .slice ad n cp) (by rfl)
    have hile := hP.le
    by_cases hlt : i < n
    · have b1 : (i : Int) < (n : Int) := by omega
      obtain ⟨x, hx⟩ : ∃ x, (frK S M)[i]? = some x := ⟨_, List.getElem?_eq_getElem (by omega)⟩
      obtain ⟨ax, cx, hh, hcell⟩ := (own_rd h2).slice
      obtain ⟨ba, oa, hao, hqa⟩ := hcell i x hx
      subst hao
      cases hh
      obtain ⟨y, hy⟩ := Option.isSome_iff_exists.1 (hP.inG x (frK_mem.1 (List.mem_of_getElem? hx)).1)
      have hI := HG.out.items y (atL_mem hy).1
      have hro := refsO_some hy
      have h16 := HSH.out.refs y (atL_mem hy).1
      have HXG := Lib.hid (HSH.out.shut y (atL_mem hy).1)
      obtain ⟨rv, hIb, hIr⟩ := hI.cells
      obtain ⟨ar, cr, rfl⟩ := row_slice hIr
      obtain ⟨R, hR⟩ : ∃ R, R = y.2.2.refs := ⟨_, rfl⟩
      have Q5 := Lib.hid (hM.c5.cell (i := 0) (v := .map (some bg)) (by rfl))
      have Q8 := Lib.hid q8
      have QA := Lib.hid hqa
      have QR := Lib.hid ((hIb.keeps hM.ext (fun g => g)).cell (i := 1) (v := .slice ar y.2.2.refs.length cr) (by rfl))
      have HMG := Lib.hid (HG.out.ext hM.ext)
      have HY := Lib.hid hy
      have HPS := Lib.hid (hP.step HSH.out hx)
      have HPL := Lib.hid (hP.len HSH.out)
      have HRR := Lib.hid (own_rd hIr)
      have HM2 := Lib.hid hM
      rw [hro, ← hR] at HPS
      rw [← hR] at QR HRR HXG h16
      have hi1000 : i ≤ 1000 := by omega
      obtain ⟨yb, hyb⟩ : ∃ yb, yb = y.2.1 := ⟨_, rfl⟩
      rw [← hyb] at QR
      have HYB := Lib.hid hyb
      clear hro hR hyb hIr hIb hI hy hx hcell hqa h1 h2 hP hM hn hfl hile
      go_wp2_with fail
      refine wp_region_mixK [0,1,2,3,4,5,6,7,8,9,10] Ext ExtR ExtT (by kernel_rfl) (by kernel_rfl) (by kernel_rfl) ?_
      refine mixk_load ⟨b + 1, 0, none⟩ _ rfl (by kernel_rfl) rfl rfl (fun w1 h1 => run_load_plain Tryz.underlying92 rfl (cell_ext Q5.out ((drewE _).trans h1))) ?_
      simp only [Act.put, List.setIfInBounds_toArray, List.set_cons_zero, List.set_cons_succ]
      refine mixk_load ⟨b + 2, 0, none⟩ _ rfl (by kernel_rfl) rfl rfl (fun w1 h1 => run_load_plain Tryz.underlying22 rfl (cell_ext Q8.out ((drewE _).trans h1))) ?_
      simp only [Act.put, List.setIfInBounds_toArray, List.set_cons_zero, List.set_cons_succ]
      iterate 2 (refine mixk_pure _ rfl (by kernel_rfl) rfl rfl (fun K hK => ?_); go_big_quiet_op; refine hK _ ?_; clear hK K)
      refine mixk_load ⟨ba, oa + i, none⟩ _ rfl (by kernel_rfl) rfl rfl (fun w1 h1 => run_load_plain Tryz.underlying9 rfl (cell_ext QA.out ((drewE _).trans h1))) ?_
      simp only [Act.put, List.setIfInBounds_toArray, List.set_cons_zero, List.set_cons_succ]
      refine mixk_val _ (.pointer (some ⟨yb, 0, none⟩)) rfl (by kernel_rfl) rfl (fun w1 h1 => by
        have hx := (HMG.out.ext ((drewE _).trans h1)).look x false
        rw [HY.out] at hx
        unfold ptrO at hx
        simp only [Bool.false_eq_true, if_false] at hx
        rw [← HYB.out] at hx
        simp [execOp, Act.eval, hx, Sem.run_bind, Result.andThen, Sem.run_pure]) ?_
      simp only [Act.put, List.setIfInBounds_toArray, List.set_cons_zero, List.set_cons_succ]
      refine mixk_val _ (.pointer (some ⟨yb, 0, none⟩)) rfl (by kernel_rfl) rfl (fun w1 _ => by kernel_rfl) ?_
      simp only [Act.put, List.setIfInBounds_toArray, List.set_cons_zero, List.set_cons_succ]
      iterate 1 (refine mixk_pure _ rfl (by kernel_rfl) rfl rfl (fun K hK => ?_); go_big_quiet_op; refine hK _ ?_; clear hK K)
      refine mixk_load ⟨yb, 1, none⟩ _ rfl (by kernel_rfl) rfl rfl (fun w1 h1 => run_load_plain Tryz.underlying22 rfl (cell_ext QR.out ((drewE _).trans h1))) ?_
      simp only [Act.put, List.setIfInBounds_toArray, List.set_cons_zero, List.set_cons_succ]
      iterate 2 (refine mixk_pure _ rfl (by kernel_rfl) rfl rfl (fun K hK => ?_); go_big_quiet_op; refine hK _ ?_; clear hK K)
      refine mixk_end (by kernel_rfl) (fun w3 he => ?_)
      have HM3 := Lib.hid (HM2.out.keeps ((drewE _).trans he))
      clear he HM2 Q5 Q8 QA QR HMG HY q8
      go_wp2_with fail
      go_loopw [11, 36] (fun wv jv wr2 => RhRel2 w0 s S G bg b M R wv jv wr2) (fun _ jv _ => R.length - (intOf jv).toNat)
      case atStart => exact ⟨rfl, 0, rfl, Nat.zero_le _, by rw [List.take_zero, List.append_nil]; exact HM3.out⟩
      case round =>
        obtain ⟨rfl, j, rfl, hj, hM'⟩ := hrel
        by_cases hlt2 : j < R.length
        · have b2 : (j : Int) < (R.length : Int) := by omega
          obtain ⟨z, hz⟩ : ∃ z, R[j]? = some z := ⟨_, List.getElem?_eq_getElem hlt2⟩
          obtain ⟨ax2, cx2, hh2, hcell2⟩ := HRR.out.slice
          obtain ⟨ba2, oa2, hao2, hqa2⟩ := hcell2 j z hz
          subst hao2
          cases hh2
          have q2 := cell_ext hqa2 hM'.ext
          have HZ := Lib.hid (HXG.out z (List.mem_of_getElem? hz))
          have HT := Lib.hid (show M ++ R.take (j + 1) = M ++ R.take j ++ [z] by rw [List.take_add_one, hz, ← List.append_assoc]; rfl)
          have HL := Lib.hid (show (M ++ R.take j).length ≤ 1000000 by have := HPL.out; rw [List.length_append, List.length_take]; omega)
          have HMJ := Lib.hid hM'
          clear hcell2 hqa2 hM' hz
          go_wp2_with fail
          refine (meet_c w0 s bm room S G bg b HS.out HG.out _ _ HMJ.out z HZ.out HL.out).mono ?_
          rintro e w9 ⟨rfl, hM9⟩
          rw [← HT.out] at hM9
          have HM9 := Lib.hid hM9
          clear hM9 HMJ q2
          go_wp2_with fail
          go_roundw
          case rel => exact ⟨rfl, j + 1, by go_num, by omega, HM9.out⟩
          case measure => simp [intOf]; omega
        · have hje : j = R.length := by omega
          subst hje
          rw [List.take_length] at hM'
          have HM9 := Lib.hid hM'
          clear hM'
          go_wp2_with fail
          go_roundw
          case rel => exact ⟨rfl, i + 1, M ++ R, by go_num, HPS.out, HM9.out⟩
          case measure => simp [intOf]; omega
    · have hie : i = (frK S M).length := by omega
      have HP := Lib.hid (show Path S G root M (frK S M).length by rw [← hie]; exact hP)
      have HRW := Lib.hid (show SRow w0 wr (.slice ad n cp) n (frK S M) from ⟨⟨_, _, rfl⟩, h2, hM.ext, fun z hz => by have := h4 z hz; have := hM.lo; omega⟩)
      have b1 : ¬ (i : Int) < (n : Int) := by omega
      clear hie hP hM h1 h2 h4 hn hfl hile
      go_wp2_with fail
      go_ret2
      exact ⟨.slice ad n cp, n, M, rfl, HP.out, HRW.out⟩
end
end Go.Proofs.YtjogjmffkmfmbaaGreatDoor
/- store: for Add: what is given is shut; items that are set; keys that are counted. -/
namespace Go.Proofs.YtjogjmffkmfmbaaGreatDoor
section
open Go Go.RowKit
set_option linter.unusedSimpArgs false
set_option linter.unusedVariables false
attribute [local go_sem] Oper.semAt_some
theorem readG_snoc (L : List ByteArray) (t : ByteArray) : readG (L ++ [t]) = addG (readG L) t := by unfold readG; rw [List.foldl_append]; rfl
theorem readG_all (L : List ByteArray) : (∀ p ∈ readG L, ∃ t ∈ L, p = (ky t, itOf t)) ∧ (∀ t ∈ L, ∃ p ∈ readG L, p.1 = ky t) ∧ (readG L).length ≤ L.length := by
  suffices h : ∀ (R acc : List ByteArray), ((∀ p ∈ readG acc, ∃ t ∈ acc, p = (ky t, itOf t)) ∧ (∀ t ∈ acc, ∃ p ∈ readG acc, p.1 = ky t) ∧ (readG acc).length ≤ acc.length) → (∀ p ∈ readG (acc ++ R), ∃ t ∈ acc ++ R, p = (ky t, itOf t)) ∧ (∀ t ∈ acc ++ R, ∃ p ∈ readG (acc ++ R), p.1 = ky t) ∧ (readG (acc ++ R)).length ≤ (acc ++ R).length from by
    have := h L [] ⟨fun p hp => (by cases hp), fun t ht => (by cases ht), Nat.le_refl _⟩
    simpa using this
  intro R
  induction R with
  | nil => intro acc h; simpa using h
  | cons t R ih =>
    intro acc ⟨h1, h2, h3⟩
    have := ih (acc ++ [t]) (by
      rw [readG_snoc]
      unfold addG
      split
      · rename_i hb
        obtain ⟨p, hp, e⟩ := List.any_eq_true.1 hb
        refine ⟨fun p hp => by obtain ⟨x, hx, e⟩ := h1 p hp; exact ⟨x, List.mem_append.2 (.inl hx), e⟩, fun x hx => ?_, by rw [List.length_append]; exact Nat.le_trans h3 (Nat.le_add_right _ _)⟩
        rcases List.mem_append.1 hx with hx | hx
        · exact h2 x hx
        · simp only [List.mem_singleton] at hx; subst hx; exact ⟨p, hp, (of_decide_eq_true e).symm⟩
      · refine ⟨fun p hp => ?_, fun x hx => ?_, by rw [List.length_append, List.length_append]; exact Nat.add_le_add_right h3 1⟩
        · rcases List.mem_append.1 hp with hp | hp
          · obtain ⟨x, hx, e⟩ := h1 p hp; exact ⟨x, List.mem_append.2 (.inl hx), e⟩
          · simp only [List.mem_singleton] at hp; subst hp; exact ⟨t, by simp, rfl⟩
        · rcases List.mem_append.1 hx with hx | hx
          · obtain ⟨p, hp, e⟩ := h2 x hx; exact ⟨p, List.mem_append.2 (.inl hp), e⟩
          · simp only [List.mem_singleton] at hx; subst hx; exact ⟨(ky x, itOf x), by simp, rfl⟩)
    simpa using this
/-- Texts of nodes that hold what they refer to. -/
structure ShutL (L : List ByteArray) : Prop where
  node : ∀ t ∈ L, ∃ n, IsNode t n
  shut : ∀ t ∈ L, ∀ h ∈ hashesT (nodeOf t), ∃ t' ∈ L, h = shaB t'
  few : L.length ≤ 1000
theorem given_has {L : List ByteArray} {G : List Nd5} (h : G.map kvI = readG L) {t : ByteArray} (ht : t ∈ L) : (atL G (shaB t).data.toList).isSome = true := by
  obtain ⟨p, hp, e⟩ := (readG_all L).2.1 t ht
  rw [← h] at hp
  obtain ⟨x, hx, rfl⟩ := List.mem_map.1 hp
  cases ha : atL G (shaB t).data.toList with
  | some y => rfl
  | none => exact absurd e.symm (atL_none.1 ha x hx)
theorem given_is {L : List ByteArray} {G : List Nd5} (h : G.map kvI = readG L) {x : Nd5} (hx : x ∈ G) : ∃ t ∈ L, x.1 = ky t ∧ x.2.2 = itOf t := by
  obtain ⟨t, ht, e⟩ := (readG_all L).1 (kvI x) (by rw [← h]; exact List.mem_map.2 ⟨x, hx, rfl⟩)
  exact ⟨t, ht, congrArg Prod.fst e, congrArg Prod.snd e⟩
theorem given_shut {L : List ByteArray} {G : List Nd5} (h : G.map kvI = readG L) (hL : ShutL L) : Shut G := by
  refine ⟨?_, fun y hy => ?_, fun y hy r hr => ?_⟩
  · have := (readG_all L).2.2
    rw [← h, List.length_map] at this
    exact Nat.le_trans this hL.few
  · obtain ⟨t, ht, _, e⟩ := given_is h hy
    rw [e]
    obtain ⟨n, hn⟩ := hL.node t ht
    exact hashesT_len (nodeOf_is hn)
  · obtain ⟨t, ht, _, e⟩ := given_is h hy
    rw [e] at hr
    obtain ⟨t', ht', rfl⟩ := hL.shut t ht r hr
    exact given_has h ht'
/-! A field of an item is set. -/
def putF (f : Nat) (v : Int) (it : It) : It := if f = 2 then { it with used := v } else { it with held := v }
def setB (f c : Nat) (v : Int) (x : Nd5) : Nd5 := if x.2.1 = c then (x.1, x.2.1, putF f v x.2.2) else x
theorem setB_kvN (f c : Nat) (v : Int) (L : List Nd5) : (L.map (setB f c v)).map kvN = L.map kvN := by
  rw [List.map_map]
  refine List.map_congr_left (fun x _ => ?_)
  simp only [Function.comp, setB]; split <;> rfl
theorem setB_blk (f c : Nat) (v : Int) (L : List Nd5) : (L.map (setB f c v)).map (·.2.1) = L.map (·.2.1) := by
  rw [List.map_map]
  refine List.map_congr_left (fun x _ => ?_)
  simp only [Function.comp, setB]; split <;> rfl
theorem MapAt.setF {W : World} {bm : Nat} {L : List Nd5} (h : MapAt W bm L) {c : Nat} {it : It} (hc : ItemAt W c it) {f : Nat} (hf : f = 2 ∨ f = 3) (v : Int) : MapAt (W.setCell ⟨c, f, none⟩ (.int .i64 v)) bm (L.map (setB f c v)) := by
  obtain ⟨rv, hcb, hcr⟩ := hc.cells
  have hK : Keeps (fun z => z = c) W (W.setCell ⟨c, f, none⟩ (.int .i64 v)) := Keeps.oneSet W ⟨c, f, none⟩ _
  have hN : NoRow W (fun z => z = c) := fun z cur fz e hz => by
    have e : z = c := e
    subst e
    have := hcb.uniq hz; injection this with _ h2; exact absurd h2 (by decide)
  obtain ⟨es, ck, h1, h2⟩ := h.mp
  have hne : bm ≠ c := fun e => by subst e; have := h1.uniq hcb; cases this
  refine ⟨⟨es, ck, h1.keeps hK hne, by rw [setB_kvN]; exact h2⟩, by rw [setB_blk]; exact h.blks, fun x hx => ?_⟩
  obtain ⟨y, hy, rfl⟩ := List.mem_map.1 hx
  have hi := h.items y hy
  unfold setB
  split
  · rename_i e
    obtain ⟨rw', hb, hr⟩ := hi.cells
    rw [e] at hb
    refine ⟨rw', ?_, ?_⟩
    · show Blk _ y.2.1 _
      rw [e]
      rcases hf with rfl | rfl
      · exact hb.set_same (i := 2) _
      · exact hb.set_same (i := 3) _
    · have := row_keeps hr hK hN
      rcases hf with rfl | rfl <;> exact this
  · rename_i e
    exact hi.keeps hK e hN
end
end Go.Proofs.YtjogjmffkmfmbaaGreatDoor
/- store: Add's second loop, plain: what is used counts one more. -/
namespace Go.Proofs.YtjogjmffkmfmbaaGreatDoor
section
open Go Go.RowKit
set_option linter.unusedSimpArgs false
set_option linter.unusedVariables false
attribute [local go_sem] Oper.semAt_some
def bumpU (k : Key) (L : List Nd5) : List Nd5 := L.map fun x => if x.1 = k then (x.1, x.2.1, putF 2 (x.2.2.used + 1) x.2.2) else x
def bumps (T : List ByteArray) (L : List Nd5) : List Nd5 := T.foldl (fun L r => bumpU r.data.toList L) L
theorem bumps_snoc (T : List ByteArray) (r : ByteArray) (L : List Nd5) : bumps (T ++ [r]) L = bumpU r.data.toList (bumps T L) := by unfold bumps; rw [List.foldl_append]; rfl
theorem bumpU_keys (k : Key) (L : List Nd5) : (bumpU k L).map (·.1) = L.map (·.1) := by
  unfold bumpU; rw [List.map_map]
  refine List.map_congr_left (fun x _ => ?_)
  simp only [Function.comp]; split <;> rfl
theorem bumpU_blks (k : Key) (L : List Nd5) : (bumpU k L).map (·.2.1) = L.map (·.2.1) := by
  unfold bumpU; rw [List.map_map]
  refine List.map_congr_left (fun x _ => ?_)
  simp only [Function.comp]; split <;> rfl
theorem bumps_keys : ∀ (T : List ByteArray) (L : List Nd5), (bumps T L).map (·.1) = L.map (·.1)
  | [], _ => rfl
  | r :: T, L => by
    show (bumps T (bumpU r.data.toList L)).map (·.1) = _
    rw [bumps_keys T, bumpU_keys]
theorem bumps_blks : ∀ (T : List ByteArray) (L : List Nd5), (bumps T L).map (·.2.1) = L.map (·.2.1)
  | [], _ => rfl
  | r :: T, L => by
    show (bumps T (bumpU r.data.toList L)).map (·.2.1) = _
    rw [bumps_blks T, bumpU_blks]
theorem atL_keys {A B : List Nd5} (h : A.map (·.1) = B.map (·.1)) (k : Key) : (atL A k).isSome = (atL B k).isSome := by
  have e : ∀ L : List Nd5, (atL L k).isSome = (L.map (·.1)).any (fun y => decide (k = y)) := fun L => by
    unfold atL; rw [List.isSome_find?, List.any_map]; rfl
  rw [e, e, h]
theorem bumps_used : ∀ (T : List ByteArray) (L : List Nd5) (lo hi : Int), (∀ x ∈ L, lo ≤ x.2.2.used ∧ x.2.2.used ≤ hi) → ∀ x ∈ bumps T L, lo ≤ x.2.2.used ∧ x.2.2.used ≤ hi + T.length
  | [], L, lo, hi, h => fun x hx => by have := h x hx; simp; exact this
  | r :: T, L, lo, hi, h => fun x hx => by
    have := bumps_used T (bumpU r.data.toList L) lo (hi + 1) (fun y hy => by
      obtain ⟨z, hz, rfl⟩ := List.mem_map.1 hy
      have := h z hz
      split
      · simp only [putF, if_true]; omega
      · omega) x hx
    rw [List.length_cons]; omega
def kvR (x : Nd5) : Nat × ByteArray × List ByteArray := (x.2.1, x.2.2.text, x.2.2.refs)
/-- The given map, whatever is used by now. -/
def Like (W : World) (bg : Nat) (G : List Nd5) : Prop := ∃ G', MapAt W bg G' ∧ ∀ k, (atL G' k).map kvR = (atL G k).map kvR
theorem atL_setB (f c : Nat) (v : Int) (L : List Nd5) (k : Key) : atL (L.map (setB f c v)) k = (atL L k).map (setB f c v) := by
  unfold atL
  rw [List.find?_map]
  congr 1
  refine congrFun (congrArg _ (funext fun x => ?_)) L
  simp only [Function.comp, setB]; split <;> rfl
theorem kvR_setB (f c : Nat) (v : Int) (x : Nd5) : kvR (setB f c v x) = kvR x := by
  unfold setB kvR putF
  by_cases e : x.2.1 = c
  · rw [if_pos e]
    by_cases e2 : f = 2
    · rw [if_pos e2]
    · rw [if_neg e2]
  · rw [if_neg e]
theorem Like.setF {W : World} {bg : Nat} {G : List Nd5} (h : Like W bg G) {c : Nat} {it : It} (hc : ItemAt W c it) {f : Nat} (hf : f = 2 ∨ f = 3) (v : Int) : Like (W.setCell ⟨c, f, none⟩ (.int .i64 v)) bg G := by
  obtain ⟨G', h1, h2⟩ := h
  refine ⟨_, h1.setF hc hf v, fun k => ?_⟩
  rw [atL_setB, Option.map_map, ← h2 k]
  congr 1
  funext x
  exact kvR_setB f c v x
theorem setB_bump {W : World} {bm : Nat} {L : List Nd5} (h : MapAt W bm L) {k : Key} {y : Nd5} (hy : atL L k = some y) : L.map (setB 2 y.2.1 (y.2.2.used + 1)) = bumpU k L := by
  obtain ⟨es, ck, _, h2⟩ := h.mp
  have hk := h2.keys
  rw [List.map_map] at hk
  have hk : (L.map (·.1)).Nodup := hk
  unfold bumpU
  refine List.map_congr_left (fun x hx => ?_)
  unfold setB
  by_cases e : x.2.1 = y.2.1
  · have : x = y := nodup_map_inj h.blks hx (atL_mem hy).1 e
    subst this
    rw [if_pos rfl, if_pos (atL_mem hy).2]
  · rw [if_neg e, if_neg]
    intro e2
    have : x = y := nodup_map_inj hk hx (atL_mem hy).1 (e2.trans (atL_mem hy).2.symm)
    subst this
    exact e rfl
structure Ad2 (w5 : World) (s bm bg : Nat) (room : Int) (S1 G : List Nd5) (F : List ByteArray) (v : Value) (T : List ByteArray) (W : World) : Prop where
  kp : Keeps (fun z => z ∈ S1.map (·.2.1)) w5 W
  st : StoreAt W s bm room (bumps T S1)
  gv : Like W bg G
  row : W.ownsRow 0 9 1 v F.length (F.map Value.string)
theorem Ad2.bump {w5 : World} {s bm bg : Nat} {room : Int} {S1 G : List Nd5} {F : List ByteArray} {v : Value} {T : List ByteArray} {W : World} (h : Ad2 w5 s bm bg room S1 G F v T W)
    (hu : ∀ x ∈ S1, 0 ≤ x.2.2.used ∧ x.2.2.used ≤ 1000000000) (hT : T.length ≤ 1000000) (r : ByteArray) (hr : (atL S1 r.data.toList).isSome = true) :
    ∃ (zb : Nat) (u : Int), (Instr.lookup 92 (.map (some bm)) (.string r) false).run Tryz.prog W = .ok (.pointer (some ⟨zb, 0, none⟩)) W ∧ W.cell? ⟨zb, 2, none⟩ = some (.int .i64 u) ∧ W.frozen? ⟨zb, 2, none⟩ = false ∧ 0 ≤ u ∧ u ≤ 2000000000 ∧
      Ad2 w5 s bm bg room S1 G F v (T ++ [r]) (W.setCell ⟨zb, 2, none⟩ (.int .i64 (u + 1))) ∧ ∀ rv n xs, W.ownsRow 0 9 1 rv n xs → (W.setCell ⟨zb, 2, none⟩ (.int .i64 (u + 1))).ownsRow 0 9 1 rv n xs := by
  have hs : (atL (bumps T S1) r.data.toList).isSome = true := by rw [atL_keys (bumps_keys T S1)]; exact hr
  obtain ⟨y, hy⟩ := Option.isSome_iff_exists.1 hs
  have hym := (atL_mem hy).1
  have hi := h.st.mp.items y hym
  obtain ⟨rv, hb, hrw⟩ := hi.cells
  have hlk := h.st.mp.look r false
  rw [hy] at hlk
  simp only [Bool.false_eq_true, if_false] at hlk
  have hK : Keeps (fun z => z = y.2.1) W (W.setCell ⟨y.2.1, 2, none⟩ (.int .i64 (y.2.2.used + 1))) := Keeps.oneSet W ⟨y.2.1, 2, none⟩ _
  have hN : NoRow W (fun z => z = y.2.1) := fun z cur fz e hz => by
    have e : z = y.2.1 := e
    subst e
    have := hb.uniq hz; injection this with _ h2; exact absurd h2 (by decide)
  have hyb : y.2.1 ∈ S1.map (·.2.1) := by rw [← bumps_blks T S1]; exact List.mem_map.2 ⟨y, hym, rfl⟩
  have hub := bumps_used T S1 0 1000000000 hu y hym
  refine ⟨y.2.1, y.2.2.used, hlk, hb.cell (i := 2) (by rfl), hb.frozen, hub.1, by omega, ⟨h.kp.trans (hK.mono (fun z _ e => by have e : z = _ := e; rw [e]; exact hyb)), ⟨h.st.st.keeps hK (fun e => ?_), ?_⟩, h.gv.setF hi (.inl rfl) _, row_keeps h.row hK hN⟩, fun rv n xs hx => row_keeps hx hK hN⟩
  · have e : s = y.2.1 := e
    rw [e] at h
    have := hb.uniq h.st.st; injection this with _ h2; exact absurd h2 (by decide)
  · rw [bumps_snoc, ← setB_bump h.st.mp hy]
    exact h.st.mp.setF hi (.inl rfl) _
def bumpH (k : Key) (L : List Nd5) : List Nd5 := L.map fun x => if x.1 = k then (x.1, x.2.1, putF 3 (x.2.2.held + 1) x.2.2) else x
theorem setB_bumpH {W : World} {bm : Nat} {L : List Nd5} (h : MapAt W bm L) {k : Key} {y : Nd5} (hy : atL L k = some y) : L.map (setB 3 y.2.1 (y.2.2.held + 1)) = bumpH k L := by
  obtain ⟨es, ck, _, h2⟩ := h.mp
  have hk := h2.keys
  rw [List.map_map] at hk
  have hk : (L.map (·.1)).Nodup := hk
  unfold bumpH
  refine List.map_congr_left (fun x hx => ?_)
  unfold setB
  by_cases e : x.2.1 = y.2.1
  · have : x = y := nodup_map_inj h.blks hx (atL_mem hy).1 e
    subst this
    rw [if_pos rfl, if_pos (atL_mem hy).2]
  · rw [if_neg e, if_neg]
    intro e2
    have : x = y := nodup_map_inj hk hx (atL_mem hy).1 (e2.trans (atL_mem hy).2.symm)
    subst this
    exact e rfl
theorem bumps_held : ∀ (T : List ByteArray) (L : List Nd5) (lo hi : Int), (∀ x ∈ L, lo ≤ x.2.2.held ∧ x.2.2.held ≤ hi) → ∀ x ∈ bumps T L, lo ≤ x.2.2.held ∧ x.2.2.held ≤ hi
  | [], L, lo, hi, h => fun x hx => h x hx
  | r :: T, L, lo, hi, h => fun x hx => by
    refine bumps_held T (bumpU r.data.toList L) lo hi (fun y hy => ?_) x hx
    obtain ⟨z, hz, rfl⟩ := List.mem_map.1 hy
    have := h z hz
    split
    · simp only [putF, if_true]; exact this
    · exact this
theorem Ad2.hold {w5 : World} {s bm bg : Nat} {room : Int} {S1 G : List Nd5} {F : List ByteArray} {v : Value} {T : List ByteArray} {W : World} (h : Ad2 w5 s bm bg room S1 G F v T W)
    (hu : ∀ x ∈ S1, 0 ≤ x.2.2.held ∧ x.2.2.held ≤ 1000000000) (r : ByteArray) (hr : (atL S1 r.data.toList).isSome = true) :
    ∃ (zb : Nat) (u : Int), (Instr.lookup 92 (.map (some bm)) (.string r) false).run Tryz.prog W = .ok (.pointer (some ⟨zb, 0, none⟩)) W ∧ W.cell? ⟨zb, 3, none⟩ = some (.int .i64 u) ∧ W.frozen? ⟨zb, 3, none⟩ = false ∧ 0 ≤ u ∧ u ≤ 1000000000 ∧
      StoreAt (W.setCell ⟨zb, 3, none⟩ (.int .i64 (u + 1))) s bm room (bumpH r.data.toList (bumps T S1)) ∧ Keeps (fun z => z ∈ S1.map (·.2.1)) w5 (W.setCell ⟨zb, 3, none⟩ (.int .i64 (u + 1))) := by
  have hs : (atL (bumps T S1) r.data.toList).isSome = true := by rw [atL_keys (bumps_keys T S1)]; exact hr
  obtain ⟨y, hy⟩ := Option.isSome_iff_exists.1 hs
  have hym := (atL_mem hy).1
  have hi := h.st.mp.items y hym
  obtain ⟨rv, hb, hrw⟩ := hi.cells
  have hlk := h.st.mp.look r false
  rw [hy] at hlk
  simp only [Bool.false_eq_true, if_false] at hlk
  have hK : Keeps (fun z => z = y.2.1) W (W.setCell ⟨y.2.1, 3, none⟩ (.int .i64 (y.2.2.held + 1))) := Keeps.oneSet W ⟨y.2.1, 3, none⟩ _
  have hyb : y.2.1 ∈ S1.map (·.2.1) := by rw [← bumps_blks T S1]; exact List.mem_map.2 ⟨y, hym, rfl⟩
  have hub := bumps_held T S1 0 1000000000 hu y hym
  refine ⟨y.2.1, y.2.2.held, hlk, hb.cell (i := 3) (by rfl), hb.frozen, hub.1, hub.2, ⟨h.st.st.keeps hK (fun e => ?_), ?_⟩, h.kp.trans (hK.mono (fun z _ e => by have e : z = _ := e; rw [e]; exact hyb))⟩
  · have e : s = y.2.1 := e
    rw [e] at h
    have := hb.uniq h.st.st; injection this with _ h2; exact absurd h2 (by decide)
  · rw [← setB_bumpH h.st.mp hy]
    exact h.st.mp.setF hi (.inr rfl) _
end
end Go.Proofs.YtjogjmffkmfmbaaGreatDoor
/- store: Add, as far as its first loop. -/
namespace Go.Proofs.YtjogjmffkmfmbaaGreatDoor
section
open Go Go.RowKit
set_option linter.unusedSimpArgs false
set_option linter.unusedVariables false
attribute [local go_sem] Oper.semAt_some
def picks (G : List Nd5) (F : List ByteArray) : List Nd5 := F.filterMap fun x => atL G x.data.toList
theorem picks_step {G : List Nd5} {F : List ByteArray} {i : Nat} {x : ByteArray} {y : Nd5} (hx : F[i]? = some x) (hy : atL G x.data.toList = some y) : picks G (F.take (i + 1)) = picks G (F.take i) ++ [y] := by
  unfold picks
  rw [List.take_add_one, hx, List.filterMap_append]
  simp [hy]
theorem picks_mem {G : List Nd5} {F : List ByteArray} {y : Nd5} (h : y ∈ picks G F) : y ∈ G ∧ ∃ x ∈ F, y.1 = x.data.toList := by
  obtain ⟨x, hx, e⟩ := List.mem_filterMap.1 h
  exact ⟨(atL_mem e).1, x, hx, (atL_mem e).2⟩
theorem atL_app {A B : List Nd5} {k : Key} (h : ∀ x ∈ B, k ≠ x.1) : atL (A ++ B) k = atL A k := by
  unfold atL
  rw [List.find?_append]
  have : B.find? (fun x => decide (k = x.1)) = none := by rw [List.find?_eq_none]; simpa using h
  rw [this]; simp
theorem MapAt.notRow {W : World} {bm : Nat} {L : List Nd5} (h : MapAt W bm L) : NoRow W (fun z => z = bm) := fun z cur fz e hz => by
  obtain ⟨es, ck, h1, _⟩ := h.mp
  have e : z = bm := e
  subst e
  have := h1.uniq hz; cases this
/-- The first loop of Add. -/
structure Ad1 (w4 : World) (s bm bg : Nat) (room : Int) (S G : List Nd5) (F : List ByteArray) (v : Value) (i : Nat) (W : World) : Prop where
  kp : Keeps (fun z => z = bm) w4 W
  st : StoreAt W s bm room (S ++ picks G (F.take i))
  gv : MapAt W bg G
  row : W.ownsRow 0 9 1 v F.length (F.map Value.string)
theorem Ad1.ext {w4 : World} {s bm bg : Nat} {room : Int} {S G : List Nd5} {F : List ByteArray} {v : Value} {i : Nat} {W W' : World} (h : Ad1 w4 s bm bg room S G F v i W) (e : Ext W W') : Ad1 w4 s bm bg room S G F v i W' :=
  ⟨h.kp.trans (e.mono (fun _ _ g => g.elim)), h.st.ext e, h.gv.ext e, own_ext h.row e⟩
/-- A fresh item is put. -/
theorem Ad1.put {w4 : World} {s bm bg : Nat} {room : Int} {S G : List Nd5} {F : List ByteArray} {v : Value} {i : Nat} {W : World} (h : Ad1 w4 s bm bg room S G F v i W)
    (hSG : ∀ x ∈ S, ∀ y ∈ G, x.2.1 ≠ y.2.1) (hbg : bg ≠ bm) (hv : ∀ z, v.ownBlock = some z → z ≠ bm) (hnd : F.Nodup) (hFS : ∀ x ∈ F, atL S x.data.toList = none)
    {x : ByteArray} {y : Nd5} (hx : F[i]? = some x) (hy : atL G x.data.toList = some y) :
    ∃ o, (Instr.mapUpdate 92 (.map (some bm)) (.string x) (.pointer (some ⟨y.2.1, 0, none⟩))).run Tryz.prog W = .ok () (W.putObj bm o) ∧ Ad1 w4 s bm bg room S G F v (i + 1) (W.putObj bm o) := by
  have hk : ∀ z ∈ picks G (F.take i), x.data.toList ≠ z.1 := fun z hz e => by
    obtain ⟨_, x', hx', e'⟩ := picks_mem hz
    have := ba_data (e.trans e')
    subst this
    exact nodup_take hnd hx hx'
  have hn : atL (S ++ picks G (F.take i)) x.data.toList = none := by rw [atL_app hk]; exact hFS x (List.mem_of_getElem? hx)
  have hym := (atL_mem hy).1
  have hy1 := (atL_mem hy).2
  have hblk : ∀ z ∈ S ++ picks G (F.take i), z.2.1 ≠ y.2.1 := fun z hz e => by
    rcases List.mem_append.1 hz with hz | hz
    · exact hSG z hz y hym e
    · have := nodup_map_inj h.gv.blks (picks_mem hz).1 hym e
      subst this
      exact hk z hz hy1.symm
  obtain ⟨o, hmu, hA⟩ := h.st.mp.put x hn (h.gv.items y hym) hblk
  have hK : Keeps (fun z => z = bm) W (W.putObj bm o) := Keeps.onePut W bm o
  have hN := h.st.mp.notRow
  have hie : ∀ {c : Nat} {it : It}, ItemAt W c it → ¬ c = bm := fun hi e => by
    obtain ⟨_, hc, _⟩ := hi.cells
    obtain ⟨es, ck, h1, _⟩ := h.st.mp.mp
    subst e
    have := h1.uniq hc; cases this
  refine ⟨o, hmu, h.kp.trans hK, ⟨h.st.st.keeps hK (fun e => ?_), ?_⟩, h.gv.keeps hK hbg (fun z hz => hie (h.gv.items z hz)) hN, own_keeps h.row hK (fun z hz e => hv z hz e)⟩
  · have e : s = bm := e
    obtain ⟨es, ck, h1, _⟩ := h.st.mp.mp
    subst e
    have := h1.uniq h.st.st; cases this
  · rw [picks_step hx hy, ← List.append_assoc]
    have e : (x.data.toList, y.2.1, y.2.2) = y := by rw [← hy1]
    rw [e] at hA
    exact hA
theorem atL_or (A B : List Nd5) (k : Key) : (atL (A ++ B) k).isSome = ((atL A k).isSome || (atL B k).isSome) := by
  unfold atL
  rw [List.find?_append, Option.isSome_or]
theorem s1_has {S G : List Nd5} {root : ByteArray} {M : List ByteArray} {i : Nat} (h : Path S G root M i) {r : ByteArray} (hr : r ∈ M) : (atL (S ++ picks G (frK S M)) r.data.toList).isSome = true := by
  rw [atL_or]
  cases hs : atL S r.data.toList with
  | some y => rfl
  | none =>
    obtain ⟨y, hy⟩ := Option.isSome_iff_exists.1 (h.inG r hr)
    have hm : y ∈ picks G (frK S M) := List.mem_filterMap.2 ⟨r, frK_mem.2 ⟨hr, hs⟩, hy⟩
    cases hp : atL (picks G (frK S M)) r.data.toList with
    | some z => rfl
    | none => exact absurd (atL_mem hy).2.symm (atL_none.1 hp y hm)
def AdR2 (w5 : World) (s bm bg : Nat) (room : Int) (S1 G : List Nd5) (F : List ByteArray) (v iv : Value) (W : World) : Prop := ∃ i : Nat, i ≤ F.length ∧ iv = .int .i64 i ∧ Ad2 w5 s bm bg room S1 G F v ((F.take i).flatMap (refsO G)) W
def AdR3 (w5 : World) (s bm bg : Nat) (room : Int) (S1 G : List Nd5) (F : List ByteArray) (v : Value) (T R : List ByteArray) (rv jv : Value) (W : World) : Prop := ∃ j : Nat, j ≤ R.length ∧ jv = .int .i64 j ∧ Ad2 w5 s bm bg room S1 G F v (T ++ R.take j) W ∧ W.ownsRow 0 9 1 rv R.length (R.map Value.string)
def AdR1 (w4 : World) (s bm bg : Nat) (room : Int) (S G : List Nd5) (F : List ByteArray) (v iv : Value) (W : World) : Prop := ∃ i : Nat, i ≤ F.length ∧ iv = .int .i64 i ∧ Ad1 w4 s bm bg room S G F v i W
def AddPost (w : World) (s bm : Nat) (room : Int) (S : List Nd5) (L : List ByteArray) (top : ByteArray) (e : Ending) (w' : World) : Prop :=
  ∃ (G : List Nd5) (M : List ByteArray), G.map kvI = readG L ∧ (∀ y ∈ G, w.heap.size ≤ y.2.1) ∧ Path S G (shaB top) M (frK S M).length ∧
    ((room - S.length < (frK S M).length ∧ e = .returned (.tuple #[.string ⟨#[]⟩, .int .i64 3]) ∧ Ext w w') ∨
     (¬ room - S.length < (frK S M).length ∧ e = .returned (.tuple #[.string (shaB top), .int .i64 0]) ∧
      StoreAt w' s bm room (bumpH (shaB top).data.toList (bumps ((frK S M).flatMap (refsO G)) (S ++ picks G (frK S M)))) ∧ Keeps (fun z => z = bm ∨ z ∈ S.map (·.2.1)) w w'))
set_option maxRecDepth 100000 in
set_option maxHeartbeats 8000000 in
theorem add_c (w : World) (hc : Cubes w) (s bm : Nat) (room : Int) (S : List Nd5) (h : StoreAt w s bm room S) (v : Value) (L : List ByteArray) (hv : RdS w v L) (hL : ShutL L) (top : ByteArray) (htop : L[0]? = some top) (hr0 : 0 ≤ room) (hr1 : room ≤ 9223372036854775807) (hS : S.length ≤ 100000) (hSu : ∀ x ∈ S, 0 ≤ x.2.2.used ∧ x.2.2.used ≤ 1000000000) (hSh : ∀ x ∈ S, 0 ≤ x.2.2.held ∧ x.2.2.held ≤ 1000000000) :
    Calls Tryz.prog 13 #[.pointer (some ⟨s, 0, none⟩), v] w (AddPost w s bm room S L top) := by
  have h0 : L ≠ [] := fun e => by subst e; cases htop
  have hpos : 0 < L.length := List.length_pos_iff.2 h0
  obtain ⟨a, c, rfl, _⟩ := hv.slice
  have HR := Lib.hid (sread_c w hc _ L hv hL.few h0 hL.node)
  have HC := Lib.hid hc
  have HV := Lib.hid hv
  have HL := Lib.hid hL
  have HS := Lib.hid h
  have HTOP := Lib.hid htop
  have HSU := Lib.hid hSu
  have HSHD := Lib.hid hSh
  clear hc h hv hL htop h0 hSu hSh
  go_enter Tryz.func13, Tryz.ntmps13
  go_wp2_with fail
  refine HR.out.mono ?_
  rintro e w1 ⟨bg, G, rfl, hG⟩
  obtain ⟨ax, cx, hh, hcell⟩ := HV.out.slice
  obtain ⟨ba, oa, hao, hqa⟩ := hcell 0 top HTOP.out
  subst hao
  cases hh
  have q1 := cell_ext hqa hG.ext
  have HG := Lib.hid hG
  rw [Nat.add_zero] at q1
  clear hcell hqa hG HR
  go_wp2_with fail
  refine (of_t _ _ [top] (by simp) (rds_lit w1 [top] 9) (HC.out.ext (HG.out.ext.alloc _))).mono ?_
  rintro e w2 ⟨rfl, hE⟩
  rw [catB_one]
  have hx2 := ((ExtR w1).alloc (.cells #[.string top] 9)).trans hE
  have HG2 := Lib.hid (HG.out.keeps hx2)
  obtain ⟨rt, hrt⟩ : ∃ rt, rt = shaB top := ⟨_, rfl⟩
  have HRT := Lib.hid hrt
  have HTG := Lib.hid (show (atL G rt.data.toList).isSome = true by rw [hrt]; exact given_has HG.out.is (List.mem_of_getElem? HTOP.out))
  rw [← hrt]
  clear hE hx2 hrt q1
  go_wp2_with fail
  have HSH := Lib.hid (given_shut HG2.out.is HL.out)
  have HS2 := Lib.hid (HS.out.ext HG2.out.ext)
  refine (reached_c w2 s bm room S G bg HS2.out HG2.out.at' HSH.out rt HTG.out).mono ?_
  rintro e w3 ⟨v3, n, M, rfl, hP, hF⟩
  have hlen := frK_len (S := S) hP.inG
  have hfew := HSH.out.few
  have hn : (frK S M).length = n := by have := hF.len; simpa using this
  obtain ⟨ad, cp, rfl⟩ := hF.sl
  have HP := Lib.hid hP
  have HF := Lib.hid hF
  obtain ⟨F, hFe⟩ : ∃ F, F = frK S M := ⟨_, rfl⟩
  rw [← hFe] at HF hn hlen
  have HFE := Lib.hid hFe
  have HGX := Lib.hid (HG2.out.keeps hF.ext)
  have HSX := Lib.hid (HS2.out.ext hF.ext)
  clear hP hF hFe
  go_wp2_with fail
  refine (sroom_c w3 s bm room S HSX.out hr0 hr1 (by omega)).mono ?_
  rintro e w4 ⟨rfl, hE⟩
  obtain ⟨m, hm⟩ : ∃ m, m = room - (S.length : Int) := ⟨_, rfl⟩
  rw [← hm]
  have HM := Lib.hid hm
  have HE4 := Lib.hid hE
  clear hE hm
  by_cases hfull : m < (n : Int)
  · go_wp2_with fail
    go_ret2
    refine ⟨G, M, HG2.out.is, HG2.out.news, by rw [← HRT.out]; exact HP.out, .inl ⟨by rw [← HFE.out, hn, ← HM.out]; exact hfull, rfl, (HG2.out.ext.trans HF.out.ext).trans HE4.out⟩⟩
  · have hA0 : Ad1 w4 s bm bg room S G F (.slice ad n cp) 0 w4 := ⟨Keeps.refl _ _, by rw [List.take_zero]; show StoreAt w4 s bm room (S ++ []); rw [List.append_nil]; exact HSX.out.ext HE4.out, HGX.out.at'.ext HE4.out, by rw [hn]; exact own_ext HF.out.own HE4.out⟩
    have HA0 := Lib.hid hA0
    have hbm := HS.out.mp.mp
    obtain ⟨_, _, hbm, _⟩ := hbm
    have hbmlt := hbm.lt
    have HNE := Lib.hid (show ∀ z, (Value.slice ad n cp).ownBlock = some z → z ≠ bm from fun z hz e => by have := HF.out.new z hz; have := HG2.out.ext.size; omega)
    have HBG := Lib.hid (show bg ≠ bm from fun e => by have := HG2.out.new; omega)
    have HSG := Lib.hid (show ∀ x ∈ S, ∀ y ∈ G, x.2.1 ≠ y.2.1 from fun x hx y hy e => by have := (HS.out.mp.items x hx).lt; have := HG2.out.news y hy; omega)
    have HND := Lib.hid (show F.Nodup by rw [HFE.out]; exact frK_nodup S M)
    have HFS := Lib.hid (show ∀ x ∈ F, atL S x.data.toList = none from fun x hx => by rw [HFE.out] at hx; exact (frK_mem.1 hx).2)
    have HFG := Lib.hid (show ∀ x ∈ F, (atL G x.data.toList).isSome = true from fun x hx => by rw [HFE.out] at hx; exact HP.out.inG x (frK_mem.1 hx).1)
    have HST := Lib.hid (HS.out.st)
    subst hn
    clear hA0 hbm
    go_wp2_with fail
    rw [show decide (m < (F.length : Int)) = false from decide_eq_false (Int.not_lt.2 hfull)]
    go_loopw [46] (fun iv wr => AdR1 w4 s bm bg room S G F (.slice ad F.length cp) iv wr) (fun iv _ => F.length - (intOf iv).toNat)
    case atStart => exact ⟨0, Nat.zero_le _, rfl, HA0.out⟩
    case round =>
      obtain ⟨i, hi, rfl, hA⟩ := hrel
      have HA := Lib.hid hA
      by_cases hlt : i < F.length
      · have b1 : (i : Int) < (F.length : Int) := by omega
        obtain ⟨x, hx⟩ : ∃ x, F[i]? = some x := ⟨_, List.getElem?_eq_getElem hlt⟩
        obtain ⟨ax, cx, hh, hcell⟩ := (own_rd hA.row).slice
        obtain ⟨ba2, oa2, hao, hqa⟩ := hcell i x hx
        subst hao
        cases hh
        obtain ⟨y, hy⟩ := Option.isSome_iff_exists.1 (HFG.out x (List.mem_of_getElem? hx))
        have Q1 := Lib.hid (hA.st.st.cell (i := 1) (v := .map (some bm)) (by rfl))
        have HGV := Lib.hid hA.gv
        have HX := Lib.hid hx
        have HY := Lib.hid hy
        obtain ⟨yb, hyb⟩ : ∃ yb, yb = y.2.1 := ⟨_, rfl⟩
        have HYB := Lib.hid hyb
        clear hcell hx hy hA hyb
        go_wp2_with fail
        refine wp_region_mix [0,1,2,3,4,5,6,7,8] [8] Ext ExtR ExtT (by kernel_rfl) (by kernel_rfl) (by kernel_rfl) ?_
        iterate 1 (refine mix_pure _ rfl (by kernel_rfl) rfl rfl (fun K hK => ?_); go_big_quiet_op; refine hK _ ?_; clear hK K)
        refine mix_any _ (.pointer (some ⟨s, 0, none⟩)) rfl (by kernel_rfl) rfl (fun w1 => by kernel_rfl) ?_
        simp only [Act.put, List.setIfInBounds_toArray, List.set_cons_zero, List.set_cons_succ]
        iterate 1 (refine mix_pure _ rfl (by kernel_rfl) rfl rfl (fun K hK => ?_); go_big_quiet_op; refine hK _ ?_; clear hK K)
        refine mix_load ⟨s, 1, none⟩ _ rfl (by kernel_rfl) rfl rfl (fun w1 h1 => run_load_plain Tryz.underlying92 rfl (cell_ext Q1.out ((drewE _).trans h1))) ?_
        simp only [Act.put, List.setIfInBounds_toArray, List.set_cons_zero, List.set_cons_succ]
        iterate 3 (refine mix_pure _ rfl (by kernel_rfl) rfl rfl (fun K hK => ?_); go_big_quiet_op; refine hK _ ?_; clear hK K)
        refine mix_val _ (.pointer (some ⟨yb, 0, none⟩)) rfl (by kernel_rfl) rfl (fun w1 h1 => by
          have hx := (HGV.out.ext ((drewE _).trans h1)).look x false
          rw [HY.out] at hx
          unfold ptrO at hx
          simp only [Bool.false_eq_true, if_false] at hx
          rw [← HYB.out] at hx
          simp [execOp, Act.eval, hx, Sem.run_bind, Result.andThen, Sem.run_pure]) ?_
        simp only [Act.put, List.setIfInBounds_toArray, List.set_cons_zero, List.set_cons_succ]
        refine mix_hard _ rfl (by kernel_rfl) rfl (fun w5 he K hK => ?_)
        have hA5 := HA.out.ext ((drewE _).trans he)
        obtain ⟨ob, hmu, hA6⟩ := hA5.put HSG.out HBG.out HNE.out HND.out HFS.out HX.out HY.out
        rw [← HYB.out] at hmu
        have HA6 := Lib.hid hA6
        clear hA5 hA6 he HA Q1 HGV hqa
        go_simp
        refine hK _ _ ?_
        clear hK K
        refine mix_end (by kernel_rfl) (fun w7 he => ?_)
        have HA7 := Lib.hid (HA6.out.ext he)
        clear he HA6 hmu
        go_wp2_with fail
        go_roundw
        case rel => exact ⟨i + 1, by omega, by go_num, HA7.out⟩
        case measure => simp [intOf]; omega
      · have hie : i = F.length := by omega
        subst hie
        obtain ⟨S1, hS1⟩ : ∃ S1, S1 = S ++ picks G F := ⟨_, rfl⟩
        have HS1 := Lib.hid hS1
        have HB0 := Lib.hid (show Ad2 wr s bm bg room S1 G F (.slice ad F.length cp) [] wr from ⟨Keeps.refl _ _, by have := hA.st; rw [List.take_length] at this; rw [hS1]; exact this, ⟨G, hA.gv, fun k => rfl⟩, hA.row⟩)
        have HU := Lib.hid (show ∀ x ∈ S1, 0 ≤ x.2.2.used ∧ x.2.2.used ≤ 1000000000 from fun x hx => by
          rw [hS1] at hx
          rcases List.mem_append.1 hx with hx | hx
          · exact HSU.out x hx
          · obtain ⟨t, ht, _, e⟩ := given_is HG2.out.is (picks_mem hx).1
            rw [e]; exact ⟨Int.le_refl _, by show (0 : Int) ≤ 1000000000; decide⟩)
        have HR1 := Lib.hid (show ∀ r ∈ F.flatMap (refsO G), (atL S1 r.data.toList).isSome = true from fun r hr => by
          rw [hS1, HFE.out]
          refine s1_has HP.out ?_
          have := HP.out.is
          rw [List.take_length, ← HFE.out] at this
          rw [this]; exact List.mem_cons_of_mem _ hr)
        obtain ⟨w5, hw5⟩ : ∃ w5, w5 = wr := ⟨_, rfl⟩
        rw [← hw5] at HB0
        have HB0 := Lib.hid (show Ad2 w5 s bm bg room S1 G F (.slice ad F.length cp) [] wr by rw [← hw5]; exact HB0.out)
        have HA1 := Lib.hid (show Keeps (fun z => z = bm) w4 w5 by rw [hw5]; exact hA.kp)
        clear HA0 hA HA hS1 hw5
        go_wp2_with fail
        go_loopw [61] (fun iv wr => AdR2 w5 s bm bg room S1 G F (.slice ad F.length cp) iv wr) (fun iv _ => F.length - (intOf iv).toNat)
        case atStart => exact ⟨0, Nat.zero_le _, rfl, HB0.out⟩
        case round =>
          obtain ⟨i, hi2, rfl, hA⟩ := hrel
          by_cases hlt2 : i < F.length
          · have b1 : (i : Int) < (F.length : Int) := by omega
            obtain ⟨x, hx⟩ : ∃ x, F[i]? = some x := ⟨_, List.getElem?_eq_getElem hlt2⟩
            obtain ⟨ax, cx, hh, hcell⟩ := (own_rd hA.row).slice
            obtain ⟨ba2, oa2, hao, hqa⟩ := hcell i x hx
            subst hao
            cases hh
            obtain ⟨y, hy⟩ := Option.isSome_iff_exists.1 (HFG.out x (List.mem_of_getElem? hx))
            obtain ⟨G', hG1, hG2⟩ := hA.gv
            have hk := hG2 x.data.toList
            rw [hy] at hk
            obtain ⟨y', hy', hk⟩ := Option.map_eq_some_iff.1 hk
            have hlk := hG1.look x false
            rw [hy'] at hlk
            unfold ptrO at hlk
            simp only [Bool.false_eq_true, if_false] at hlk
            obtain ⟨rv, hIb, hIr⟩ := (hG1.items y' (atL_mem hy').1).cells
            have hyr : y'.2.2.refs = refsO G x := by rw [refsO_some hy]; exact congrArg (fun z => z.2.2) hk
            obtain ⟨R, hR⟩ : ∃ R, R = refsO G x := ⟨_, rfl⟩
            rw [hyr, ← hR] at hIr
            obtain ⟨ar, cr, rfl⟩ := row_slice hIr
            have qr := hIb.cell (i := 1) (v := .slice ar R.length cr) (by rfl)
            obtain ⟨T, hT⟩ : ∃ T, T = (F.take i).flatMap (refsO G) := ⟨_, rfl⟩
            have HT1 := Lib.hid (show (F.take (i + 1)).flatMap (refsO G) = T ++ R by rw [List.take_add_one, hx, List.flatMap_append, hT, hR]; simp)
            have HTL := Lib.hid (show T.length ≤ 16000 by
              have := flatG_len HSH.out (F.take i)
              rw [hT]; rw [List.length_take] at this; omega)
            have HRL := Lib.hid (show R.length ≤ 16 by rw [hR, refsO_some hy]; exact HSH.out.refs y (atL_mem hy).1)
            have HRR := Lib.hid (show ∀ r ∈ R, (atL S1 r.data.toList).isSome = true from fun r hr => HR1.out r (List.mem_flatMap.2 ⟨x, List.mem_of_getElem? hx, by rw [← hR]; exact hr⟩))
            rw [← hT] at hA
            have HA3 := Lib.hid (show AdR3 w5 s bm bg room S1 G F (.slice (some ⟨ba2, oa2, none⟩) F.length cp) T R (.slice ar R.length cr) (.int .i64 0) wr from ⟨0, Nat.zero_le _, rfl, by rw [List.take_zero, List.append_nil]; exact hA, hIr⟩)
            obtain ⟨yb, hyb⟩ : ∃ yb, yb = y'.2.1 := ⟨_, rfl⟩
            rw [← hyb] at hlk qr
            clear hcell hx hy hG1 hG2 hk hy' hIb hIr hyr hR hT hA hyb
            go_wp2_with fail
            go_loopw [72] (fun jv wr2 => AdR3 w5 s bm bg room S1 G F (.slice (some ⟨ba2, oa2, none⟩) F.length cp) T R (.slice ar R.length cr) jv wr2) (fun jv _ => R.length - (intOf jv).toNat)
            case atStart => exact HA3.out
            case round =>
              obtain ⟨j, hj, rfl, hB, hrw⟩ := hrel
              by_cases hlt3 : j < R.length
              · have b2 : (j : Int) < (R.length : Int) := by omega
                obtain ⟨z, hz⟩ : ∃ z, R[j]? = some z := ⟨_, List.getElem?_eq_getElem hlt3⟩
                obtain ⟨ax3, cx3, hh3, hcell3⟩ := (own_rd hrw).slice
                obtain ⟨ba3, oa3, hao3, hqa3⟩ := hcell3 j z hz
                subst hao3
                cases hh3
                have qs := hB.st.st.cell (i := 1) (v := .map (some bm)) (by rfl)
                obtain ⟨zb, u, hlk3, qu, fu, hu0, hu1, hB2, hrow2⟩ := hB.bump HU.out (by have := HTL.out; have := HRL.out; rw [List.length_append, List.length_take]; omega) z (HRR.out z (List.mem_of_getElem? hz))
                have hrl := HRL.out
                have hw1 : -9223372036854775808 ≤ u + 1 := by omega
                have hw2 : u + 1 ≤ 9223372036854775807 := by omega
                have HB2 := Lib.hid (And.intro (show Ad2 w5 s bm bg room S1 G F (.slice (some ⟨ba2, oa2, none⟩) F.length cp) (T ++ R.take (j + 1)) _ by rw [List.take_add_one, hz, ← List.append_assoc]; exact hB2) (hrow2 _ _ _ hrw))
                clear hcell3 hz hB hrw hB2 hrow2 hlk qr
                go_wp2_with fail
                go_roundw
                case rel => exact ⟨j + 1, by omega, by go_num, HB2.out.1, HB2.out.2⟩
                case measure => simp [intOf]; omega
              · have hje : j = R.length := by omega
                subst hje
                rw [List.take_length, ← HT1.out] at hB
                have HB4 := Lib.hid hB
                clear hB hrw HA3 hlk qr
                go_wp2_with fail
                go_roundw
                case rel => exact ⟨i + 1, by omega, by go_num, HB4.out⟩
                case measure => simp [intOf]; omega
          · have hie2 : i = F.length := by omega
            subst hie2
            rw [List.take_length] at hA
            have HB5 := Lib.hid hA
            have hroot : (atL S1 rt.data.toList).isSome = true := by
              rw [HS1.out, HFE.out]
              exact s1_has HP.out (by rw [HP.out.is]; exact List.mem_cons_self)
            have HHD := Lib.hid (show ∀ x ∈ S1, 0 ≤ x.2.2.held ∧ x.2.2.held ≤ 1000000000 from fun x hx => by
              rw [HS1.out] at hx
              rcases List.mem_append.1 hx with hx | hx
              · exact HSHD.out x hx
              · obtain ⟨t, ht, _, e⟩ := given_is HG2.out.is (picks_mem hx).1
                rw [e]; exact ⟨Int.le_refl _, by show (0 : Int) ≤ 1000000000; decide⟩)
            have qs := hA.st.st.cell (i := 1) (v := .map (some bm)) (by rfl)
            obtain ⟨zb, u, hlk3, qu, fu, hu0, hu1, hSE, hKE⟩ := hA.hold HHD.out rt hroot
            have hw1 : -9223372036854775808 ≤ u + 1 := by omega
            have hw2 : u + 1 ≤ 9223372036854775807 := by omega
            have HSE := Lib.hid hSE
            have HKE := Lib.hid (((HG2.out.ext.trans HF.out.ext).trans HE4.out).mono (G := fun z => z = bm ∨ z ∈ S.map (·.2.1)) (fun _ _ g => g.elim))
            have HK5 := Lib.hid hKE
            have HKA := Lib.hid HA1.out
            clear hA HB0 HA1 hSE hKE hroot
            go_wp2_with fail
            go_ret2
            refine ⟨G, M, HG2.out.is, HG2.out.news, by rw [← HRT.out]; exact HP.out, .inr ⟨by rw [← HFE.out, ← HM.out]; exact Int.not_lt.2 hfull, by rw [HRT.out]; rfl, ?_, ?_⟩⟩
            · rw [← HFE.out, ← HS1.out, ← HRT.out]; exact HSE.out
            · refine (Keeps.trans' (F := fun z => z = bm ∨ z ∈ S.map (·.2.1)) HKE.out HKA.out (fun z hz e => .inl e)).trans' HK5.out (fun z hz e => ?_)
              rw [HS1.out, List.map_append] at e
              rcases List.mem_append.1 e with e | e
              · exact .inr e
              · obtain ⟨y, hy, rfl⟩ := List.mem_map.1 e
                have := HG2.out.news y (picks_mem hy).1
                omega
end
end Go.Proofs.YtjogjmffkmfmbaaGreatDoor
/- store: Add of nothing. -/
namespace Go.Proofs.YtjogjmffkmfmbaaGreatDoor
section
open Go Go.RowKit
set_option linter.unusedSimpArgs false
set_option linter.unusedVariables false
attribute [local go_sem] Oper.semAt_some
set_option maxRecDepth 100000 in
set_option maxHeartbeats 4000000 in
theorem sread_nil (w : World) (a : Option Addr) (c : Nat) : Calls Tryz.prog 50 #[.slice a 0 c] w fun e w' => e = .returned (.tuple #[.map none, .int .i64 2]) ∧ Ext w w' := by
  go_enter Tryz.func50, Tryz.ntmps50
  go_wp2_with fail
  go_ret2
  exact ⟨rfl, ExtR w⟩
set_option maxRecDepth 100000 in
set_option maxHeartbeats 4000000 in
theorem add_nil (w : World) (p : Value) (a : Option Addr) (c : Nat) : Calls Tryz.prog 13 #[p, .slice a 0 c] w fun e w' => e = .returned (.tuple #[.string ⟨#[]⟩, .int .i64 2]) ∧ Ext w w' := by
  go_enter Tryz.func13, Tryz.ntmps13
  go_wp2_with fail
  refine (sread_nil w a c).mono ?_
  rintro e w1 ⟨rfl, hE⟩
  have HE := Lib.hid hE
  clear hE
  go_wp2_with fail
  go_ret2
  exact ⟨rfl, HE.out⟩
end
end Go.Proofs.YtjogjmffkmfmbaaGreatDoor
/- nibble: Get of any text. -/
namespace Go.Proofs.YtjogjmffkmfmbaaGreatDoor
section
open Go Go.RowKit
set_option linter.unusedSimpArgs false
set_option linter.unusedVariables false
theorem path_len (s : ByteArray) : (pathB s).size = 2 * s.size := by
  have : ∀ l : List UInt8, (pathL l).length = 2 * l.length := by
    intro l
    induction l with
    | nil => rfl
    | cons x r ih => unfold pathL at ih ⊢; rw [List.flatMap_cons, List.length_append, ih]; simp; omega
  exact this s.data.toList
theorem path_nib (s : ByteArray) : validN (pathB s) = true := path_valid s
/-- What Get answers. -/
def ngetN (s : ByteArray) : ByteArray × Bool × Bool :=
  if s.size = 0 then (⟨#[]⟩, false, false)
  else if 3 < ((pathB s).data.toList.getD 0 0).toNat then (⟨#[]⟩, false, false)
  else if ((pathB s).data.toList.getD 0 0).toNat = 3 ∨ ((pathB s).data.toList.getD 0 0).toNat = 1 then ((pathB s).extract 1 (pathB s).size, decide (((pathB s).data.toList.getD 0 0).toNat = 3), true)
  else if ((pathB s).data.toList.getD 1 0).toNat = 0 then ((pathB s).extract 2 (pathB s).size, decide (((pathB s).data.toList.getD 0 0).toNat = 2), true)
  else (⟨#[]⟩, false, false)
theorem ngetN_ok (s : ByteArray) : validN (ngetN s).1 = true ∧ (ngetN s).1.size ≤ 2 * s.size := by
  have hv := path_nib s
  have hl := path_len s
  have h0 : validN (⟨#[]⟩ : ByteArray) = true ∧ (⟨#[]⟩ : ByteArray).size ≤ 2 * s.size := ⟨by decide, Nat.zero_le _⟩
  unfold ngetN
  split
  · exact h0
  · split
    · exact h0
    · split
      · exact ⟨valid_ext hv _ _, by show (ByteArray.extract _ _ _).size ≤ _; rw [ByteArray.size_extract]; omega⟩
      · split
        · exact ⟨valid_ext hv _ _, by show (ByteArray.extract _ _ _).size ≤ _; rw [ByteArray.size_extract]; omega⟩
        · exact h0
def NGetP (w : World) (s : ByteArray) (e : Ending) (w' : World) : Prop := e = .returned (.tuple #[.string (ngetN s).1, .bool (ngetN s).2.1, .bool (ngetN s).2.2]) ∧ Ext w w'
def NGetNo (w : World) (e : Ending) (w' : World) : Prop := e = .returned (.tuple #[.string ⟨#[]⟩, .bool false, .bool false]) ∧ Ext w w'
set_option maxRecDepth 100000 in
set_option maxHeartbeats 1000000 in
theorem get_pnil (w : World) (s : ByteArray) (hs : s.size ≤ 1000000) (hx : pathB s = ⟨#[]⟩) : Calls Tryz.prog 183 #[.string s] w (NGetNo w) := by
  go_enter Tryz.func183, Tryz.ntmps183
  go_wp2_with fail
  refine (path_c w s hs).mono ?_
  rintro e w1 ⟨rfl, hE⟩
  rw [hx]
  have HE := Lib.hid hE
  clear hE hx hs
  go_wp2_with fail
  exact bodyPost_ret (v := .tuple #[.string ⟨#[]⟩, .bool false, .bool false]) (by kernel_rfl) rfl ⟨rfl, HE.out⟩
set_option maxRecDepth 100000 in
set_option maxHeartbeats 1000000 in
theorem get_pbig (w : World) (s : ByteArray) (hs : s.size ≤ 1000000) (x : ByteArray) (hx : pathB s = x) (h2 : 2 ≤ x.size) (h0 : 3 < x[0].toNat) : Calls Tryz.prog 183 #[.string s] w (NGetNo w) := by
  go_enter Tryz.func183, Tryz.ntmps183
  go_wp2_with fail
  refine (path_c w s hs).mono ?_
  rintro e w1 ⟨rfl, hE⟩
  rw [hx]
  have HE := Lib.hid hE
  clear hE hx hs
  have hne := ne_empty (s := x) (by omega)
  have c0 : (0 : Int) < (x.size : Int) := by omega
  have d3 : ((x[0].toNat : Int) == 3) = false := by simp; omega
  have d2 : ((x[0].toNat : Int) == 2) = false := by simp; omega
  have d1 : ((x[0].toNat : Int) == 1) = false := by simp; omega
  have d0 : ((x[0].toNat : Int) == 0) = false := by simp; omega
  clear h0
  go_wp2_with fail
  exact bodyPost_ret (v := .tuple #[.string ⟨#[]⟩, .bool false, .bool false]) (by kernel_rfl) rfl ⟨rfl, HE.out⟩
set_option maxRecDepth 100000 in
set_option maxHeartbeats 1000000 in
theorem get_pfill (w : World) (s : ByteArray) (hs : s.size ≤ 1000000) (leaf : Bool) (x : ByteArray) (hx : pathB s = x) (h2 : 2 ≤ x.size) (h0 : x[0].toNat = if leaf then 2 else 0) (h1 : x[1].toNat ≠ 0) :
    Calls Tryz.prog 183 #[.string s] w (NGetNo w) := by
  go_enter Tryz.func183, Tryz.ntmps183
  go_wp2_with fail
  refine (path_c w s hs).mono ?_
  rintro e w1 ⟨rfl, hE⟩
  rw [hx]
  have HE := Lib.hid hE
  clear hE hx hs
  have hne := ne_empty (s := x) (by omega)
  have c0 : (0 : Int) < (x.size : Int) := by omega
  have c1 : (1 : Int) < (x.size : Int) := by omega
  have hq1 : ((x[1].toNat : Int) == 0) = false := by simpa using h1
  clear h1
  cases leaf with
  | true =>
    have hq : (x[0].toNat : Int) = 2 := by simp at h0; omega
    clear h0
    go_wp2_with fail
    exact bodyPost_ret (v := .tuple #[.string ⟨#[]⟩, .bool false, .bool false]) (by kernel_rfl) rfl ⟨rfl, HE.out⟩
  | false =>
    have hq : (x[0].toNat : Int) = 0 := by simp at h0; omega
    clear h0
    go_wp2_with fail
    exact bodyPost_ret (v := .tuple #[.string ⟨#[]⟩, .bool false, .bool false]) (by kernel_rfl) rfl ⟨rfl, HE.out⟩
theorem nget_any (w : World) (s : ByteArray) (hs : s.size ≤ 1000000) : Calls Tryz.prog 183 #[.string s] w (NGetP w s) := by
  have hl := path_len s
  by_cases h0 : s.size = 0
  · refine (get_pnil w s hs (by rw [ba_empty h0]; rfl)).mono fun e w' h => ⟨?_, h.2⟩
    unfold ngetN; rw [if_pos h0]; exact h.1
  · have h2 : 2 ≤ (pathB s).size := by omega
    have e0 : (pathB s)[0] = (pathB s).data.toList.getD 0 0 := by
      rw [List.getD_eq_getElem?_getD, List.getElem?_eq_getElem (by show 0 < (pathB s).size; omega)]; rfl
    have e1 : (pathB s)[1] = (pathB s).data.toList.getD 1 0 := by
      rw [List.getD_eq_getElem?_getD, List.getElem?_eq_getElem (by show 1 < (pathB s).size; omega)]; rfl
    obtain ⟨n, hn⟩ : ∃ n, n = ((pathB s).data.toList.getD 0 0).toNat := ⟨_, rfl⟩
    have e0 : (pathB s)[0].toNat = n := by rw [e0, hn]
    unfold NGetP ngetN
    rw [if_neg h0, ← hn]
    by_cases h3 : 3 < n
    · rw [if_pos h3]; exact get_pbig w s hs _ rfl h2 (by omega)
    · rw [if_neg h3]
      by_cases ho : n = 3 ∨ n = 1
      · rw [if_pos ho]
        refine get_odd w s hs (decide (n = 3)) _ rfl h2 ?_
        rw [e0]; rcases ho with rfl | rfl <;> rfl
      · rw [if_neg ho]
        have he : (pathB s)[0].toNat = if decide (n = 2) = true then 2 else 0 := by
          rw [e0]
          by_cases h : n = 2
          · simp [h]
          · simp [h]; omega
        by_cases hz : ((pathB s).data.toList.getD 1 0).toNat = 0
        · rw [if_pos hz]; exact get_even w s hs (decide (n = 2)) _ rfl h2 he (by rw [e1]; exact hz)
        · rw [if_neg hz]; exact get_pfill w s hs (decide (n = 2)) _ rfl h2 he (by rw [e1]; exact hz)
end
end Go.Proofs.YtjogjmffkmfmbaaGreatDoor
