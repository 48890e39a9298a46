/- Parts of the proof, one behind the other: RefA, RefB, RefC, RefD, RefE, DiffsA, RefF, ChangesA, ChangesP. Each is under no condition but those that it states. -/
import Derived.Test.YtolhikjjchfnjaaGreatDoorBa35
import Derived.Test.YtolhikjjchfnjaaGreatDoorBa30
import Derived.Test.YtolhikjjchfnjaaGreatDoorBa33
import Derived.WalkKit
import Derived.ProofKit
import Derived.OpenShut
import Derived.Lib.SmallJoins
import Derived.Deep.DeepHandedRow
import Derived.Lay
import Derived.Carry
import Derived.ChangeMaps5
/- reference 05: key, value, Ahead. -/
namespace Go.Proofs.YtolhikjjchfnjaaGreatDoor
section
open Go Go.RowKit
set_option linter.unusedSimpArgs false
set_option linter.unusedVariables false

set_option maxRecDepth 100000 in
theorem rkey_c (w : World) (k : ByteArray) (hs : k.size ≤ 9223372036854775807) : Calls Tryz.prog 37 #[.string k] w fun e w' => e = .returned (.bool (keyedB k)) ∧ Ext w w' := by
  by_cases h0 : 1 ≤ k.size
  · have c0 : (1 : Int) ≤ (k.size : Int) := by omega
    by_cases h6 : k.size ≤ 6
    · have c : (k.size : Int) ≤ 6 := by omega
      have E := Lib.hid (show keyedB k = true by unfold keyedB; simp; omega)
      go_enter Tryz.func37, Tryz.ntmps37
      go_wp2_with fail
      go_ret
      exact ⟨by rw [E.out]; rfl, ExtR w⟩
    · have c : ¬ (k.size : Int) ≤ 6 := by omega
      have E := Lib.hid (show keyedB k = false by unfold keyedB; simp; omega)
      go_enter Tryz.func37, Tryz.ntmps37
      go_wp2_with fail
      go_ret
      exact ⟨by rw [E.out]; rfl, ExtR w⟩
  · have c0 : ¬ (1 : Int) ≤ (k.size : Int) := by omega
    have E := Lib.hid (show keyedB k = false by unfold keyedB; simp; omega)
    go_enter Tryz.func37, Tryz.ntmps37
    go_wp2_with fail
    go_ret
    exact ⟨by rw [E.out]; rfl, ExtR w⟩
set_option maxRecDepth 100000 in
theorem rvalue_c (w : World) (k : ByteArray) (hs : k.size ≤ 9223372036854775807) : Calls Tryz.prog 38 #[.string k] w fun e w' => e = .returned (.bool (valuedB k)) ∧ Ext w w' := by
  by_cases h0 : 1 ≤ k.size
  · have c0 : (1 : Int) ≤ (k.size : Int) := by omega
    by_cases h6 : k.size ≤ 80
    · have c : (k.size : Int) ≤ 80 := by omega
      have E := Lib.hid (show valuedB k = true by unfold valuedB; simp; omega)
      go_enter Tryz.func38, Tryz.ntmps38
      go_wp2_with fail
      go_ret
      exact ⟨by rw [E.out]; rfl, ExtR w⟩
    · have c : ¬ (k.size : Int) ≤ 80 := by omega
      have E := Lib.hid (show valuedB k = false by unfold valuedB; simp; omega)
      go_enter Tryz.func38, Tryz.ntmps38
      go_wp2_with fail
      go_ret
      exact ⟨by rw [E.out]; rfl, ExtR w⟩
  · have c0 : ¬ (1 : Int) ≤ (k.size : Int) := by omega
    have E := Lib.hid (show valuedB k = false by unfold valuedB; simp; omega)
    go_enter Tryz.func38, Tryz.ntmps38
    go_wp2_with fail
    go_ret
    exact ⟨by rw [E.out]; rfl, ExtR w⟩
theorem Tryz.enterRkey : ∀ args w, (callFunc 37 args).run Tryz.prog w = .ok (.enter 37 args) w := fun _ _ => by kernel_rfl
theorem Tryz.enterRvalue : ∀ args w, (callFunc 38 args).run Tryz.prog w = .ok (.enter 38 args) w := fun _ _ => by kernel_rfl
theorem Tryz.enterAhead : ∀ args w, (callFunc 39 args).run Tryz.prog w = .ok (.enter 39 args) w := fun _ _ => by kernel_rfl
theorem less_drop : ∀ (i : Nat) (a b : List UInt8), a.take i = b.take i → i ≤ a.length → i ≤ b.length → Op.bytesLess a b = Op.bytesLess (a.drop i) (b.drop i)
  | 0, _, _, _, _, _ => rfl
  | i + 1, [], _, _, h, _ => by simp at h
  | i + 1, _ :: _, [], _, _, h => by simp at h
  | i + 1, x :: a, y :: b, h, h1, h2 => by
    simp only [List.take_succ_cons, List.cons.injEq] at h
    obtain ⟨rfl, h⟩ := h
    rw [Op.bytesLess, List.drop_succ_cons, List.drop_succ_cons, ← less_drop i a b h (by simpa using h1) (by simpa using h2)]
    simp
theorem less_at {i : Nat} {a b : List UInt8} {x y : UInt8} (h : a.take i = b.take i) (hx : a[i]? = some x) (hy : b[i]? = some y) (hne : x ≠ y) : Op.bytesLess a b = decide (x < y) := by
  obtain ⟨h1, e1⟩ := List.getElem?_eq_some_iff.1 hx
  obtain ⟨h2, e2⟩ := List.getElem?_eq_some_iff.1 hy
  rw [less_drop i a b h (by omega) (by omega), List.drop_eq_getElem_cons h1, List.drop_eq_getElem_cons h2, e1, e2, Op.bytesLess]
  by_cases hl : x < y
  · simp [hl]
  · simp [hl, hne]
theorem less_end {i : Nat} {a b : List UInt8} (h : a.take i = b.take i) (h1 : i ≤ a.length) (h2 : i ≤ b.length) (he : i = a.length ∨ i = b.length) : Op.bytesLess a b = decide (a.length < b.length) := by
  rw [less_drop i a b h h1 h2]
  rcases he with he | he
  · rw [he, List.drop_length]
    cases hb : b.drop a.length with
    | nil =>
      have := congrArg List.length hb
      rw [List.length_drop, List.length_nil] at this
      simp [Op.bytesLess]; omega
    | cons y r =>
      have := congrArg List.length hb
      rw [List.length_drop, List.length_cons] at this
      simp [Op.bytesLess]; omega
  · rw [he, List.drop_length]
    cases ha : a.drop b.length with
    | nil =>
      have := congrArg List.length ha
      rw [List.length_drop, List.length_nil] at this
      simp [Op.bytesLess]; omega
    | cons y r =>
      have := congrArg List.length ha
      rw [List.length_drop, List.length_cons] at this
      simp [Op.bytesLess]; omega
def AhRel (w : World) (a b : ByteArray) (iv : Value) (wr : World) : Prop := ∃ i : Nat, i ≤ a.size ∧ i ≤ b.size ∧ iv = .int .i64 i ∧ Ext w wr ∧ a.data.toList.take i = b.data.toList.take i
set_option maxRecDepth 100000 in
set_option maxHeartbeats 4000000 in
theorem ahead_c (w : World) (a b : ByteArray) (ha : a.size ≤ 9223372036854775807) (hb : b.size ≤ 9223372036854775807) : Calls Tryz.prog 39 #[.string a, .string b] w fun e w' => e = .returned (.bool (lessB a b)) ∧ Ext w w' := by
  obtain ⟨R, hR⟩ : ∃ R, R = lessB a b := ⟨_, rfl⟩
  have HR := Lib.hid (show R = Op.bytesLess a.data.toList b.data.toList by rw [hR]; unfold lessB; rw [ByteArray.toList_eq, ByteArray.toList_eq])
  rw [← hR]
  clear hR
  go_enter Tryz.func39, Tryz.ntmps39
  go_wp2_with fail
  go_loopw [5] (fun iv wr => AhRel w a b iv wr) (fun iv _ => a.size - (intOf iv).toNat)
  case atStart => exact ⟨0, by omega, by omega, rfl, ExtR w, rfl⟩
  case round =>
    obtain ⟨i, hi1, hi2, rfl, hE, htk⟩ := hrel
    have HE := Lib.hid hE
    have HTK := Lib.hid htk
    clear hE htk
    have hla : a.data.toList.length = a.size := rfl
    have hlb : b.data.toList.length = b.size := rfl
    by_cases h1 : i < a.size
    · have b1 : (i : Int) < (a.size : Int) := by omega
      by_cases h2 : i < b.size
      · have b2 : (i : Int) < (b.size : Int) := by omega
        obtain ⟨x, hx⟩ : ∃ x, x = a[i] := ⟨_, rfl⟩
        obtain ⟨y, hy⟩ : ∃ y, y = b[i] := ⟨_, rfl⟩
        have HX := Lib.hid (show a.data.toList[i]? = some x by rw [hx, List.getElem?_eq_getElem (by omega)]; rfl)
        have HY := Lib.hid (show b.data.toList[i]? = some y by rw [hy, List.getElem?_eq_getElem (by omega)]; rfl)
        have hgx : a[i].toNat = x.toNat := by rw [hx]
        have hgy : b[i].toNat = y.toNat := by rw [hy]
        clear hla hlb
        by_cases hxy : x = y
        · have hn : ((x.toNat : Int) != (y.toNat : Int)) = false := by rw [hxy]; simp
          have HT2 := Lib.hid (show a.data.toList.take (i + 1) = b.data.toList.take (i + 1) by rw [List.take_add_one, List.take_add_one, HX.out, HY.out, HTK.out, hxy])
          clear hxy
          go_wp2_with fail
          refine wp_region_mixK [0,1,2,3,4,5,6] Ext ExtR ExtT (by kernel_rfl) (by kernel_rfl) (by kernel_rfl) ?_
          iterate 7 (refine mixk_pure _ rfl (by kernel_rfl) rfl rfl (fun K hK => ?_); go_big_quiet_op; refine hK _ ?_; clear hK K)
          refine mixk_end (by kernel_rfl) (fun w3 he => ?_)
          have HE3 := Lib.hid (HE.out.trans ((drewE _).trans he))
          clear he
          go_wp2_with fail
          go_roundw
          case rel => exact ⟨i + 1, by omega, by omega, by go_num, HE3.out, HT2.out⟩
          case measure => simp [intOf]; omega
        · have hn : ((x.toNat : Int) != (y.toNat : Int)) = true := by
            simp only [bne_iff_ne, ne_eq]
            intro e; exact hxy (UInt8.toNat_inj.1 (by omega))
          have HL := Lib.hid (show R = decide (x < y) by rw [HR.out]; exact less_at HTK.out HX.out HY.out hxy)
          by_cases hl : x < y
          · have hl2 : (x.toNat : Int) < (y.toNat : Int) := by have := UInt8.lt_iff_toNat_lt.1 hl; omega
            have HF := Lib.hid (show R = true by rw [HL.out]; exact decide_eq_true hl)
            clear hl hxy
            go_wp2_with fail
            refine wp_region_mixK [0,1,2,3,4,5,6] Ext ExtR ExtT (by kernel_rfl) (by kernel_rfl) (by kernel_rfl) ?_
            iterate 7 (refine mixk_pure _ rfl (by kernel_rfl) rfl rfl (fun K hK => ?_); go_big_quiet_op; refine hK _ ?_; clear hK K)
            refine mixk_end (by kernel_rfl) (fun w3 he => ?_)
            go_wp2_with fail
            refine wp_region_mixK [0,1,2,3,4,5,6,7] Ext ExtR ExtT (by kernel_rfl) (by kernel_rfl) (by kernel_rfl) ?_
            iterate 8 (refine mixk_pure _ rfl (by kernel_rfl) rfl rfl (fun K hK => ?_); go_big_quiet_op; refine hK _ ?_; clear hK K)
            refine mixk_end (by kernel_rfl) (fun w4 he2 => ?_)
            have HE3 := Lib.hid ((HE.out.trans ((drewE _).trans he)).trans ((drewE _).trans he2))
            clear he he2
            go_wp2_with fail
            go_ret
            exact ⟨by rw [HF.out]; rfl, HE3.out⟩
          · have hl2 : ¬ (x.toNat : Int) < (y.toNat : Int) := by
              intro e; exact hl (UInt8.lt_iff_toNat_lt.2 (by omega))
            have HF := Lib.hid (show R = decide (x.toNat < y.toNat) by rw [HL.out, decide_eq_false hl, decide_eq_false (fun e => hl (UInt8.lt_iff_toNat_lt.2 e))])
            clear hl hxy
            go_wp2_with fail
            refine wp_region_mixK [0,1,2,3,4,5,6] Ext ExtR ExtT (by kernel_rfl) (by kernel_rfl) (by kernel_rfl) ?_
            iterate 7 (refine mixk_pure _ rfl (by kernel_rfl) rfl rfl (fun K hK => ?_); go_big_quiet_op; refine hK _ ?_; clear hK K)
            refine mixk_end (by kernel_rfl) (fun w3 he => ?_)
            go_wp2_with fail
            refine wp_region_mixK [0,1,2,3,4,5,6,7] Ext ExtR ExtT (by kernel_rfl) (by kernel_rfl) (by kernel_rfl) ?_
            iterate 8 (refine mixk_pure _ rfl (by kernel_rfl) rfl rfl (fun K hK => ?_); go_big_quiet_op; refine hK _ ?_; clear hK K)
            refine mixk_end (by kernel_rfl) (fun w4 he2 => ?_)
            have HE3 := Lib.hid ((HE.out.trans ((drewE _).trans he)).trans ((drewE _).trans he2))
            clear he he2
            go_wp2_with fail
            go_ret
            exact ⟨by rw [HF.out]; rfl, HE3.out⟩
      · have b2 : ¬ (i : Int) < (b.size : Int) := by omega
        have HL := Lib.hid (show R = decide (a.size < b.size) by rw [HR.out]; exact less_end HTK.out (by omega) (by omega) (.inr (by omega)))
        have b3 : ¬ (a.size : Int) < (b.size : Int) := by omega
        have HF := Lib.hid (show R = false by rw [HL.out]; exact decide_eq_false (by omega))
        go_wp2_with fail
        go_ret
        exact ⟨by rw [HF.out]; rfl, HE.out⟩
    · have b1 : ¬ (i : Int) < (a.size : Int) := by omega
      have HL := Lib.hid (show R = decide (a.size < b.size) by rw [HR.out]; exact less_end HTK.out (by omega) (by omega) (.inl (by omega)))
      by_cases hl : a.size < b.size
      · have b3 : (a.size : Int) < (b.size : Int) := by omega
        have HF := Lib.hid (show R = true by rw [HL.out]; exact decide_eq_true hl)
        clear hl
        go_wp2_with fail
        go_ret
        exact ⟨by rw [HF.out]; rfl, HE.out⟩
      · have b3 : ¬ (a.size : Int) < (b.size : Int) := by omega
        have HF := Lib.hid (show R = false by rw [HL.out]; exact decide_eq_false hl)
        clear hl
        go_wp2_with fail
        go_ret
        exact ⟨by rw [HF.out]; rfl, HE.out⟩
end
end Go.Proofs.YtolhikjjchfnjaaGreatDoor
/- reference 05: Check, Right. -/
namespace Go.Proofs.YtolhikjjchfnjaaGreatDoor
section
open Go Go.RowKit
set_option linter.unusedSimpArgs false
set_option linter.unusedVariables false

def RkRel (w : World) (l : List Pair) (i : Value) (wr : World) : Prop := ∃ k : Nat, k ≤ l.length ∧ i = .int .i64 k ∧ Ext w wr ∧ (List.range k).any (badN l) = false
set_option maxRecDepth 100000 in
set_option maxHeartbeats 8000000 in
theorem rcheck_c (w : World) (v : Value) (l : List Pair) (hv : RdP w v l) (hn : l.length ≤ 9223372036854775807) (hs : SmallP l) : Calls Tryz.prog 13 #[v] w fun e w' => e = .returned (.int .i64 (checkN l)) ∧ Ext w w' := by
  have HV := Lib.hid hv
  have HS := Lib.hid hs
  obtain ⟨a, c, hsl⟩ := hv.sl
  subst hsl
  clear hv hs
  obtain ⟨R, hR⟩ : ∃ R, R = checkN l := ⟨_, rfl⟩
  rw [← hR]
  have HR := Lib.hid hR
  clear hR
  go_enter Tryz.func13, Tryz.ntmps13
  go_wp2_with fail
  go_loopw [3] (fun i wr => RkRel w l i wr) (fun i _ => l.length - (intOf i).toNat)
  case atStart => exact ⟨0, by omega, rfl, ExtR w, rfl⟩
  case round =>
    obtain ⟨k, hk, rfl, hE, hall⟩ := hrel
    have HE := Lib.hid hE
    have HALL := Lib.hid hall
    clear hE hall
    by_cases hlt : k < l.length
    · have b1 : (k : Int) < (l.length : Int) := by omega
      rcases HV.out with ⟨_, _, _, h0⟩ | ⟨b, o, c1, hh, hb, hc, hcell⟩
      · rw [h0] at hlt; cases hlt
      cases hh
      obtain ⟨p, hp⟩ : ∃ p, l[k]? = some p := ⟨_, List.getElem?_eq_getElem hlt⟩
      obtain ⟨q1, q2⟩ := hcell k p hp
      have q1 := cell_ext q1 HE.out
      have q2 := cell_ext q2 HE.out
      have hsp := HS.out p (List.mem_of_getElem? hp)
      have hgd : l.getD k (⟨#[]⟩, ⟨#[]⟩) = p := by rw [List.getD_eq_getElem?_getD, hp]; rfl
      obtain ⟨x, y⟩ := p
      simp only at q1 q2 hsp
      have HRK := Lib.hid (fun w1 => rkey_c w1 x hsp.1)
      have HRV := Lib.hid (fun w1 => rvalue_c w1 y hsp.2)
      have HBAD := Lib.hid (fun (h : badN l k = true) => (show R = 1 by
        rw [HR.out]; unfold checkN; rw [if_pos (List.any_eq_true.2 ⟨k, List.mem_range.2 hlt, h⟩)]))
      have HNX := Lib.hid (fun (h : badN l k = false) => (show (List.range (k + 1)).any (badN l) = false by rw [List.range_succ, List.any_append, HALL.out]; simp [h]))
      cases hk1 : keyedB x with
      | false =>
        rw [hk1] at HRK
        have HB := Lib.hid (HBAD.out (by unfold badN; rw [hgd, hk1]; rfl))
        clear hcell hp hb hc hk1 hgd hsp
        go_wp2_with fail
        refine wp_region_mixK [0,1,2,3,4,5,6,7,8,9,10,11,12,13,14,15,16,17,18,19,20,21,22,23,24,25,26,27,28,29,30,31,32,33,34] Ext ExtR ExtT (by kernel_rfl) (by kernel_rfl) (by kernel_rfl) ?_
        iterate 4 (refine mixk_pure _ rfl (by kernel_rfl) rfl rfl (fun K hK => ?_); go_big_quiet_op; refine hK _ ?_; clear hK K)
        refine mixk_load ⟨b, o + k * 2, none⟩ _ rfl (by kernel_rfl) rfl rfl (fun w1 h1 => run_load_plain Tryz.uStr rfl (cell_ext q1 ((drewE _).trans h1))) ?_
        simp only [Act.put, List.setIfInBounds_toArray, List.set_cons_zero, List.set_cons_succ]
        refine mixk_call _ 37 #[.string x] (.bool false) rfl (by kernel_rfl) rfl (fun w1 => exec_call Tryz.enterRkey (by kernel_rfl)) (fun w1 h1 => HRK.out w1) ?_
        simp only [Act.put, List.setIfInBounds_toArray, List.set_cons_zero, List.set_cons_succ]
        iterate 2 (refine mixk_pure _ rfl (by kernel_rfl) rfl rfl (fun K hK => ?_); go_big_quiet_op; refine hK _ ?_; clear hK K)
        iterate 7 (refine mixk_skip _ rfl (by kernel_rfl) rfl ?_; simp only [Act.put, List.setIfInBounds_toArray, List.set_cons_zero, List.set_cons_succ])
        iterate 2 (refine mixk_pure _ rfl (by kernel_rfl) rfl rfl (fun K hK => ?_); go_big_quiet_op; refine hK _ ?_; clear hK K)
        iterate 17 (refine mixk_skip _ rfl (by kernel_rfl) rfl ?_; simp only [Act.put, List.setIfInBounds_toArray, List.set_cons_zero, List.set_cons_succ])
        iterate 1 (refine mixk_pure _ rfl (by kernel_rfl) rfl rfl (fun K hK => ?_); go_big_quiet_op; refine hK _ ?_; clear hK K)
        refine mixk_end (by kernel_rfl) (fun w3 he => ?_)
        have HE3 := Lib.hid (HE.out.trans ((drewE _).trans he))
        clear he q1 q2
        go_wp2_with fail
        go_ret
        exact ⟨by rw [HB.out]; rfl, HE3.out⟩
      | true =>
        rw [hk1] at HRK
        cases hv1 : valuedB y with
        | false =>
          rw [hv1] at HRV
          have HB := Lib.hid (HBAD.out (by unfold badN; rw [hgd, hk1, hv1]; rfl))
          clear hcell hp hb hc hk1 hv1 hgd hsp
          go_wp2_with fail
          refine wp_region_mixK [0,1,2,3,4,5,6,7,8,9,10,11,12,13,14,15,16,17,18,19,20,21,22,23,24,25,26,27,28,29,30,31,32,33,34] Ext ExtR ExtT (by kernel_rfl) (by kernel_rfl) (by kernel_rfl) ?_
          iterate 4 (refine mixk_pure _ rfl (by kernel_rfl) rfl rfl (fun K hK => ?_); go_big_quiet_op; refine hK _ ?_; clear hK K)
          refine mixk_load ⟨b, o + k * 2, none⟩ _ rfl (by kernel_rfl) rfl rfl (fun w1 h1 => run_load_plain Tryz.uStr rfl (cell_ext q1 ((drewE _).trans h1))) ?_
          simp only [Act.put, List.setIfInBounds_toArray, List.set_cons_zero, List.set_cons_succ]
          refine mixk_call _ 37 #[.string x] (.bool true) rfl (by kernel_rfl) rfl (fun w1 => exec_call Tryz.enterRkey (by kernel_rfl)) (fun w1 h1 => HRK.out w1) ?_
          simp only [Act.put, List.setIfInBounds_toArray, List.set_cons_zero, List.set_cons_succ]
          iterate 6 (refine mixk_pure _ rfl (by kernel_rfl) rfl rfl (fun K hK => ?_); go_big_quiet_op; refine hK _ ?_; clear hK K)
          refine mixk_load ⟨b, o + k * 2 + 1, none⟩ _ rfl (by kernel_rfl) rfl rfl (fun w1 h1 => run_load_plain Tryz.uStr rfl (cell_ext q2 ((drewE _).trans h1))) ?_
          simp only [Act.put, List.setIfInBounds_toArray, List.set_cons_zero, List.set_cons_succ]
          refine mixk_call _ 38 #[.string y] (.bool false) rfl (by kernel_rfl) rfl (fun w1 => exec_call Tryz.enterRvalue (by kernel_rfl)) (fun w1 h1 => HRV.out w1) ?_
          simp only [Act.put, List.setIfInBounds_toArray, List.set_cons_zero, List.set_cons_succ]
          iterate 3 (refine mixk_pure _ rfl (by kernel_rfl) rfl rfl (fun K hK => ?_); go_big_quiet_op; refine hK _ ?_; clear hK K)
          iterate 17 (refine mixk_skip _ rfl (by kernel_rfl) rfl ?_; simp only [Act.put, List.setIfInBounds_toArray, List.set_cons_zero, List.set_cons_succ])
          iterate 1 (refine mixk_pure _ rfl (by kernel_rfl) rfl rfl (fun K hK => ?_); go_big_quiet_op; refine hK _ ?_; clear hK K)
          refine mixk_end (by kernel_rfl) (fun w3 he => ?_)
          have HE3 := Lib.hid (HE.out.trans ((drewE _).trans he))
          clear he q1 q2
          go_wp2_with fail
          go_ret
          exact ⟨by rw [HB.out]; rfl, HE3.out⟩
        | true =>
          rw [hv1] at HRV
          by_cases hk0 : k = 0
          · have d0 : ¬ (0 : Int) < (k : Int) := by omega
            have d1 : decide ((0 : Int) < (k : Int)) = false := decide_eq_false d0
            have d2 : ¬ 0 < k := by omega
            have d3 : decide (0 < k) = false := decide_eq_false d2
            have HN2 := Lib.hid (HNX.out (by unfold badN; rw [hgd, hk1, hv1, hk0]; rfl))
            clear hcell hp hb hc hk1 hv1 hgd hsp hk0
            go_wp2_with fail
            refine wp_region_mixK [0,1,2,3,4,5,6,7,8,9,10,11,12,13,14,15,16,17,18,19,20,21,22,23,24,25,26,27,28,29,30,31,32,33,34] Ext ExtR ExtT (by kernel_rfl) (by kernel_rfl) (by kernel_rfl) ?_
            iterate 4 (refine mixk_pure _ rfl (by kernel_rfl) rfl rfl (fun K hK => ?_); go_big_quiet_op; refine hK _ ?_; clear hK K)
            refine mixk_load ⟨b, o + k * 2, none⟩ _ rfl (by kernel_rfl) rfl rfl (fun w1 h1 => run_load_plain Tryz.uStr rfl (cell_ext q1 ((drewE _).trans h1))) ?_
            simp only [Act.put, List.setIfInBounds_toArray, List.set_cons_zero, List.set_cons_succ]
            refine mixk_call _ 37 #[.string x] (.bool true) rfl (by kernel_rfl) rfl (fun w1 => exec_call Tryz.enterRkey (by kernel_rfl)) (fun w1 h1 => HRK.out w1) ?_
            simp only [Act.put, List.setIfInBounds_toArray, List.set_cons_zero, List.set_cons_succ]
            iterate 6 (refine mixk_pure _ rfl (by kernel_rfl) rfl rfl (fun K hK => ?_); go_big_quiet_op; refine hK _ ?_; clear hK K)
            refine mixk_load ⟨b, o + k * 2 + 1, none⟩ _ rfl (by kernel_rfl) rfl rfl (fun w1 h1 => run_load_plain Tryz.uStr rfl (cell_ext q2 ((drewE _).trans h1))) ?_
            simp only [Act.put, List.setIfInBounds_toArray, List.set_cons_zero, List.set_cons_succ]
            refine mixk_call _ 38 #[.string y] (.bool true) rfl (by kernel_rfl) rfl (fun w1 => exec_call Tryz.enterRvalue (by kernel_rfl)) (fun w1 h1 => HRV.out w1) ?_
            simp only [Act.put, List.setIfInBounds_toArray, List.set_cons_zero, List.set_cons_succ]
            iterate 6 (refine mixk_pure _ rfl (by kernel_rfl) rfl rfl (fun K hK => ?_); go_big_quiet_op; refine hK _ ?_; clear hK K)
            iterate 13 (refine mixk_skip _ rfl (by kernel_rfl) rfl ?_; simp only [Act.put, List.setIfInBounds_toArray, List.set_cons_zero, List.set_cons_succ])
            iterate 2 (refine mixk_pure _ rfl (by kernel_rfl) rfl rfl (fun K hK => ?_); go_big_quiet_op; refine hK _ ?_; clear hK K)
            refine mixk_end (by kernel_rfl) (fun w3 he => ?_)
            have HE3 := Lib.hid (HE.out.trans ((drewE _).trans he))
            clear he q1 q2
            go_wp2_with fail
            go_roundw
            case rel => exact ⟨k + 1, by omega, by go_num, HE3.out, HN2.out⟩
            case measure => simp [intOf]; omega
          · obtain ⟨pp, hpp⟩ : ∃ p, l[k - 1]? = some p := ⟨_, List.getElem?_eq_getElem (by omega)⟩
            have hsz := (HS.out pp (List.mem_of_getElem? hpp)).1
            obtain ⟨z, zy⟩ := pp
            have qp := cell_ext (hcell (k - 1) (z, zy) hpp).1 HE.out
            have hgp : l.getD (k - 1) (⟨#[]⟩, ⟨#[]⟩) = (z, zy) := by rw [List.getD_eq_getElem?_getD, hpp]; rfl
            simp only at hsz qp
            have c0 : (0 : Int) < (k : Int) := by omega
            have d0 : 0 < k := by omega
            have c1 : (0 : Int) ≤ (k : Int) - 1 := by omega
            have c2 : (k : Int) - 1 < (l.length : Int) := by omega
            have c3 : ((k : Int) - 1).toNat = k - 1 := by omega
            have HAH := Lib.hid (fun w1 => ahead_c w1 z x hsz hsp.1)
            cases hls : lessB z x with
            | false =>
              rw [hls] at HAH
              have HB := Lib.hid (HBAD.out (by unfold badN; rw [hgd, hk1, hv1, hgp]; simp only; rw [hls]; simp; omega))
              clear hcell hp hb hc hk1 hv1 hgd hsp hpp hgp hls hk0 hsz
              go_wp2_with fail
              refine wp_region_mixK [0,1,2,3,4,5,6,7,8,9,10,11,12,13,14,15,16,17,18,19,20,21,22,23,24,25,26,27,28,29,30,31,32,33,34] Ext ExtR ExtT (by kernel_rfl) (by kernel_rfl) (by kernel_rfl) ?_
              iterate 4 (refine mixk_pure _ rfl (by kernel_rfl) rfl rfl (fun K hK => ?_); go_big_quiet_op; refine hK _ ?_; clear hK K)
              refine mixk_load ⟨b, o + k * 2, none⟩ _ rfl (by kernel_rfl) rfl rfl (fun w1 h1 => run_load_plain Tryz.uStr rfl (cell_ext q1 ((drewE _).trans h1))) ?_
              simp only [Act.put, List.setIfInBounds_toArray, List.set_cons_zero, List.set_cons_succ]
              refine mixk_call _ 37 #[.string x] (.bool true) rfl (by kernel_rfl) rfl (fun w1 => exec_call Tryz.enterRkey (by kernel_rfl)) (fun w1 h1 => HRK.out w1) ?_
              simp only [Act.put, List.setIfInBounds_toArray, List.set_cons_zero, List.set_cons_succ]
              iterate 6 (refine mixk_pure _ rfl (by kernel_rfl) rfl rfl (fun K hK => ?_); go_big_quiet_op; refine hK _ ?_; clear hK K)
              refine mixk_load ⟨b, o + k * 2 + 1, none⟩ _ rfl (by kernel_rfl) rfl rfl (fun w1 h1 => run_load_plain Tryz.uStr rfl (cell_ext q2 ((drewE _).trans h1))) ?_
              simp only [Act.put, List.setIfInBounds_toArray, List.set_cons_zero, List.set_cons_succ]
              refine mixk_call _ 38 #[.string y] (.bool true) rfl (by kernel_rfl) rfl (fun w1 => exec_call Tryz.enterRvalue (by kernel_rfl)) (fun w1 h1 => HRV.out w1) ?_
              simp only [Act.put, List.setIfInBounds_toArray, List.set_cons_zero, List.set_cons_succ]
              iterate 11 (refine mixk_pure _ rfl (by kernel_rfl) rfl rfl (fun K hK => ?_); go_big_quiet_op; refine hK _ ?_; clear hK K)
              refine mixk_load ⟨b, o + (k - 1) * 2, none⟩ _ rfl (by kernel_rfl) rfl rfl (fun w1 h1 => run_load_plain Tryz.uStr rfl (cell_ext qp ((drewE _).trans h1))) ?_
              simp only [Act.put, List.setIfInBounds_toArray, List.set_cons_zero, List.set_cons_succ]
              iterate 4 (refine mixk_pure _ rfl (by kernel_rfl) rfl rfl (fun K hK => ?_); go_big_quiet_op; refine hK _ ?_; clear hK K)
              refine mixk_load ⟨b, o + k * 2, none⟩ _ rfl (by kernel_rfl) rfl rfl (fun w1 h1 => run_load_plain Tryz.uStr rfl (cell_ext q1 ((drewE _).trans h1))) ?_
              simp only [Act.put, List.setIfInBounds_toArray, List.set_cons_zero, List.set_cons_succ]
              refine mixk_call _ 39 #[.string z, .string x] (.bool false) rfl (by kernel_rfl) rfl (fun w1 => exec_call Tryz.enterAhead (by kernel_rfl)) (fun w1 h1 => HAH.out w1) ?_
              simp only [Act.put, List.setIfInBounds_toArray, List.set_cons_zero, List.set_cons_succ]
              iterate 3 (refine mixk_pure _ rfl (by kernel_rfl) rfl rfl (fun K hK => ?_); go_big_quiet_op; refine hK _ ?_; clear hK K)
              refine mixk_end (by kernel_rfl) (fun w3 he => ?_)
              have HE3 := Lib.hid (HE.out.trans ((drewE _).trans he))
              clear he q1 q2 qp
              go_wp2_with fail
              go_ret
              exact ⟨by rw [HB.out]; rfl, HE3.out⟩
            | true =>
              rw [hls] at HAH
              have HN2 := Lib.hid (HNX.out (by unfold badN; rw [hgd, hk1, hv1, hgp]; simp only; rw [hls]; simp))
              clear hcell hp hb hc hk1 hv1 hgd hsp hpp hgp hls hk0 hsz
              go_wp2_with fail
              refine wp_region_mixK [0,1,2,3,4,5,6,7,8,9,10,11,12,13,14,15,16,17,18,19,20,21,22,23,24,25,26,27,28,29,30,31,32,33,34] Ext ExtR ExtT (by kernel_rfl) (by kernel_rfl) (by kernel_rfl) ?_
              iterate 4 (refine mixk_pure _ rfl (by kernel_rfl) rfl rfl (fun K hK => ?_); go_big_quiet_op; refine hK _ ?_; clear hK K)
              refine mixk_load ⟨b, o + k * 2, none⟩ _ rfl (by kernel_rfl) rfl rfl (fun w1 h1 => run_load_plain Tryz.uStr rfl (cell_ext q1 ((drewE _).trans h1))) ?_
              simp only [Act.put, List.setIfInBounds_toArray, List.set_cons_zero, List.set_cons_succ]
              refine mixk_call _ 37 #[.string x] (.bool true) rfl (by kernel_rfl) rfl (fun w1 => exec_call Tryz.enterRkey (by kernel_rfl)) (fun w1 h1 => HRK.out w1) ?_
              simp only [Act.put, List.setIfInBounds_toArray, List.set_cons_zero, List.set_cons_succ]
              iterate 6 (refine mixk_pure _ rfl (by kernel_rfl) rfl rfl (fun K hK => ?_); go_big_quiet_op; refine hK _ ?_; clear hK K)
              refine mixk_load ⟨b, o + k * 2 + 1, none⟩ _ rfl (by kernel_rfl) rfl rfl (fun w1 h1 => run_load_plain Tryz.uStr rfl (cell_ext q2 ((drewE _).trans h1))) ?_
              simp only [Act.put, List.setIfInBounds_toArray, List.set_cons_zero, List.set_cons_succ]
              refine mixk_call _ 38 #[.string y] (.bool true) rfl (by kernel_rfl) rfl (fun w1 => exec_call Tryz.enterRvalue (by kernel_rfl)) (fun w1 h1 => HRV.out w1) ?_
              simp only [Act.put, List.setIfInBounds_toArray, List.set_cons_zero, List.set_cons_succ]
              iterate 11 (refine mixk_pure _ rfl (by kernel_rfl) rfl rfl (fun K hK => ?_); go_big_quiet_op; refine hK _ ?_; clear hK K)
              refine mixk_load ⟨b, o + (k - 1) * 2, none⟩ _ rfl (by kernel_rfl) rfl rfl (fun w1 h1 => run_load_plain Tryz.uStr rfl (cell_ext qp ((drewE _).trans h1))) ?_
              simp only [Act.put, List.setIfInBounds_toArray, List.set_cons_zero, List.set_cons_succ]
              iterate 4 (refine mixk_pure _ rfl (by kernel_rfl) rfl rfl (fun K hK => ?_); go_big_quiet_op; refine hK _ ?_; clear hK K)
              refine mixk_load ⟨b, o + k * 2, none⟩ _ rfl (by kernel_rfl) rfl rfl (fun w1 h1 => run_load_plain Tryz.uStr rfl (cell_ext q1 ((drewE _).trans h1))) ?_
              simp only [Act.put, List.setIfInBounds_toArray, List.set_cons_zero, List.set_cons_succ]
              refine mixk_call _ 39 #[.string z, .string x] (.bool true) rfl (by kernel_rfl) rfl (fun w1 => exec_call Tryz.enterAhead (by kernel_rfl)) (fun w1 h1 => HAH.out w1) ?_
              simp only [Act.put, List.setIfInBounds_toArray, List.set_cons_zero, List.set_cons_succ]
              iterate 3 (refine mixk_pure _ rfl (by kernel_rfl) rfl rfl (fun K hK => ?_); go_big_quiet_op; refine hK _ ?_; clear hK K)
              refine mixk_end (by kernel_rfl) (fun w3 he => ?_)
              have HE3 := Lib.hid (HE.out.trans ((drewE _).trans he))
              clear he q1 q2 qp
              go_wp2_with fail
              go_roundw
              case rel => exact ⟨k + 1, by omega, by go_num, HE3.out, HN2.out⟩
              case measure => simp [intOf]; omega
    · have hkl : k = l.length := by omega
      have HALL2 := Lib.hid (show (List.range l.length).any (badN l) = false by have := HALL.out; rwa [hkl] at this)
      have b1 : ¬ (k : Int) < (l.length : Int) := by omega
      by_cases h40 : 40 < l.length
      · have c4 : (40 : Int) < (l.length : Int) := by omega
        have HB := Lib.hid (show R = 12 by rw [HR.out]; unfold checkN; rw [if_neg (by rw [HALL2.out]; simp), if_pos h40])
        clear hkl h40
        go_wp2_with fail
        go_ret
        exact ⟨by rw [HB.out]; rfl, HE.out⟩
      · have c4 : ¬ (40 : Int) < (l.length : Int) := by omega
        have HB := Lib.hid (show R = 0 by rw [HR.out]; unfold checkN; rw [if_neg (by rw [HALL2.out]; simp), if_neg h40])
        clear hkl h40
        go_wp2_with fail
        go_ret
        exact ⟨by rw [HB.out]; rfl, HE.out⟩
theorem Tryz.enterRcheck : ∀ args w, (callFunc 13 args).run Tryz.prog w = .ok (.enter 13 args) w := fun _ _ => by kernel_rfl
def RtRel (w : World) (cs : List Chg) (i : Value) (wr : World) : Prop := ∃ k : Nat, k ≤ cs.length ∧ i = .int .i64 k ∧ Ext w wr ∧ (cs.take k).any Chg.bad = false
set_option maxRecDepth 100000 in
set_option maxHeartbeats 8000000 in
theorem right_c (w : World) (v : Value) (cs : List Chg) (hu : RdC w v cs) (hn : cs.length ≤ 9223372036854775807) (hsc : SmallC cs) : Calls Tryz.prog 51 #[v] w fun e w' => e = .returned (.bool (!cs.any Chg.bad)) ∧ Ext w w' := by
  have HU := Lib.hid hu
  have HSC := Lib.hid hsc
  obtain ⟨a, c, hsl⟩ := hu.sl
  subst hsl
  clear hu hsc
  obtain ⟨R, hR⟩ : ∃ R, R = !cs.any Chg.bad := ⟨_, rfl⟩
  rw [← hR]
  have HR := Lib.hid hR
  clear hR
  go_enter Tryz.func51, Tryz.ntmps51
  go_wp2_with fail
  go_loopw [3] (fun i wr => RtRel w cs i wr) (fun i _ => cs.length - (intOf i).toNat)
  case atStart => exact ⟨0, by omega, rfl, ExtR w, rfl⟩
  case round =>
    obtain ⟨k, hk, rfl, hE, hall⟩ := hrel
    have HE := Lib.hid hE
    have HALL := Lib.hid hall
    clear hE hall
    by_cases hlt : k < cs.length
    · have b1 : (k : Int) < (cs.length : Int) := by omega
      rcases HU.out with ⟨_, _, _, h0⟩ | ⟨b, o, c1, hh, hb, hc, hcell⟩
      · rw [h0] at hlt; cases hlt
      cases hh
      obtain ⟨p, hp⟩ : ∃ p, cs[k]? = some p := ⟨_, List.getElem?_eq_getElem hlt⟩
      obtain ⟨q1, q2, q3⟩ := hcell k p hp
      have hsp := HSC.out p (List.mem_of_getElem? hp)
      have HP := Lib.hid hp
      have HQ1 := Lib.hid q1
      have HQ2 := Lib.hid q2
      have HQ3 := Lib.hid q3
      have q1 := cell_ext q1 HE.out
      have q2 := cell_ext q2 HE.out
      have q3 := cell_ext q3 HE.out
      obtain ⟨ky, vl, gn⟩ := p
      simp only at q1 q2 q3 hsp HQ1 HQ2 HQ3
      have HBAD := Lib.hid (fun (h : Chg.bad ⟨ky, vl, gn⟩ = true) => (show R = false by rw [HR.out, any_at HP.out h]; rfl))
      have HGO := Lib.hid (fun (h : Chg.bad ⟨ky, vl, gn⟩ = false) => (show (cs.take (k + 1)).any Chg.bad = false by rw [any_take HP.out, HALL.out, h]; rfl))
      clear hcell hp hb hc
      go_wp2_with fail
      refine (rkey_c wr ky hsp.1).mono ?_
      rintro e w3 ⟨rfl, hE⟩
      have HE3 := Lib.hid (HE.out.trans hE)
      have q1 := cell_ext HQ1.out HE3.out
      have q2 := cell_ext HQ2.out HE3.out
      have q3 := cell_ext HQ3.out HE3.out
      clear hE
      cases hky : keyedB ky with
      | false =>
        have HB := Lib.hid (HBAD.out (by unfold Chg.bad; simp [hky]))
        clear hky
        go_wp2_with fail
        go_ret
        exact ⟨by rw [HB.out]; rfl, HE3.out⟩
      | true =>
        cases gn with
        | true =>
          by_cases hz : vl.size = 0
          · have := ba_empty hz
            subst this
            have HG := Lib.hid (HGO.out (by unfold Chg.bad; simp [hky]; rfl))
            clear hky hz
            go_wp2_with fail
            go_roundw
            case rel => exact ⟨k + 1, by omega, by go_num, HE3.out, HG.out⟩
            case measure => simp [intOf]; omega
          · have hne := ne_empty (s := vl) (by omega)
            have HB := Lib.hid (HBAD.out (by unfold Chg.bad; simp [hky, hz]))
            clear hky hz
            go_wp2_with fail
            go_ret
            exact ⟨by rw [HB.out]; rfl, HE3.out⟩
        | false =>
          go_wp2_with fail
          refine (rvalue_c w3 vl hsp.2).mono ?_
          rintro e w4 ⟨rfl, hE⟩
          have HE4 := Lib.hid (HE3.out.trans hE)
          clear hE
          cases hvl : valuedB vl with
          | true =>
            have HG := Lib.hid (HGO.out (by unfold Chg.bad; simp [hky, hvl]))
            clear hky hvl
            go_wp2_with fail
            go_roundw
            case rel => exact ⟨k + 1, by omega, by go_num, HE4.out, HG.out⟩
            case measure => simp [intOf]; omega
          | false =>
            have HB := Lib.hid (HBAD.out (by unfold Chg.bad; simp [hky, hvl]))
            clear hky hvl
            go_wp2_with fail
            go_ret
            exact ⟨by rw [HB.out]; rfl, HE4.out⟩
    · have hkn : k = cs.length := by omega
      have b1 : ¬ (k : Int) < (cs.length : Int) := by omega
      have HB := Lib.hid (show R = true by have h := HALL.out; rw [hkn, List.take_length] at h; rw [HR.out, h]; rfl)
      clear hkn
      go_wp2_with fail
      go_ret
      exact ⟨by rw [HB.out]; rfl, HE.out⟩
end
end Go.Proofs.YtolhikjjchfnjaaGreatDoor
/- reference 05, plain: a map with one change, with changes. -/
namespace Go.Proofs.YtolhikjjchfnjaaGreatDoor
section
open Go Go.RowKit
set_option linter.unusedSimpArgs false
set_option linter.unusedVariables false
/-- One entry, behind those that are told already. -/
def stepO (c : Chg) (s : List Pair × Bool) (e : Pair) : List Pair × Bool :=
  let put := !s.2 && !lessB e.1 c.key
  ((if put then s.1 ++ [(c.key, c.value)] else s.1) ++ (if (e.1.toList == c.key.toList) then [] else [e]), s.2 || put)
def runO (c : Chg) (l : List Pair) : List Pair × Bool := l.foldl (stepO c) ([], c.gone)
def oneL (l : List Pair) (c : Chg) : List Pair := if (runO c l).2 then (runO c l).1 else (runO c l).1 ++ [(c.key, c.value)]
def insO (c : Chg) : Bool → List Pair → List Pair
  | p, [] => if p then [] else [(c.key, c.value)]
  | p, e :: r => (if !p && !lessB e.1 c.key then [(c.key, c.value)] else []) ++ (if (e.1.toList == c.key.toList) then [] else [e]) ++ insO c (p || (!p && !lessB e.1 c.key)) r
theorem run_ins (c : Chg) : ∀ (l : List Pair) (o : List Pair) (p : Bool), (let s := l.foldl (stepO c) (o, p); if s.2 then s.1 else s.1 ++ [(c.key, c.value)]) = o ++ insO c p l
  | [], o, p => by cases p <;> simp [insO]
  | e :: r, o, p => by
    have ih : ∀ s : List Pair × Bool, (let s := r.foldl (stepO c) s; if s.2 then s.1 else s.1 ++ [(c.key, c.value)]) = s.1 ++ insO c s.2 r := fun s => by
      obtain ⟨x, y⟩ := s; exact run_ins c r x y
    refine (ih (stepO c (o, p) e)).trans ?_
    rw [insO]
    unfold stepO
    simp only
    cases h1 : (!p && !lessB e.1 c.key) <;> cases h2 : (e.1.toList == c.key.toList) <;> simp
theorem one_ins (l : List Pair) (c : Chg) : oneL l c = insO c c.gone l := by
  have := run_ins c l [] c.gone
  rw [List.nil_append] at this
  exact this
theorem keq (e : Pair) (c : Chg) : (e.1.toList == c.key.toList) = decide (e.k = c.k) := by
  rw [ByteArray.toList_eq, ByteArray.toList_eq]
  by_cases h : e.k = c.k
  · rw [decide_eq_true h]; simpa using h
  · rw [decide_eq_false h, Bool.eq_false_iff]; intro e2; exact h (eq_of_beq e2)
theorem ins_true (c : Chg) : ∀ l : List Pair, insO c true l = l.filter fun e => !decide (e.k = c.k)
  | [] => rfl
  | e :: r => by
    have e1 : insO c true (e :: r) = (if (e.1.toList == c.key.toList) then [] else [e]) ++ insO c true r := by rw [insO]; simp
    rw [e1, keq, ins_true c r, List.filter_cons]
    by_cases h : e.k = c.k <;> simp [h]
theorem look_filter (c : Chg) (k : List UInt8) : ∀ l : List Pair, look (l.filter fun e => !decide (e.k = c.k)) k = if k = c.k then none else look l k
  | [] => by rw [List.filter_nil, look_nil]; simp
  | e :: r => by
    rw [List.filter_cons]
    by_cases h : e.k = c.k
    · rw [if_neg (by simp [h]), look_filter c k r, look_cons]
      by_cases hk : k = c.k
      · rw [if_pos hk, if_pos hk]
      · rw [if_neg hk, if_neg hk, if_neg (by rw [h]; exact hk)]
    · rw [if_pos (by simp [h]), look_cons, look_cons, look_filter c k r]
      by_cases hk : k = e.k
      · rw [if_pos hk, if_pos hk, if_neg (by rw [hk]; exact h)]
      · rw [if_neg hk, if_neg hk]
theorem less_iff (e : Pair) (c : Chg) : lessB e.1 c.key = true ↔ Lt e.k c.k := lessB_iff _ _
theorem ins_keys (c : Chg) : ∀ (l : List Pair) (p : Bool), ∀ q ∈ insO c p l, q.k = c.k ∨ q ∈ l
  | [], p, q, h => by
    unfold insO at h
    cases p
    · simp at h; subst h; exact .inl rfl
    · simp at h
  | e :: r, p, q, h => by
    rw [insO] at h
    rcases List.mem_append.1 h with h | h
    · rcases List.mem_append.1 h with h | h
      · split at h
        · simp at h; subst h; exact .inl rfl
        · cases h
      · split at h
        · cases h
        · simp at h; subst h; exact .inr List.mem_cons_self
    · exact (ins_keys c r _ q h).imp id (List.mem_cons_of_mem _)
theorem ins_false (c : Chg) : ∀ {l : List Pair}, Rises l → Rises (insO c false l) ∧ ∀ k, look (insO c false l) k = if k = c.k then some c.value else look l k
  | [], _ => by
    refine ⟨by simp [insO, Rises], fun k => ?_⟩
    show look [(c.key, c.value)] k = _
    rw [look_cons]
  | e :: r, h => by
    have hr := (List.pairwise_cons.1 h).2
    have hl := (List.pairwise_cons.1 h).1
    rw [insO, keq]
    by_cases hlt : Lt e.k c.k
    · have hb : lessB e.1 c.key = true := (less_iff e c).2 hlt
      have hne : ¬ e.k = c.k := fun x => lt_irrefl _ (x ▸ hlt)
      rw [hb, decide_eq_false hne]
      obtain ⟨i1, i2⟩ := ins_false c hr
      simp only [Bool.not_true, Bool.and_false, Bool.false_eq_true, if_false, List.nil_append, Bool.or_false]
      refine ⟨List.pairwise_cons.2 ⟨fun q hq => ?_, i1⟩, fun k => ?_⟩
      · rcases ins_keys c r false q hq with hk | hm
        · show Lt e.k q.k; rw [hk]; exact hlt
        · exact hl q hm
      · show look (e :: insO c false r) k = _
        rw [look_cons, look_cons, i2 k]
        by_cases hk : k = e.k
        · rw [if_pos hk, if_pos hk, if_neg (by rw [hk]; exact hne)]
        · rw [if_neg hk, if_neg hk]
    · have hb : lessB e.1 c.key = false := by rw [Bool.eq_false_iff]; exact fun x => hlt ((less_iff e c).1 x)
      rw [hb]
      simp only [Bool.not_false, Bool.and_self, if_true, Bool.or_true]
      rw [ins_true]
      have hfil : (if decide (e.k = c.k) = true then [] else [e]) ++ r.filter (fun e => !decide (e.k = c.k)) = (e :: r).filter fun e => !decide (e.k = c.k) := by
        rw [List.filter_cons]
        by_cases hk : e.k = c.k <;> simp [hk]
      rw [List.append_assoc, hfil]
      refine ⟨List.pairwise_cons.2 ⟨fun q hq => ?_, h.sublist List.filter_sublist⟩, fun k => ?_⟩
      · obtain ⟨hm, hk⟩ := List.mem_filter.1 hq
        have hk : ¬ q.k = c.k := by simpa using hk
        show Lt c.k q.k
        rcases lt_tri c.k q.k with x | x | x
        · exact x
        · exact absurd x.symm hk
        · rcases List.mem_cons.1 hm with rfl | hm
          · exact absurd x hlt
          · exact absurd (lt_trans' _ _ _ (hl q hm) x) hlt
      · show look ((c.key, c.value) :: (e :: r).filter fun e => !decide (e.k = c.k)) k = _
        rw [look_cons, look_filter]
        by_cases hk : k = c.k
        · rw [if_pos hk, if_pos (show k = Pair.k (c.key, c.value) from hk)]
        · rw [if_neg hk, if_neg (show ¬ k = Pair.k (c.key, c.value) from hk), if_neg hk]
theorem one_law (l : List Pair) (c : Chg) (h : Rises l) : Rises (oneL l c) ∧ ∀ k, look (oneL l c) k = lastC k (look l k) c := by
  rw [one_ins]
  cases hg : c.gone with
  | true =>
    rw [ins_true]
    refine ⟨h.sublist List.filter_sublist, fun k => ?_⟩
    rw [look_filter]; unfold lastC; rw [hg]; rfl
  | false =>
    obtain ⟨h1, h2⟩ := ins_false c h
    refine ⟨h1, fun k => ?_⟩
    rw [h2]; unfold lastC; rw [hg]; rfl
theorem ones_law : ∀ (cs : List Chg) (l : List Pair), Rises l → Rises (cs.foldl oneL l) ∧ ∀ k, look (cs.foldl oneL l) k = cs.foldl (lastC k) (look l k)
  | [], l, h => ⟨h, fun _ => rfl⟩
  | c :: r, l, h => by
    obtain ⟨h1, h2⟩ := one_law l c h
    obtain ⟨h3, h4⟩ := ones_law r _ h1
    exact ⟨h3, fun k => by rw [List.foldl_cons, List.foldl_cons, h4, h2]⟩
/-- One change behind the other is all changes. -/
theorem ones_after {l : List Pair} (h : checkN l = 0) (cs : List Chg) : cs.foldl oneL l = sortM (applyM l cs) := by
  obtain ⟨h1, h2⟩ := ones_law cs l (check_ok h).rise
  refine rises_ext h1 (sortM_rises (apply_nodup _ _)) fun k => ?_
  rw [h2, look_after h]
theorem one_len (l : List Pair) (c : Chg) : (oneL l c).length ≤ l.length + 1 := by
  have : ∀ (l : List Pair) (p : Bool), (insO c p l).length ≤ l.length + (if p then 0 else 1) := fun l => by
    induction l with
    | nil => intro p; cases p <;> simp [insO]
    | cons e r ih =>
      intro p
      rw [insO, List.length_append, List.length_append, List.length_cons]
      have := ih (p || (!p && !lessB e.1 c.key))
      cases p <;> cases lessB e.1 c.key <;> cases (e.1.toList == c.key.toList) <;> simp at * <;> omega
  rw [one_ins]
  have := this l c.gone
  split at this <;> omega
theorem ones_len : ∀ (cs : List Chg) (l : List Pair), (cs.foldl oneL l).length ≤ l.length + cs.length
  | [], l => by simp
  | c :: r, l => by
    rw [List.foldl_cons, List.length_cons]
    have := ones_len r (oneL l c)
    have := one_len l c
    omega
theorem one_small {l : List Pair} {c : Chg} (h : SmallP l) (hc : c.key.size ≤ 9223372036854775807 ∧ c.value.size ≤ 9223372036854775807) : SmallP (oneL l c) := by
  rw [one_ins]
  have : ∀ (l : List Pair) (p : Bool), SmallP l → SmallP (insO c p l) := fun l => by
    induction l with
    | nil =>
      intro p _ q hq
      unfold insO at hq
      cases p
      · simp at hq; subst hq; exact hc
      · simp at hq
    | cons e r ih =>
      intro p hs q hq
      rw [insO] at hq
      rcases List.mem_append.1 hq with hq | hq
      · rcases List.mem_append.1 hq with hq | hq
        · split at hq
          · simp at hq; subst hq; exact hc
          · cases hq
        · split at hq
          · cases hq
          · simp at hq; subst hq; exact hs _ List.mem_cons_self
      · exact ih _ (fun x hx => hs x (List.mem_cons_of_mem _ hx)) q hq
  exact this l _ h
end
end Go.Proofs.YtolhikjjchfnjaaGreatDoor
/- reference 05: one. -/
namespace Go.Proofs.YtolhikjjchfnjaaGreatDoor
section
open Go Go.RowKit
set_option linter.unusedSimpArgs false
set_option linter.unusedVariables false

theorem run_len (c : Chg) (l : List Pair) : (runO c l).1.length ≤ 2 * l.length := by
  have : ∀ (l : List Pair) (s : List Pair × Bool), (l.foldl (stepO c) s).1.length ≤ s.1.length + 2 * l.length := fun l => by
    induction l with
    | nil => intro s; simp
    | cons e r ih =>
      intro s
      rw [List.foldl_cons, List.length_cons]
      have h := ih (stepO c s e)
      have h2 : (stepO c s e).1.length ≤ s.1.length + 2 := by
        unfold stepO
        simp only
        rw [List.length_append]
        split <;> split <;> simp <;> omega
      omega
  have := this l ([], c.gone)
  rw [List.length_nil, Nat.zero_add] at this
  exact this
theorem run_step {c : Chg} {l : List Pair} {i : Nat} {p : Pair} (h : l[i]? = some p) : runO c (l.take (i + 1)) = stepO c (runO c (l.take i)) p := by
  unfold runO; rw [List.take_add_one, h, List.foldl_append]; rfl
def OnRel (w1 : World) (l : List Pair) (c : Chg) (ov pv iv : Value) (wr : World) : Prop := ∃ i : Nat, i ≤ l.length ∧ iv = .int .i64 i ∧ pv = .bool (runO c (l.take i)).2 ∧ ERow w1 wr ov (runO c (l.take i)).1.length (runO c (l.take i)).1
set_option maxRecDepth 100000 in
set_option maxHeartbeats 8000000 in
theorem one5_c (w : World) (v : Value) (l : List Pair) (c : Chg) (hv : RdP w v l) (hn : l.length ≤ 1000) (hs : SmallP l) (hc : c.key.size ≤ 9223372036854775807 ∧ c.value.size ≤ 9223372036854775807) :
    Calls Tryz.prog 52 #[v, .agg #[.string c.key, .string c.value, .bool c.gone]] w fun e w' => ∃ r, e = .returned r ∧ ERow w w' r (oneL l c).length (oneL l c) := by
  have HV := Lib.hid hv
  have HS := Lib.hid hs
  have HCS := Lib.hid hc
  obtain ⟨a, c0, hsl⟩ := hv.sl
  subst hsl
  clear hv hs hc
  obtain ⟨w1, hw1⟩ : ∃ w1, w1 = w.alloc (.cells #[.string c.key, .string c.value, .bool c.gone] 49) := ⟨_, rfl⟩
  obtain ⟨bc, hbc⟩ : ∃ b, b = w.heap.size := ⟨_, rfl⟩
  have HBC := Lib.hid (show Blk w1 bc (.cells #[.string c.key, .string c.value, .bool c.gone] 49) by rw [hw1, hbc]; exact Blk.new w _)
  have HE1 := Lib.hid (show Ext w w1 by rw [hw1]; exact (ExtR w).alloc _)
  have k2 := HBC.out.cell (i := 2) (v := .bool c.gone) (by rfl)
  have hn0 : (runO c (l.take 0)) = ([], c.gone) := rfl
  go_enter Tryz.func52, Tryz.ntmps52
  go_wp2_with fail
  rw [← hw1, ← hbc]
  clear hw1 hbc
  go_wp2_with fail
  go_loopw [5, 6, 7] (fun ov pv iv wr => OnRel w1 l c ov pv iv wr) (fun _ _ iv _ => l.length - (intOf iv).toNat)
  case atStart => exact ⟨0, by omega, rfl, rfl, ORow.nil _ _ (ExtR w1)⟩
  case round =>
    obtain ⟨i, hi, rfl, rfl, hR⟩ := hrel
    obtain ⟨s, hss⟩ : ∃ s, s = runO c (l.take i) := ⟨_, rfl⟩
    have hsl := run_len c (l.take i)
    rw [List.length_take] at hsl
    rw [← hss] at hR hsl ⊢
    have HSS0 := Lib.hid hss
    obtain ⟨o0, p0⟩ := s
    simp only at hR hsl ⊢
    obtain ⟨a2, c2, rfl⟩ := hR.sl
    have HR := Lib.hid hR
    have k0 := cell_ext (HBC.out.cell (i := 0) (v := .string c.key) (by rfl)) hR.ext
    have k1 := cell_ext (HBC.out.cell (i := 1) (v := .string c.value) (by rfl)) hR.ext
    clear hss hR k2
    by_cases hlt : i < l.length
    · have b1 : (i : Int) < (l.length : Int) := by omega
      rcases HV.out with ⟨_, _, _, h0⟩ | ⟨b, o, c1, hh, hb, hcc, hcell⟩
      · rw [h0] at hlt; cases hlt
      cases hh
      obtain ⟨p, hp⟩ : ∃ p, l[i]? = some p := ⟨_, List.getElem?_eq_getElem hlt⟩
      obtain ⟨q1, q2⟩ := hcell i p hp
      have HQ1 := Lib.hid (cell_ext q1 HE1.out)
      have HQ2 := Lib.hid (cell_ext q2 HE1.out)
      have hsp := (HS.out p (List.mem_of_getElem? hp)).1
      have HST := Lib.hid (run_step (c := c) hp)
      obtain ⟨x, y⟩ := p
      simp only at HQ1 HQ2 hsp
      have q1 := cell_ext HQ1.out HR.out.ext
      have q2 := cell_ext HQ2.out HR.out.ext
      have HSS := Lib.hid (show runO c (l.take i) = (o0, p0) from HSS0.out.symm)
      have HAH := Lib.hid (fun w1 => ahead_c w1 x c.key hsp HCS.out.1)
      clear hcell hp hb hcc
      cases p0 with
      | true =>
        obtain ⟨m, hmm⟩ : ∃ m, m = o0 := ⟨_, rfl⟩
        subst hmm
        go_wp2_with fail
        refine wp_region_mixK [0,1,2,3,4,5,6,7,8,9,10,11,12] Ext ExtR ExtT (by kernel_rfl) (by kernel_rfl) (by kernel_rfl) ?_
        iterate 3 (refine mixk_pure _ rfl (by kernel_rfl) rfl rfl (fun K hK => ?_); go_big_quiet_op; refine hK _ ?_; clear hK K)
        iterate 9 (refine mixk_skip _ rfl (by kernel_rfl) rfl ?_; simp only [Act.put, List.setIfInBounds_toArray, List.set_cons_zero, List.set_cons_succ])
        iterate 1 (refine mixk_pure _ rfl (by kernel_rfl) rfl rfl (fun K hK => ?_); go_big_quiet_op; refine hK _ ?_; clear hK K)
        refine mixk_end (by kernel_rfl) (fun w3 he => ?_)
        have hx3 := (drewE _).trans he
        have HR3 := Lib.hid (HR.out.mono hx3)
        have q1 := cell_ext q1 hx3
        have q2 := cell_ext q2 hx3
        have k0 := cell_ext k0 hx3
        clear he hx3
        cases hkk : (x.toList == c.key.toList) with
        | true =>
          have HST2 := Lib.hid (show runO c (l.take (i + 1)) = (m, true) by rw [HST.out]; unfold stepO; simp only; rw [HSS.out]; simp only [Bool.not_true, Bool.false_and, Bool.or_false, Bool.true_or, Bool.false_eq_true, if_false]; rw [hkk]; simp)
          go_wp2_with fail
          refine wp_region_mixK [0,1,2,3,4,5,6,7] Ext ExtR ExtT (by kernel_rfl) (by kernel_rfl) (by kernel_rfl) ?_
          iterate 4 (refine mixk_pure _ rfl (by kernel_rfl) rfl rfl (fun K hK => ?_); go_big_quiet_op; refine hK _ ?_; clear hK K)
          refine mixk_load ⟨b, o + i * 2, none⟩ _ rfl (by kernel_rfl) rfl rfl (fun w1 h1 => run_load_plain Tryz.uStr rfl (cell_ext q1 ((drewE _).trans h1))) ?_
          simp only [Act.put, List.setIfInBounds_toArray, List.set_cons_zero, List.set_cons_succ]
          iterate 1 (refine mixk_pure _ rfl (by kernel_rfl) rfl rfl (fun K hK => ?_); go_big_quiet_op; refine hK _ ?_; clear hK K)
          refine mixk_load ⟨bc, 0, none⟩ _ rfl (by kernel_rfl) rfl rfl (fun w1 h1 => run_load_plain Tryz.uStr rfl (cell_ext k0 ((drewE _).trans h1))) ?_
          simp only [Act.put, List.setIfInBounds_toArray, List.set_cons_zero, List.set_cons_succ]
          iterate 1 (refine mixk_pure _ rfl (by kernel_rfl) rfl rfl (fun K hK => ?_); go_big_quiet_op; refine hK _ ?_; clear hK K)
          refine mixk_end (by kernel_rfl) (fun w4 he => ?_)
          have hx4 := (drewE _).trans he
          have HR4 := Lib.hid (HR3.out.mono hx4)
          have q1 := cell_ext q1 hx4
          have q2 := cell_ext q2 hx4
          clear he hx4
          clear hkk
          go_wp2_with fail
          go_roundw
          case rel => exact ⟨i + 1, by omega, by go_num, by rw [HST2.out], by rw [HST2.out]; exact HR4.out⟩
          case measure => simp [intOf]; omega
        | false =>
          have HST2 := Lib.hid (show runO c (l.take (i + 1)) = (m ++ [(x, y)], true) by rw [HST.out]; unfold stepO; simp only; rw [HSS.out]; simp only [Bool.not_true, Bool.false_and, Bool.or_false, Bool.true_or, Bool.false_eq_true, if_false]; rw [hkk]; simp)
          go_wp2_with fail
          refine wp_region_mixK [0,1,2,3,4,5,6,7] Ext ExtR ExtT (by kernel_rfl) (by kernel_rfl) (by kernel_rfl) ?_
          iterate 4 (refine mixk_pure _ rfl (by kernel_rfl) rfl rfl (fun K hK => ?_); go_big_quiet_op; refine hK _ ?_; clear hK K)
          refine mixk_load ⟨b, o + i * 2, none⟩ _ rfl (by kernel_rfl) rfl rfl (fun w1 h1 => run_load_plain Tryz.uStr rfl (cell_ext q1 ((drewE _).trans h1))) ?_
          simp only [Act.put, List.setIfInBounds_toArray, List.set_cons_zero, List.set_cons_succ]
          iterate 1 (refine mixk_pure _ rfl (by kernel_rfl) rfl rfl (fun K hK => ?_); go_big_quiet_op; refine hK _ ?_; clear hK K)
          refine mixk_load ⟨bc, 0, none⟩ _ rfl (by kernel_rfl) rfl rfl (fun w1 h1 => run_load_plain Tryz.uStr rfl (cell_ext k0 ((drewE _).trans h1))) ?_
          simp only [Act.put, List.setIfInBounds_toArray, List.set_cons_zero, List.set_cons_succ]
          iterate 1 (refine mixk_pure _ rfl (by kernel_rfl) rfl rfl (fun K hK => ?_); go_big_quiet_op; refine hK _ ?_; clear hK K)
          refine mixk_end (by kernel_rfl) (fun w4 he => ?_)
          have hx4 := (drewE _).trans he
          have HR4 := Lib.hid (HR3.out.mono hx4)
          have q1 := cell_ext q1 hx4
          have q2 := cell_ext q2 hx4
          clear he hx4
          clear hkk
          have hm3 : m.length + 1 ≤ maxLen := by unfold maxLen; omega
          have hm4 : (m.length + 1) * 32 ≤ 140737488355328 := by omega
          go_wp2_with (at_builtin; refine wpList_app Tryz.sEnts (HR4.out.mono ((ExtR w4).alloc _)) (.tmp 45) (.tmp 50) rfl rfl rfl (news_blk (Blk.new w4 _)) (news := [.string x, .string y]) (by intro u hu; simp at hu; rcases hu with rfl | rfl <;> rfl) rfl rfl hm3 hm4 ?_; intro v5 w5 r1 r2 r3)
          have r1' : ERow w1 w5 v5 (m ++ [(x, y)]).length (m ++ [(x, y)]) := by unfold ERow; rw [cellsP_append, List.length_append]; exact r1
          obtain ⟨a5, c5, rfl⟩ := r1'.sl
          have HR5 := Lib.hid r1'
          clear r1 r2 r3 r1'
          go_wp2_with fail
          go_roundw
          case rel => exact ⟨i + 1, by omega, by go_num, by rw [HST2.out], by rw [HST2.out]; exact HR5.out⟩
          case measure => simp [intOf]; omega
      | false =>
        cases hls : lessB x c.key with
        | true =>
          rw [hls] at HAH
          obtain ⟨m, hmm⟩ : ∃ m, m = o0 := ⟨_, rfl⟩
          subst hmm
          go_wp2_with fail
          refine wp_region_mixK [0,1,2,3,4,5,6,7,8,9,10,11,12] Ext ExtR ExtT (by kernel_rfl) (by kernel_rfl) (by kernel_rfl) ?_
          iterate 7 (refine mixk_pure _ rfl (by kernel_rfl) rfl rfl (fun K hK => ?_); go_big_quiet_op; refine hK _ ?_; clear hK K)
          refine mixk_load ⟨b, o + i * 2, none⟩ _ rfl (by kernel_rfl) rfl rfl (fun w1 h1 => run_load_plain Tryz.uStr rfl (cell_ext q1 ((drewE _).trans h1))) ?_
          simp only [Act.put, List.setIfInBounds_toArray, List.set_cons_zero, List.set_cons_succ]
          iterate 1 (refine mixk_pure _ rfl (by kernel_rfl) rfl rfl (fun K hK => ?_); go_big_quiet_op; refine hK _ ?_; clear hK K)
          refine mixk_load ⟨bc, 0, none⟩ _ rfl (by kernel_rfl) rfl rfl (fun w1 h1 => run_load_plain Tryz.uStr rfl (cell_ext k0 ((drewE _).trans h1))) ?_
          simp only [Act.put, List.setIfInBounds_toArray, List.set_cons_zero, List.set_cons_succ]
          refine mixk_call _ 39 #[.string x, .string c.key] (.bool true) rfl (by kernel_rfl) rfl (fun w1 => exec_call Tryz.enterAhead (by kernel_rfl)) (fun w1 h1 => HAH.out w1) ?_
          simp only [Act.put, List.setIfInBounds_toArray, List.set_cons_zero, List.set_cons_succ]
          iterate 2 (refine mixk_pure _ rfl (by kernel_rfl) rfl rfl (fun K hK => ?_); go_big_quiet_op; refine hK _ ?_; clear hK K)
          refine mixk_end (by kernel_rfl) (fun w3 he => ?_)
          have hx3 := (drewE _).trans he
          have HR3 := Lib.hid (HR.out.mono hx3)
          have q1 := cell_ext q1 hx3
          have q2 := cell_ext q2 hx3
          have k0 := cell_ext k0 hx3
          clear he hx3
          cases hkk : (x.toList == c.key.toList) with
          | true =>
            have HST2 := Lib.hid (show runO c (l.take (i + 1)) = (m, false) by rw [HST.out]; unfold stepO; simp only; rw [HSS.out]; simp only [hls, Bool.not_true, Bool.and_false, Bool.or_false, Bool.false_eq_true, if_false]; rw [hkk]; simp)
            go_wp2_with fail
            refine wp_region_mixK [0,1,2,3,4,5,6,7] Ext ExtR ExtT (by kernel_rfl) (by kernel_rfl) (by kernel_rfl) ?_
            iterate 4 (refine mixk_pure _ rfl (by kernel_rfl) rfl rfl (fun K hK => ?_); go_big_quiet_op; refine hK _ ?_; clear hK K)
            refine mixk_load ⟨b, o + i * 2, none⟩ _ rfl (by kernel_rfl) rfl rfl (fun w1 h1 => run_load_plain Tryz.uStr rfl (cell_ext q1 ((drewE _).trans h1))) ?_
            simp only [Act.put, List.setIfInBounds_toArray, List.set_cons_zero, List.set_cons_succ]
            iterate 1 (refine mixk_pure _ rfl (by kernel_rfl) rfl rfl (fun K hK => ?_); go_big_quiet_op; refine hK _ ?_; clear hK K)
            refine mixk_load ⟨bc, 0, none⟩ _ rfl (by kernel_rfl) rfl rfl (fun w1 h1 => run_load_plain Tryz.uStr rfl (cell_ext k0 ((drewE _).trans h1))) ?_
            simp only [Act.put, List.setIfInBounds_toArray, List.set_cons_zero, List.set_cons_succ]
            iterate 1 (refine mixk_pure _ rfl (by kernel_rfl) rfl rfl (fun K hK => ?_); go_big_quiet_op; refine hK _ ?_; clear hK K)
            refine mixk_end (by kernel_rfl) (fun w4 he => ?_)
            have hx4 := (drewE _).trans he
            have HR4 := Lib.hid (HR3.out.mono hx4)
            have q1 := cell_ext q1 hx4
            have q2 := cell_ext q2 hx4
            clear he hx4
            clear hkk
            go_wp2_with fail
            go_roundw
            case rel => exact ⟨i + 1, by omega, by go_num, by rw [HST2.out], by rw [HST2.out]; exact HR4.out⟩
            case measure => simp [intOf]; omega
          | false =>
            have HST2 := Lib.hid (show runO c (l.take (i + 1)) = (m ++ [(x, y)], false) by rw [HST.out]; unfold stepO; simp only; rw [HSS.out]; simp only [hls, Bool.not_true, Bool.and_false, Bool.or_false, Bool.false_eq_true, if_false]; rw [hkk]; simp)
            go_wp2_with fail
            refine wp_region_mixK [0,1,2,3,4,5,6,7] Ext ExtR ExtT (by kernel_rfl) (by kernel_rfl) (by kernel_rfl) ?_
            iterate 4 (refine mixk_pure _ rfl (by kernel_rfl) rfl rfl (fun K hK => ?_); go_big_quiet_op; refine hK _ ?_; clear hK K)
            refine mixk_load ⟨b, o + i * 2, none⟩ _ rfl (by kernel_rfl) rfl rfl (fun w1 h1 => run_load_plain Tryz.uStr rfl (cell_ext q1 ((drewE _).trans h1))) ?_
            simp only [Act.put, List.setIfInBounds_toArray, List.set_cons_zero, List.set_cons_succ]
            iterate 1 (refine mixk_pure _ rfl (by kernel_rfl) rfl rfl (fun K hK => ?_); go_big_quiet_op; refine hK _ ?_; clear hK K)
            refine mixk_load ⟨bc, 0, none⟩ _ rfl (by kernel_rfl) rfl rfl (fun w1 h1 => run_load_plain Tryz.uStr rfl (cell_ext k0 ((drewE _).trans h1))) ?_
            simp only [Act.put, List.setIfInBounds_toArray, List.set_cons_zero, List.set_cons_succ]
            iterate 1 (refine mixk_pure _ rfl (by kernel_rfl) rfl rfl (fun K hK => ?_); go_big_quiet_op; refine hK _ ?_; clear hK K)
            refine mixk_end (by kernel_rfl) (fun w4 he => ?_)
            have hx4 := (drewE _).trans he
            have HR4 := Lib.hid (HR3.out.mono hx4)
            have q1 := cell_ext q1 hx4
            have q2 := cell_ext q2 hx4
            clear he hx4
            clear hkk
            have hm3 : m.length + 1 ≤ maxLen := by unfold maxLen; omega
            have hm4 : (m.length + 1) * 32 ≤ 140737488355328 := by omega
            go_wp2_with (at_builtin; refine wpList_app Tryz.sEnts (HR4.out.mono ((ExtR w4).alloc _)) (.tmp 45) (.tmp 50) rfl rfl rfl (news_blk (Blk.new w4 _)) (news := [.string x, .string y]) (by intro u hu; simp at hu; rcases hu with rfl | rfl <;> rfl) rfl rfl hm3 hm4 ?_; intro v5 w5 r1 r2 r3)
            have r1' : ERow w1 w5 v5 (m ++ [(x, y)]).length (m ++ [(x, y)]) := by unfold ERow; rw [cellsP_append, List.length_append]; exact r1
            obtain ⟨a5, c5, rfl⟩ := r1'.sl
            have HR5 := Lib.hid r1'
            clear r1 r2 r3 r1'
            go_wp2_with fail
            go_roundw
            case rel => exact ⟨i + 1, by omega, by go_num, by rw [HST2.out], by rw [HST2.out]; exact HR5.out⟩
            case measure => simp [intOf]; omega
        | false =>
          rw [hls] at HAH
          go_wp2_with fail
          refine wp_region_mixK [0,1,2,3,4,5,6,7,8,9,10,11,12] Ext ExtR ExtT (by kernel_rfl) (by kernel_rfl) (by kernel_rfl) ?_
          iterate 7 (refine mixk_pure _ rfl (by kernel_rfl) rfl rfl (fun K hK => ?_); go_big_quiet_op; refine hK _ ?_; clear hK K)
          refine mixk_load ⟨b, o + i * 2, none⟩ _ rfl (by kernel_rfl) rfl rfl (fun w1 h1 => run_load_plain Tryz.uStr rfl (cell_ext q1 ((drewE _).trans h1))) ?_
          simp only [Act.put, List.setIfInBounds_toArray, List.set_cons_zero, List.set_cons_succ]
          iterate 1 (refine mixk_pure _ rfl (by kernel_rfl) rfl rfl (fun K hK => ?_); go_big_quiet_op; refine hK _ ?_; clear hK K)
          refine mixk_load ⟨bc, 0, none⟩ _ rfl (by kernel_rfl) rfl rfl (fun w1 h1 => run_load_plain Tryz.uStr rfl (cell_ext k0 ((drewE _).trans h1))) ?_
          simp only [Act.put, List.setIfInBounds_toArray, List.set_cons_zero, List.set_cons_succ]
          refine mixk_call _ 39 #[.string x, .string c.key] (.bool false) rfl (by kernel_rfl) rfl (fun w1 => exec_call Tryz.enterAhead (by kernel_rfl)) (fun w1 h1 => HAH.out w1) ?_
          simp only [Act.put, List.setIfInBounds_toArray, List.set_cons_zero, List.set_cons_succ]
          iterate 2 (refine mixk_pure _ rfl (by kernel_rfl) rfl rfl (fun K hK => ?_); go_big_quiet_op; refine hK _ ?_; clear hK K)
          refine mixk_end (by kernel_rfl) (fun w3 he => ?_)
          have hx3 := (drewE _).trans he
          have HR3 := Lib.hid (HR.out.mono hx3)
          have k0 := cell_ext k0 hx3
          have k1 := cell_ext k1 hx3
          clear he hx3 q1 q2
          have hm1 : o0.length + 1 ≤ maxLen := by unfold maxLen; omega
          have hm2 : (o0.length + 1) * 32 ≤ 140737488355328 := by omega
          go_wp2_with (at_builtin; refine wpList_app Tryz.sEnts (HR3.out.mono ((ExtR w3).alloc _)) (.tmp 29) (.tmp 35) rfl rfl rfl (news_blk (Blk.new w3 _)) (news := [.string c.key, .string c.value]) (by intro u hu; simp at hu; rcases hu with rfl | rfl <;> rfl) rfl rfl hm1 hm2 ?_; intro v6 w6 r1 r2 r3)
          obtain ⟨m, hmm⟩ : ∃ m, m = o0 ++ [(c.key, c.value)] := ⟨_, rfl⟩
          have hml : m.length = o0.length + 1 := by rw [hmm]; simp
          have r1' : ERow w1 w6 v6 m.length m := by unfold ERow; rw [hmm, cellsP_append, List.length_append]; exact r1
          have HMM := Lib.hid (show o0 ++ [(c.key, c.value)] = m from hmm.symm)
          obtain ⟨a6, c6, rfl⟩ := r1'.sl
          have HR6 := Lib.hid r1'
          have q1 := cell_ext HQ1.out r1'.ext
          have q2 := cell_ext HQ2.out r1'.ext
          have k0 := cell_ext (HBC.out.cell (i := 0) (v := .string c.key) (by rfl)) r1'.ext
          clear r1 r2 r3 r1' k1 hmm
          have hm5 : m.length ≤ 2 * i + 1 := by omega
          cases hkk : (x.toList == c.key.toList) with
          | true =>
            have HST2 := Lib.hid (show runO c (l.take (i + 1)) = (m, true) by rw [HST.out]; unfold stepO; simp only; rw [HSS.out]; simp only [hls, Bool.not_false, Bool.and_self, Bool.or_true, Bool.false_or, if_true]; rw [hkk]; rw [HMM.out]; simp)
            go_wp2_with fail
            refine wp_region_mixK [0,1,2,3,4,5,6,7] Ext ExtR ExtT (by kernel_rfl) (by kernel_rfl) (by kernel_rfl) ?_
            iterate 4 (refine mixk_pure _ rfl (by kernel_rfl) rfl rfl (fun K hK => ?_); go_big_quiet_op; refine hK _ ?_; clear hK K)
            refine mixk_load ⟨b, o + i * 2, none⟩ _ rfl (by kernel_rfl) rfl rfl (fun w1 h1 => run_load_plain Tryz.uStr rfl (cell_ext q1 ((drewE _).trans h1))) ?_
            simp only [Act.put, List.setIfInBounds_toArray, List.set_cons_zero, List.set_cons_succ]
            iterate 1 (refine mixk_pure _ rfl (by kernel_rfl) rfl rfl (fun K hK => ?_); go_big_quiet_op; refine hK _ ?_; clear hK K)
            refine mixk_load ⟨bc, 0, none⟩ _ rfl (by kernel_rfl) rfl rfl (fun w1 h1 => run_load_plain Tryz.uStr rfl (cell_ext k0 ((drewE _).trans h1))) ?_
            simp only [Act.put, List.setIfInBounds_toArray, List.set_cons_zero, List.set_cons_succ]
            iterate 1 (refine mixk_pure _ rfl (by kernel_rfl) rfl rfl (fun K hK => ?_); go_big_quiet_op; refine hK _ ?_; clear hK K)
            refine mixk_end (by kernel_rfl) (fun w4 he => ?_)
            have hx4 := (drewE _).trans he
            have HR4 := Lib.hid (HR6.out.mono hx4)
            have q1 := cell_ext q1 hx4
            have q2 := cell_ext q2 hx4
            clear he hx4
            clear hkk
            go_wp2_with fail
            go_roundw
            case rel => exact ⟨i + 1, by omega, by go_num, by rw [HST2.out], by rw [HST2.out]; exact HR4.out⟩
            case measure => simp [intOf]; omega
          | false =>
            have HST2 := Lib.hid (show runO c (l.take (i + 1)) = (m ++ [(x, y)], true) by rw [HST.out]; unfold stepO; simp only; rw [HSS.out]; simp only [hls, Bool.not_false, Bool.and_self, Bool.or_true, Bool.false_or, if_true]; rw [hkk]; rw [HMM.out]; simp)
            go_wp2_with fail
            refine wp_region_mixK [0,1,2,3,4,5,6,7] Ext ExtR ExtT (by kernel_rfl) (by kernel_rfl) (by kernel_rfl) ?_
            iterate 4 (refine mixk_pure _ rfl (by kernel_rfl) rfl rfl (fun K hK => ?_); go_big_quiet_op; refine hK _ ?_; clear hK K)
            refine mixk_load ⟨b, o + i * 2, none⟩ _ rfl (by kernel_rfl) rfl rfl (fun w1 h1 => run_load_plain Tryz.uStr rfl (cell_ext q1 ((drewE _).trans h1))) ?_
            simp only [Act.put, List.setIfInBounds_toArray, List.set_cons_zero, List.set_cons_succ]
            iterate 1 (refine mixk_pure _ rfl (by kernel_rfl) rfl rfl (fun K hK => ?_); go_big_quiet_op; refine hK _ ?_; clear hK K)
            refine mixk_load ⟨bc, 0, none⟩ _ rfl (by kernel_rfl) rfl rfl (fun w1 h1 => run_load_plain Tryz.uStr rfl (cell_ext k0 ((drewE _).trans h1))) ?_
            simp only [Act.put, List.setIfInBounds_toArray, List.set_cons_zero, List.set_cons_succ]
            iterate 1 (refine mixk_pure _ rfl (by kernel_rfl) rfl rfl (fun K hK => ?_); go_big_quiet_op; refine hK _ ?_; clear hK K)
            refine mixk_end (by kernel_rfl) (fun w4 he => ?_)
            have hx4 := (drewE _).trans he
            have HR4 := Lib.hid (HR6.out.mono hx4)
            have q1 := cell_ext q1 hx4
            have q2 := cell_ext q2 hx4
            clear he hx4
            clear hkk
            have hm3 : m.length + 1 ≤ maxLen := by unfold maxLen; omega
            have hm4 : (m.length + 1) * 32 ≤ 140737488355328 := by omega
            go_wp2_with (at_builtin; refine wpList_app Tryz.sEnts (HR4.out.mono ((ExtR w4).alloc _)) (.tmp 45) (.tmp 50) rfl rfl rfl (news_blk (Blk.new w4 _)) (news := [.string x, .string y]) (by intro u hu; simp at hu; rcases hu with rfl | rfl <;> rfl) rfl rfl hm3 hm4 ?_; intro v5 w5 r1 r2 r3)
            have r1' : ERow w1 w5 v5 (m ++ [(x, y)]).length (m ++ [(x, y)]) := by unfold ERow; rw [cellsP_append, List.length_append]; exact r1
            obtain ⟨a5, c5, rfl⟩ := r1'.sl
            have HR5 := Lib.hid r1'
            clear r1 r2 r3 r1'
            go_wp2_with fail
            go_roundw
            case rel => exact ⟨i + 1, by omega, by go_num, by rw [HST2.out], by rw [HST2.out]; exact HR5.out⟩
            case measure => simp [intOf]; omega
    · have hil : i = l.length := by omega
      have b1 : ¬ (i : Int) < (l.length : Int) := by omega
      have HRUN := Lib.hid (show runO c l = (o0, p0) by have h := HSS0.out; rw [hil, List.take_length] at h; exact h.symm)
      cases p0 with
      | true =>
        have HF := Lib.hid (show oneL l c = o0 by unfold oneL; rw [HRUN.out]; rfl)
        clear hil
        go_wp2_with fail
        go_ret
        refine ⟨_, rfl, ?_⟩
        rw [HF.out]
        exact ⟨⟨_, _, rfl⟩, HR.out.own, HE1.out.trans HR.out.ext, fun b hb => Nat.le_trans HE1.out.size (HR.out.new b hb)⟩
      | false =>
        have HF := Lib.hid (show oneL l c = o0 ++ [(c.key, c.value)] by unfold oneL; rw [HRUN.out]; rfl)
        have hm1 : o0.length + 1 ≤ maxLen := by unfold maxLen; omega
        have hm2 : (o0.length + 1) * 32 ≤ 140737488355328 := by omega
        clear hil
        go_wp2_with (at_builtin; refine wpList_app Tryz.sEnts (HR.out.mono ((ExtR wr).alloc _)) (.tmp 54) (.tmp 60) rfl rfl rfl (news_blk (Blk.new wr _)) (news := [.string c.key, .string c.value]) (by intro u hu; simp at hu; rcases hu with rfl | rfl <;> rfl) rfl rfl hm1 hm2 ?_; intro v6 w6 r1 r2 r3)
        have r1' : ERow w1 w6 v6 (oneL l c).length (oneL l c) := by unfold ERow; rw [HF.out, cellsP_append, List.length_append]; exact r1
        obtain ⟨a6, c6, rfl⟩ := r1'.sl
        have HR6 := Lib.hid r1'
        clear r1 r2 r3 r1'
        go_wp2_with fail
        go_ret
        refine ⟨_, rfl, ?_⟩
        exact ⟨⟨_, _, rfl⟩, HR6.out.own, HE1.out.trans HR6.out.ext, fun b hb => Nat.le_trans HE1.out.size (HR6.out.new b hb)⟩
end
end Go.Proofs.YtolhikjjchfnjaaGreatDoor
/- reference 05: Find, Apply, SameChanges. -/
namespace Go.Proofs.YtolhikjjchfnjaaGreatDoor
section
open Go Go.RowKit
set_option linter.unusedSimpArgs false
set_option linter.unusedVariables false

def RfRel5 (w : World) (l : List Pair) (k : ByteArray) (iv : Value) (wr : World) : Prop := ∃ i : Nat, i ≤ l.length ∧ iv = .int .i64 i ∧ Ext w wr ∧ look (l.take i) k.data.toList = none
theorem look_app (k : List UInt8) : ∀ a b : List Pair, look (a ++ b) k = (look a k).or (look b k)
  | [], b => by rw [look_nil]; simp
  | q :: a, b => by
    rw [List.cons_append, look_cons, look_cons, look_app k a b]
    split <;> rfl
set_option maxRecDepth 100000 in
set_option maxHeartbeats 4000000 in
theorem rfind_c (w : World) (v : Value) (l : List Pair) (k : ByteArray) (hv : RdP w v l) (hn : l.length ≤ 1000000) : Calls Tryz.prog 26 #[v, .string k] w fun e w' => e = .returned (optV (look l k.data.toList)) ∧ Ext w w' := by
  have HV := Lib.hid hv
  obtain ⟨a, c, hsl⟩ := hv.sl
  subst hsl
  clear hv
  obtain ⟨R, hR⟩ : ∃ R, R = optV (look l k.data.toList) := ⟨_, rfl⟩
  rw [← hR]
  have HR := Lib.hid hR
  clear hR
  go_enter Tryz.func26, Tryz.ntmps26
  go_wp2_with fail
  go_loopw [6] (fun iv wr => RfRel5 w l k iv wr) (fun iv _ => l.length - (intOf iv).toNat)
  case atStart => exact ⟨0, by omega, rfl, ExtR w, rfl⟩
  case round =>
    obtain ⟨i, hi, rfl, hE, hno⟩ := hrel
    have HE := Lib.hid hE
    have HNO := Lib.hid hno
    clear hE hno
    by_cases hlt : i < l.length
    · have b1 : (i : Int) < (l.length : Int) := by omega
      rcases HV.out with ⟨_, _, _, h0⟩ | ⟨b, o, c1, hh, hb, hcc, hcell⟩
      · rw [h0] at hlt; cases hlt
      cases hh
      obtain ⟨p, hp⟩ : ∃ p, l[i]? = some p := ⟨_, List.getElem?_eq_getElem hlt⟩
      obtain ⟨q1, q2⟩ := hcell i p hp
      have q1 := cell_ext q1 HE.out
      have q2 := cell_ext q2 HE.out
      have HP := Lib.hid hp
      obtain ⟨x, y⟩ := p
      simp only at q1 q2
      have hkb := key_beq x k
      clear hcell hb hcc hp
      have hspl : l = l.take i ++ (x, y) :: l.drop (i + 1) := by
        obtain ⟨h1, e1⟩ := List.getElem?_eq_some_iff.1 HP.out
        rw [← e1, ← List.drop_eq_getElem_cons h1, List.take_append_drop]
      have HSPL := Lib.hid hspl
      clear hspl
      by_cases hxk : k.data.toList = x.data.toList
      · rw [decide_eq_true hxk] at hkb
        have HF := Lib.hid (show R = optV (some y) by
          rw [HR.out, HSPL.out, look_app, HNO.out, look_cons, if_pos hxk]; rfl)
        clear hxk
        go_wp2_with fail
        go_ret2
        exact ⟨by rw [HF.out]; rfl, HE.out⟩
      · rw [decide_eq_false hxk] at hkb
        have HG := Lib.hid (show look (l.take (i + 1)) k.data.toList = none by
          rw [List.take_add_one, HP.out, look_app, HNO.out]
          show (none : Option ByteArray).or (look [(x, y)] k.data.toList) = none
          rw [look_cons, if_neg hxk]; rfl)
        clear hxk
        go_wp2_with fail
        go_roundw
        case rel => exact ⟨i + 1, by omega, by go_num, HE.out, HG.out⟩
        case measure => simp [intOf]; omega
    · have b1 : ¬ (i : Int) < (l.length : Int) := by omega
      have HF := Lib.hid (show R = optV none by rw [HR.out]; have h := HNO.out; rw [List.take_of_length_le (by omega)] at h; rw [h])
      go_wp2_with fail
      go_ret2
      exact ⟨by rw [HF.out]; rfl, HE.out⟩
def RApplyP (w : World) (l : List Pair) (cs : List Chg) (e : Ending) (w' : World) : Prop :=
  Ext w w' ∧ if applyE l cs = 0 then ∃ r, e = .returned (.tuple #[r, .int .i64 0]) ∧ RdP w' r (sortM (applyM l cs)) else e = .returned (.tuple #[.slice none 0 0, .int .i64 (applyE l cs)])
theorem RApplyP.bad {w w' : World} {l : List Pair} {cs : List Chg} {x : Int} (h : applyE l cs = x) (h0 : x ≠ 0) (he : Ext w w') : RApplyP w l cs (.returned (.tuple #[.slice none 0 0, .int .i64 x])) w' := by
  unfold RApplyP; rw [h, if_neg h0]; exact ⟨he, rfl⟩
def RaRel (w : World) (l : List Pair) (cs : List Chg) (lv iv : Value) (wr : World) : Prop := ∃ i : Nat, i ≤ cs.length ∧ iv = .int .i64 i ∧ Ext w wr ∧ RdP wr lv ((cs.take i).foldl oneL l)
theorem ones_small : ∀ (cs : List Chg) (l : List Pair), SmallP l → SmallC cs → SmallP (cs.foldl oneL l)
  | [], _, h, _ => h
  | c :: r, l, h, hc => ones_small r _ (one_small h (hc c List.mem_cons_self)) fun x hx => hc x (List.mem_cons_of_mem _ hx)
set_option maxRecDepth 100000 in
set_option maxHeartbeats 8000000 in
theorem rapply_c (w : World) (v u : Value) (l : List Pair) (cs : List Chg) (hv : RdP w v l) (hu : RdC w u cs) (hn : l.length ≤ 45) (hnc : cs.length ≤ 45) (hs : SmallP l) (hsc : SmallC cs) :
    Calls Tryz.prog 24 #[v, u] w (RApplyP w l cs) := by
  have HV := Lib.hid hv
  have HU := Lib.hid hu
  have HS := Lib.hid hs
  have HSC := Lib.hid hsc
  obtain ⟨a, c, hsl⟩ := hv.sl
  subst hsl
  obtain ⟨a', c', hsl'⟩ := hu.sl
  subst hsl'
  clear hv hu hs hsc
  go_enter Tryz.func24, Tryz.ntmps24
  go_wp2_with fail
  refine (rcheck_c w _ l HV.out (by omega) HS.out).mono ?_
  rintro e w1 ⟨rfl, hE⟩
  have HE1 := Lib.hid hE
  clear hE
  by_cases hck : checkN l = 0
  case neg =>
    obtain ⟨x, hx⟩ : ∃ x, x = checkN l := ⟨_, rfl⟩
    have HB := Lib.hid (show applyE l cs = x by unfold applyE; rw [if_pos hck, hx])
    rw [← hx] at hck ⊢
    have hne : (x == 0) = false := by simpa using hck
    have hne2 : (x != 0) = true := by simpa using hck
    have HX := Lib.hid hck
    clear hck hx
    go_wp2_with fail
    go_ret2
    exact RApplyP.bad HB.out HX.out HE1.out
  rw [hck]
  have HCK := Lib.hid hck
  clear hck
  go_wp2_with fail
  refine (right_c w1 _ cs (HU.out.ext HE1.out) (by omega) HSC.out).mono ?_
  rintro e w2 ⟨rfl, hE⟩
  have HE2 := Lib.hid (HE1.out.trans hE)
  clear hE HE1
  cases hbd : cs.any Chg.bad with
  | true =>
    have HB := Lib.hid (show applyE l cs = 1 by unfold applyE; rw [if_neg (by rw [HCK.out]; simp), if_pos hbd])
    clear hbd
    go_wp2_with fail
    go_ret2
    exact RApplyP.bad HB.out (by decide) HE2.out
  | false =>
    have HBD := Lib.hid hbd
    clear hbd
    go_wp2_with fail
    go_loopw [0, 7] (fun lv iv wr => RaRel w2 l cs lv iv wr) (fun _ iv _ => cs.length - (intOf iv).toNat)
    case atStart => exact ⟨0, by omega, rfl, ExtR w2, HV.out.ext HE2.out⟩
    case round =>
      obtain ⟨i, hi, rfl, hE, hR⟩ := hrel
      obtain ⟨L, hL⟩ : ∃ L, L = (cs.take i).foldl oneL l := ⟨_, rfl⟩
      rw [← hL] at hR
      obtain ⟨a2, c2, rfl⟩ := hR.sl
      have HX := Lib.hid hE
      have HR := Lib.hid hR
      have HLL := Lib.hid hL
      have hll := ones_len (cs.take i) l
      rw [List.length_take, ← hL] at hll
      have HLS := Lib.hid (show SmallP L by rw [hL]; exact ones_small _ _ HS.out fun x hx => HSC.out x (List.mem_of_mem_take hx))
      clear hE hR hL
      by_cases hlt : i < cs.length
      · have b1 : (i : Int) < (cs.length : Int) := by omega
        rcases HU.out with ⟨_, _, _, h0⟩ | ⟨b, o, c1, hh, hb, hcc, hcell⟩
        · rw [h0] at hlt; cases hlt
        cases hh
        obtain ⟨p, hp⟩ : ∃ p, cs[i]? = some p := ⟨_, List.getElem?_eq_getElem hlt⟩
        obtain ⟨q1, q2, q3⟩ := hcell i p hp
        have q1 := cell_ext q1 (HE2.out.trans HX.out)
        have q2 := cell_ext q2 (HE2.out.trans HX.out)
        have q3 := cell_ext q3 (HE2.out.trans HX.out)
        have HSP := Lib.hid (HSC.out p (List.mem_of_getElem? hp))
        have HST := Lib.hid (show (cs.take (i + 1)).foldl oneL l = oneL L p by rw [List.take_add_one, hp, List.foldl_append, ← HLL.out]; rfl)
        clear hcell hp hb hcc
        go_wp2_with fail
        refine (one5_c wr _ L p HR.out (by omega) HLS.out HSP.out).mono ?_
        rintro e w4 ⟨r4, rfl, hR⟩
        have hx4 := hR.ext
        have HR4 := Lib.hid (ERow.rd hR)
        obtain ⟨a4, c4, rfl⟩ := hR.sl
        have HX4 := Lib.hid (HX.out.trans hx4)
        clear hR hx4 q1 q2 q3
        go_wp2_with fail
        go_roundw
        case rel => exact ⟨i + 1, by omega, by go_num, HX4.out, by rw [HST.out]; exact HR4.out⟩
        case measure => simp [intOf]; omega
      · have b1 : ¬ (i : Int) < (cs.length : Int) := by omega
        have hLs : L = sortM (applyM l cs) := by rw [HLL.out, List.take_of_length_le (by omega), ones_after HCK.out]
        have hlen : L.length = (applyM l cs).length := by rw [hLs, sortM_len]
        have HLS2 := Lib.hid hLs
        have HEE := Lib.hid (HE2.out.trans HX.out)
        clear hLs
        by_cases h40 : 40 < L.length
        · have b2 : (40 : Int) < (L.length : Int) := by omega
          have HB := Lib.hid (show applyE l cs = 12 by unfold applyE; rw [if_neg (by rw [HCK.out]; simp), if_neg (by rw [HBD.out]; simp), if_pos (by omega)])
          clear hlen
          go_wp2_with fail
          go_ret2
          exact RApplyP.bad HB.out (by decide) HEE.out
        · have b2 : ¬ (40 : Int) < (L.length : Int) := by omega
          have HB := Lib.hid (show applyE l cs = 0 by unfold applyE; rw [if_neg (by rw [HCK.out]; simp), if_neg (by rw [HBD.out]; simp), if_neg (by omega)])
          clear hlen
          go_wp2_with fail
          go_ret2
          unfold RApplyP
          rw [if_pos HB.out]
          exact ⟨HEE.out, _, rfl, by rw [← HLS2.out]; exact HR.out⟩
/-! SameChanges, of alike ones. -/
theorem fields3 {d : Option TypeDesc} (h : fieldsB d [(false, 9, 0), (false, 9, 1), (false, 4, 2)] = true) : ∃ f g e : Field, d = some (.struct #[f, g, e]) ∧ (f.name ≠ "_" ∧ f.type = 9 ∧ f.offset = 0) ∧ (g.name ≠ "_" ∧ g.type = 9 ∧ g.offset = 1) ∧ e.name ≠ "_" ∧ e.type = 4 ∧ e.offset = 2 := by
  cases d with
  | none => cases h
  | some d =>
    cases d <;> try (cases h; done)
    rename_i fs
    obtain ⟨l⟩ := fs
    rcases l with _ | ⟨f, _ | ⟨g, _ | ⟨e, _ | ⟨z, r⟩⟩⟩⟩ <;> simp [fieldsB] at h
    obtain ⟨h1, h2, h3⟩ := h
    exact ⟨f, g, e, rfl, h1, h2, h3⟩
theorem Tryz.chgFields : fieldsB (Tryz.prog.underlying 49) [(false, 9, 0), (false, 9, 1), (false, 4, 2)] = true := by kernel_rfl
theorem Tryz.chgHeld : Tryz.prog.stoodInHeld 49 = false := by kernel_rfl
theorem Tryz.boolAgg (w : World) : (isAgg 4).run Tryz.prog w = .ok false w := by kernel_rfl
theorem eqBool (d : Nat) (a b : Bool) (w : World) : (Op.equalIn (d + 1) 4 (.bool a) (.bool b)).run Tryz.prog w = .ok (a == b) w := by
  simp [Op.equalIn, Sem.run_bind, run_underlying Tryz.underlying4, Result.andThen, Sem.run_pure]
theorem same_beq (x : ByteArray) : (x == x) = true := by rw [ba_beq]; simp
set_option maxRecDepth 100000 in
theorem neq_chg (x y : ByteArray) (g : Bool) (w : World) : (binOp .neq 49 (.agg #[.string x, .string y, .bool g]) (.agg #[.string x, .string y, .bool g])).run Tryz.prog w = .ok (.bool false) w := by
  obtain ⟨f, k, e, h0, ⟨h1, h2, h3⟩, ⟨h4, h5, h6⟩, h7, h8, h9⟩ := fields3 Tryz.chgFields
  have hp1 : ∀ (u v z : Value) w, (part 9 #[u, v, z] 0).run Tryz.prog w = .ok u w := fun u v z w => by
    simp [part, Sem.run_bind, Tryz.strAgg, Result.andThen, Sem.run_pure]
  have hp2 : ∀ (u v z : Value) w, (part 9 #[u, v, z] 1).run Tryz.prog w = .ok v w := fun u v z w => by
    simp [part, Sem.run_bind, Tryz.strAgg, Result.andThen, Sem.run_pure]
  have hp3 : ∀ (u v z : Value) w, (part 4 #[u, v, z] 2).run Tryz.prog w = .ok z w := fun u v z w => by
    simp [part, Sem.run_bind, Tryz.boolAgg, Result.andThen, Sem.run_pure]
  have he : ∀ d, (Op.equalIn (d + 2) 49 (.agg #[.string x, .string y, .bool g]) (.agg #[.string x, .string y, .bool g])).run Tryz.prog w = .ok true w := fun d => by
    rw [Op.equalIn]
    simp only [Sem.run_bind, run_underlying h0, Result.andThen]
    simp [Sem.run_bind, Result.andThen, Sem.run, Tryz.chgHeld, h1, h2, h3, h4, h5, h6, h7, h8, h9, hp1, hp2, hp3, eqStr, eqBool, same_beq]
  have he' : (Op.equal 49 (.agg #[.string x, .string y, .bool g]) (.agg #[.string x, .string y, .bool g])).run Tryz.prog w = .ok true w := he 9998
  simp only [binOp, Sem.run_bind, he', Result.andThen, Sem.run_pure]; rfl
theorem Tryz.isChange : isStruct (Tryz.prog.underlying 49) = true := by kernel_rfl
theorem Tryz.szChange : (Tryz.prog.info? 49).map (·.size) = some 3 := by kernel_rfl
set_option maxRecDepth 100000 in
theorem load_chg {w : World} {b o : Nat} {x y : ByteArray} {g : Bool} (h1 : w.cell? ⟨b, o, none⟩ = some (.string x)) (h2 : w.cell? ⟨b, o + 1, none⟩ = some (.string y)) (h3 : w.cell? ⟨b, o + 2, none⟩ = some (.bool g)) : (Instr.loadAt 49 (.pointer (some ⟨b, o, none⟩))).run Tryz.prog w = .ok (.agg #[.string x, .string y, .bool g]) w := by
  obtain ⟨fs, hu⟩ := und_struct Tryz.isChange
  refine run_load_agg (xs := [.string x, .string y, .bool g]) hu Tryz.szChange (fun j v hv => ?_)
  rw [Addr.add_lit]
  match j, hv with
  | 0, hv => simp at hv; subst hv; exact h1
  | 1, hv => simp at hv; subst hv; exact h2
  | 2, hv => simp at hv; subst hv; exact h3
  | j + 3, hv => simp at hv
def ScRel (w : World) (l : List Chg) (v : Value) (wr : World) : Prop := ∃ i : Nat, i ≤ l.length ∧ v = .int .i64 i ∧ Ext w wr
set_option maxRecDepth 100000 in
set_option maxHeartbeats 4000000 in
theorem samec_c (w : World) (v u : Value) (l : List Chg) (hv : RdC w v l) (hu : RdC w u l) (hn : l.length ≤ 1000000) : Calls Tryz.prog 28 #[v, u] w fun e w' => e = .returned (.bool true) ∧ Ext w w' := by
  obtain ⟨a, c, hsl⟩ := hv.sl
  obtain ⟨a', c', hsl'⟩ := hu.sl
  have HV := Lib.hid hv
  have HU := Lib.hid hu
  subst hsl
  subst hsl'
  clear hv hu
  go_enter Tryz.func28, Tryz.ntmps28
  go_wp2_with fail
  go_loopw [5] (fun i wr => ScRel w l i wr) (fun i _ => l.length - (intOf i).toNat)
  case atStart => exact ⟨0, by omega, rfl, ExtR w⟩
  case round =>
    obtain ⟨i, hi, rfl, hE⟩ := hrel
    have HE := Lib.hid hE
    clear hE
    by_cases hlt : i < l.length
    · rcases HV.out with ⟨_, _, _, h0⟩ | ⟨b, o, c1, hh, hb, hc, hcell⟩
      · rw [h0] at hlt; cases hlt
      rcases HU.out with ⟨_, _, _, h0⟩ | ⟨b', o', c2, hh', hb', hc', hcell'⟩
      · rw [h0] at hlt; cases hlt
      cases hh
      cases hh'
      obtain ⟨p, hp⟩ : ∃ p, l[i]? = some p := ⟨_, List.getElem?_eq_getElem hlt⟩
      obtain ⟨q1, q2, q3⟩ := hcell i p hp
      obtain ⟨q4, q5, q6⟩ := hcell' i p hp
      have HLA := Lib.hid (show ∀ w1, Ext wr w1 → (Instr.loadAt 49 (.pointer (some ⟨b, o + i * 3, none⟩))).run Tryz.prog w1 = .ok (.agg #[.string p.key, .string p.value, .bool p.gone]) w1 from fun w1 h1 => load_chg (cell_ext q1 (HE.out.trans h1)) (cell_ext q2 (HE.out.trans h1)) (cell_ext q3 (HE.out.trans h1)))
      have HLB := Lib.hid (show ∀ w1, Ext wr w1 → (Instr.loadAt 49 (.pointer (some ⟨b', o' + i * 3, none⟩))).run Tryz.prog w1 = .ok (.agg #[.string p.key, .string p.value, .bool p.gone]) w1 from fun w1 h1 => load_chg (cell_ext q4 (HE.out.trans h1)) (cell_ext q5 (HE.out.trans h1)) (cell_ext q6 (HE.out.trans h1)))
      have HNP := Lib.hid (fun w => neq_chg p.key p.value p.gone w)
      have b1 : (i : Int) < (l.length : Int) := by omega
      clear hcell hcell' hp q1 q2 q3 q4 q5 q6 hc hc' hb hb'
      go_wp2_with fail
      refine wp_region_mixK [0,1,2,3,4,5,6,7,8] Ext ExtR ExtT (by kernel_rfl) (by kernel_rfl) (by kernel_rfl) ?_
      iterate 3 (refine mixk_pure _ rfl (by kernel_rfl) rfl rfl (fun K hK => ?_); go_big_quiet_op; refine hK _ ?_; clear hK K)
      refine mixk_load ⟨b, o + i * 3, none⟩ _ rfl (by kernel_rfl) rfl rfl (fun w1 h1 => HLA.out w1 ((drewE wr).trans h1)) ?_
      simp only [Act.put, List.setIfInBounds_toArray, List.set_cons_zero, List.set_cons_succ]
      iterate 3 (refine mixk_pure _ rfl (by kernel_rfl) rfl rfl (fun K hK => ?_); go_big_quiet_op; refine hK _ ?_; clear hK K)
      refine mixk_load ⟨b', o' + i * 3, none⟩ _ rfl (by kernel_rfl) rfl rfl (fun w1 h1 => HLB.out w1 ((drewE wr).trans h1)) ?_
      simp only [Act.put, List.setIfInBounds_toArray, List.set_cons_zero, List.set_cons_succ]
      refine mixk_val _ (.bool false) rfl (by kernel_rfl) rfl (fun w1 h1 => exec_bin rfl rfl (by kernel_rfl) (HNP.out w1)) ?_
      simp only [Act.put, List.setIfInBounds_toArray, List.set_cons_zero, List.set_cons_succ]
      refine mixk_end (by kernel_rfl) (fun w3 he => ?_)
      have HE3 := Lib.hid ((HE.out.trans (drewE wr)).trans he)
      clear he
      go_wp2_with fail
      go_roundw
      case rel => exact ⟨i + 1, by omega, by go_num, HE3.out⟩
      case measure => simp [intOf]; omega
    · have b1 : ¬ (i : Int) < (l.length : Int) := by omega
      go_wp2_with fail
      go_ret
      exact ⟨rfl, HE.out⟩
end
end Go.Proofs.YtolhikjjchfnjaaGreatDoor
/- canon: CanonDiffs, its walk. -/
namespace Go.Proofs.YtolhikjjchfnjaaGreatDoor
section
open Go Go.RowKit
set_option linter.unusedSimpArgs false
set_option linter.unusedVariables false
theorem diffN_len {l m : List Pair} (h1 : l.length ≤ 40) (h2 : m.length ≤ 40) : (diffN l m).length ≤ 80 := by
  have key : ∀ l m : List Pair, (diffL l m).length ≤ l.length + m.length := fun l m => by
    fun_induction diffL l m <;> simp only [List.length_cons, List.length_nil] at * <;> omega
  unfold diffN; split
  · have := key l m; omega
  · simp
theorem diff_small {l m : List Pair} (h1 : checkN l = 0) (h2 : checkN m = 0) : SmallC (diffN l m) := by
  have hm := diff_makes h1 h2
  intro c hc
  have hb : c.bad = false := by
    rw [Bool.eq_false_iff]; intro e
    have : (diffN l m).any Chg.bad = true := List.any_eq_true.2 ⟨c, hc, e⟩
    rw [hm.fine] at this; cases this
  unfold Chg.bad keyedB valuedB at hb
  cases hg : c.gone with
  | true =>
    rw [hg] at hb
    simp at hb
    rw [hb.2]
    exact ⟨by omega, by simp⟩
  | false =>
    rw [hg] at hb
    simp at hb
    omega
def BkRel (w w5 : World) (d : List Chg) (bv iv : Value) (wr : World) : Prop := ∃ j : Nat, j ≤ d.length ∧ iv = .int .i64 ((d.length : Int) - 1 - j) ∧ Ext w wr ∧ CRow w5 wr bv j (d.reverse.take j)
set_option maxRecDepth 100000 in
set_option maxHeartbeats 8000000 in
theorem diffs_c (w : World) (hc : Cubes w) (v u : Value) (l m : List Pair) (hv : RdP w v l) (hu : RdP w u m) (hn : l.length ≤ 9223372036854775807) (hnm : m.length ≤ 9223372036854775807) (hs : SmallP l) (hsm : SmallP m) :
    Calls Tryz.prog 6 #[v, u] w fun e w' => e = .returned (.bool true) ∧ Ext w w' := by
  have HC := Lib.hid hc
  have HV := Lib.hid hv
  have HU := Lib.hid hu
  have HS := Lib.hid hs
  have HSM := Lib.hid hsm
  have HN := Lib.hid hn
  have HNM := Lib.hid hnm
  obtain ⟨a, c, hsl⟩ := hv.sl
  subst hsl
  obtain ⟨a', c', hsl'⟩ := hu.sl
  subst hsl'
  clear hc hv hu hs hsm hn hnm
  go_enter Tryz.func6, Tryz.ntmps6
  go_wp2_with fail
  refine (works5_c w HC.out).mono ?_
  rintro e w1 ⟨rfl, hE⟩
  have HE1 := Lib.hid hE
  clear hE
  go_wp2_with fail
  refine (few5_c w1 _ l (HV.out.ext HE1.out) HN.out HS.out).mono ?_
  rintro e w2 ⟨rfl, hE⟩
  have HE2 := Lib.hid (HE1.out.trans hE)
  clear hE HE1
  cases hfl : fewB l with
  | false =>
    clear hfl
    go_wp2_with fail
    go_ret
    exact ⟨rfl, HE2.out⟩
  | true =>
    have hl45 := few_len hfl
    clear hfl
    go_wp2_with fail
    refine (few5_c w2 _ m (HU.out.ext HE2.out) HNM.out HSM.out).mono ?_
    rintro e w3 ⟨rfl, hE⟩
    have HE3 := Lib.hid (HE2.out.trans hE)
    clear hE HE2
    cases hfc : fewB m with
    | false =>
      clear hfc
      go_wp2_with fail
      go_ret
      exact ⟨rfl, HE3.out⟩
    | true =>
      have hm45 := few_len hfc
      clear hfc
      go_wp2_with fail
      refine (check_c w3 _ l (HV.out.ext HE3.out) (by omega) HS.out).mono ?_
      rintro e w4 ⟨rfl, hE⟩
      have HE4 := Lib.hid (HE3.out.trans hE)
      clear hE HE3
      by_cases hcl : checkN l = 0
      case neg =>
        obtain ⟨x, hx⟩ : ∃ x, x = checkN l := ⟨_, rfl⟩
        rw [← hx] at hcl ⊢
        have hne : (x == 0) = false := by simpa using hcl
        have hne2 : (x != 0) = true := by simpa using hcl
        clear hcl hx
        go_wp2_with fail
        go_ret
        exact ⟨rfl, HE4.out⟩
      rw [hcl]
      have HCL := Lib.hid hcl
      clear hcl
      go_wp2_with fail
      refine (check_c w4 _ m (HU.out.ext HE4.out) (by omega) HSM.out).mono ?_
      rintro e w5 ⟨rfl, hE⟩
      have HE5 := Lib.hid (HE4.out.trans hE)
      clear hE HE4
      by_cases hcm : checkN m = 0
      case neg =>
        obtain ⟨x, hx⟩ : ∃ x, x = checkN m := ⟨_, rfl⟩
        rw [← hx] at hcm ⊢
        have hne : (x == 0) = false := by simpa using hcm
        have hne2 : (x != 0) = true := by simpa using hcm
        clear hcm hx
        go_wp2_with fail
        go_ret
        exact ⟨rfl, HE5.out⟩
      rw [hcm]
      have HCM := Lib.hid hcm
      clear hcm
      have HMK := Lib.hid (diff_makes HCL.out HCM.out)
      have HDL := Lib.hid (diffN_len (check_ok HCL.out).len (check_ok HCM.out).len)
      have HDS := Lib.hid (diff_small HCL.out HCM.out)
      go_wp2_with fail
      refine (diff_c w5 _ _ l m (HV.out.ext HE5.out) (HU.out.ext HE5.out) (by omega) (by omega) HS.out HSM.out).mono ?_
      rintro e w6 ⟨r6, rfl, hR⟩
      obtain ⟨D, hD⟩ : ∃ D, D = diffN l m := ⟨_, rfl⟩
      rw [← hD] at hR HMK HDL HDS
      have hd80 := HDL.out
      obtain ⟨a6, c6, rfl⟩ := hR.sl
      have HE6 := Lib.hid (HE5.out.trans hR.ext)
      have HD6 := Lib.hid (CRow.rd hR)
      clear hR hD HE5 HDL
      go_wp2_with fail
      refine (apply_c w6 _ _ l D (HV.out.ext HE6.out) HD6.out (by omega) (by omega) HS.out HDS.out).mono ?_
      rintro e w7 h7
      have hap := HMK.out.after HCL.out HCM.out
      unfold ApplyP at h7
      rw [if_pos hap.1, hap.2] at h7
      obtain ⟨r7, rfl, hR⟩ := h7
      obtain ⟨a7, c7, rfl⟩ := hR.sl
      have HE7 := Lib.hid (HE6.out.trans hR.ext)
      have HD7 := Lib.hid (HD6.out.ext hR.ext)
      have HM7 := Lib.hid (ERow.rd hR)
      clear hR hap HE6 HD6
      go_wp2_with fail
      go_loopw [10, 11] (fun bv i wr => BkRel w7 w7 D bv i wr) (fun _ i _ => (intOf i + 1).toNat)
      case atStart => exact ⟨0, by omega, by simp, ExtR w7, ORow.nil _ _ (ExtR w7)⟩
      case round =>
        obtain ⟨j, hj, rfl, hE, hR⟩ := hrel
        obtain ⟨a8, c8, rfl⟩ := hR.sl
        have HE8 := Lib.hid (HE7.out.trans hE)
        have HX := Lib.hid hE
        have HR := Lib.hid hR
        clear hE hR
        by_cases hlt : j < D.length
        · obtain ⟨n, hnn⟩ : ∃ n : Nat, n = D.length - 1 - j := ⟨_, rfl⟩
          have hnv : ((D.length : Int) - 1 - j) = (n : Int) := by omega
          rw [hnv]
          have b0 : (0 : Int) ≤ (n : Int) := by omega
          have hnl : n < D.length := by omega
          rcases HD7.out with ⟨_, _, _, h0⟩ | ⟨b, of, c1, hh, hb, hcc, hcell⟩
          · rw [h0] at hlt; cases hlt
          cases hh
          obtain ⟨p, hp⟩ : ∃ p, D[n]? = some p := ⟨_, List.getElem?_eq_getElem hnl⟩
          obtain ⟨q1, q2, q3⟩ := hcell n p hp
          have q1 := cell_ext q1 HX.out
          have q2 := cell_ext q2 HX.out
          have q3 := cell_ext q3 HX.out
          have hst : D.reverse.take (j + 1) = D.reverse.take j ++ [p] := by
            rw [List.take_add_one, List.getElem?_reverse (by omega), show D.length - 1 - j = n by omega, hp]; rfl
          have HST := Lib.hid hst
          obtain ⟨x, y, gn⟩ := p
          simp only at q1 q2 q3
          have b1 : (n : Int) < (D.length : Int) := by omega
          have HNV := Lib.hid hnv
          have HNN := Lib.hid hnn
          clear hcell hp hb hcc hst hnv hnn
          go_wp2_with (at_builtin; refine wpList_app Tryz.sChgs (HR.out.mono ((ExtR wr).alloc _)) (.tmp 52) (.tmp 57) rfl rfl rfl (news_blk (Blk.new wr _)) (news := [.string x, .string y, .bool gn]) (by intro u hu; simp at hu; rcases hu with rfl | rfl | rfl <;> rfl) rfl rfl ?c1 ?c2 (fun v' w' r1 r2 r3 => ?_))
          case c1 => unfold maxLen; omega
          case c2 => omega
          have r1' : CRow w7 w' v' (j + 1) (D.reverse.take (j + 1)) := by unfold CRow; rw [HST.out, cellsC_append]; exact r1
          obtain ⟨a9, c9, rfl⟩ := r1'.sl
          have HR9 := Lib.hid r1'
          clear r1 r2 r3 r1' HR
          go_wp2_with fail
          go_roundw
          case rel => exact ⟨j + 1, by omega, by have := HNV.out; have := HNN.out; go_num, HR9.out.ext, HR9.out⟩
          case measure => simp [intOf]; try omega
        · have hjd : j = D.length := by omega
          have b0 : ¬ (0 : Int) ≤ ((D.length : Int) - 1 - j) := by omega
          have HB := Lib.hid (show CRow w7 wr (.slice a8 D.reverse.length c8) D.reverse.length D.reverse by
            have h := HR.out
            rw [hjd, ← List.length_reverse, List.take_length] at h; exact h)
          have HMR := Lib.hid (HMK.out.perm (List.reverse_perm D))
          have HSR := Lib.hid (show SmallC D.reverse from fun c hc => HDS.out c (List.mem_reverse.1 hc))
          have hlr : D.reverse.length = j := by rw [List.length_reverse]; exact hjd.symm
          obtain ⟨R, hRR⟩ : ∃ R, R = D.reverse := ⟨_, rfl⟩
          rw [← hRR] at HB HMR HSR hlr
          subst hlr
          clear hjd hRR HR hlt
          go_wp2_with fail
          refine (apply_c wr _ _ l R (HV.out.ext HE8.out) (CRow.rd HB.out) (by omega) (by omega) HS.out HSR.out).mono ?_
          rintro e w9 h9
          have hap := HMR.out.after HCL.out HCM.out
          unfold ApplyP at h9
          rw [if_pos hap.1, hap.2] at h9
          obtain ⟨r9, rfl, hR⟩ := h9
          obtain ⟨a9, c9, rfl⟩ := hR.sl
          have HE9 := Lib.hid (HE8.out.trans hR.ext)
          have HM9 := Lib.hid (HM7.out.ext (HX.out.trans hR.ext))
          have HN9 := Lib.hid (ERow.rd hR)
          clear hR hap HE8 HB
          go_wp2_with fail
          refine (same_c w9 _ _ m m HM9.out (HU.out.ext HE9.out) (by omega) (by omega)).mono ?_
          rintro e w10 ⟨rfl, hE⟩
          rw [sameL_self]
          have HE10 := Lib.hid (HE9.out.trans hE)
          have HM10 := Lib.hid (HM9.out.ext hE)
          have HN10 := Lib.hid (HN9.out.ext hE)
          clear hE HE9 HM9 HN9
          go_wp2_with fail
          refine (same_c w10 _ _ m m HN10.out (HU.out.ext HE10.out) (by omega) (by omega)).mono ?_
          rintro e w11 ⟨rfl, hE⟩
          rw [sameL_self]
          have HE11 := Lib.hid (HE10.out.trans hE)
          have HM11 := Lib.hid (HM10.out.ext hE)
          clear hE HE10 HM10 HN10
          go_wp2_with fail
          refine (diff_c w11 _ _ l l (HV.out.ext HE11.out) (HV.out.ext HE11.out) (by omega) (by omega) HS.out HS.out).mono ?_
          rintro e w12 ⟨r12, rfl, hR⟩
          rw [diffN_self] at hR
          obtain ⟨a12, c12, rfl⟩ := hR.sl
          have HE12 := Lib.hid (HE11.out.trans hR.ext)
          have HM12 := Lib.hid (HM11.out.ext hR.ext)
          clear hR HE11 HM11
          rw [List.length_nil]
          go_wp2_with fail
          refine (diff_c w12 _ _ m m HM12.out (HU.out.ext HE12.out) (by omega) (by omega) HSM.out HSM.out).mono ?_
          rintro e w13 ⟨r13, rfl, hR⟩
          rw [diffN_self] at hR
          obtain ⟨a13, c13, rfl⟩ := hR.sl
          have HE13 := Lib.hid (HE12.out.trans hR.ext)
          clear hR HE12 HM12
          rw [List.length_nil]
          go_wp2_with fail
          go_ret
          exact ⟨rfl, HE13.out⟩
end
end Go.Proofs.YtolhikjjchfnjaaGreatDoor
/- reference 05: Diff. -/
namespace Go.Proofs.YtolhikjjchfnjaaGreatDoor
section
open Go Go.RowKit
set_option linter.unusedSimpArgs false
set_option linter.unusedVariables false

theorem key_ne {p q : Pair} (h1 : lessB p.1 q.1 = false) : (p.1.toList == q.1.toList) = !lessB q.1 p.1 := by
  have h1' : ¬ Lt p.k q.k := fun e => by rw [(lessB_iff _ _).2 e] at h1; cases h1
  have hb : (p.1.toList == q.1.toList) = decide (p.k = q.k) := by
    rw [ByteArray.toList_eq, ByteArray.toList_eq]
    by_cases h : p.k = q.k
    · rw [decide_eq_true h]; simpa using h
    · rw [decide_eq_false h, Bool.eq_false_iff]; intro e2; exact h (eq_of_beq e2)
  rw [hb]
  cases h2 : lessB q.1 p.1 with
  | true =>
    have h3 := (lessB_iff _ _).1 h2
    rw [decide_eq_false]; · rfl
    intro e; rw [show q.1.data.toList = p.k from e.symm] at h3; exact lt_irrefl _ h3
  | false =>
    rw [decide_eq_true]; · rfl
    rcases lt_tri p.k q.k with h | h | h
    · exact absurd h h1'
    · exact h
    · rw [(lessB_iff _ _).2 h] at h2; cases h2
theorem rdp_tail {w : World} {b o N c : Nat} {p : Pair} {l2 : List Pair} (h : RdP w (.slice (some ⟨b, o, none⟩) N c) (p :: l2)) : RdP w (.slice (if c = 1 then some ⟨b, o, none⟩ else some ⟨b, o + 2, none⟩) (N - 1) (c - 1)) l2 := by
  rcases h with ⟨_, _, _, h0⟩ | ⟨b1, o1, c1, hh, hb, hc, hcell⟩
  · cases h0
  · obtain ⟨e1, e2, e3⟩ := Value.slice.inj hh
    have e1 := Option.some.inj e1
    injection e1 with e4 e5
    subst e4; subst e5; subst e3
    have hN : N - 1 = l2.length := by rw [e2, List.length_cons]; omega
    rw [List.length_cons] at hc
    by_cases h1 : c = 1
    · rw [if_pos h1, hN]
      have : l2 = [] := List.eq_nil_of_length_eq_zero (by omega)
      subst this
      exact .inl ⟨_, _, rfl, rfl⟩
    · rw [if_neg h1, hN]
      refine .inr ⟨b, o + 2, c - 1, rfl, hb, by omega, fun j x hx => ?_⟩
      have := hcell (j + 1) x (by simpa using hx)
      rw [show o + 2 + j * 2 = o + (j + 1) * 2 by omega]
      exact this
structure RdS5 (w : World) (l m : List Pair) (l' m' : List Pair) (acc : List Chg) (av bv ov : Value) (wr : World) : Prop where
  la : RdP w av l'
  lb : RdP w bv m'
  sa : SmallP l'
  sb : SmallP m'
  na : l'.length ≤ 40
  nb : m'.length ≤ 40
  nt : acc.length + l'.length + m'.length ≤ 80
  row : CRow w wr ov acc.length acc
  eq : acc ++ diffL l' m' = diffL l m
def RdRel5 (w : World) (l m : List Pair) (av bv ov : Value) (wr : World) : Prop := ∃ l' m' acc, RdS5 w l m l' m' acc av bv ov wr
def lenOf : Value → Nat | .slice _ n _ => n | _ => 0
set_option maxRecDepth 100000 in
set_option maxHeartbeats 8000000 in
theorem rdiff_c (w : World) (v u : Value) (l m : List Pair) (hv : RdP w v l) (hu : RdP w u m) (hn1 : l.length ≤ 45) (hn2 : m.length ≤ 45) (hs1 : SmallP l) (hs2 : SmallP m) :
    Calls Tryz.prog 30 #[v, u] w fun e w' => ∃ u, e = .returned u ∧ CRow w w' u (diffN l m).length (diffN l m) := by
  have HC1 := Lib.hid (rcheck_c w v l hv (by omega) hs1)
  have HC2 := Lib.hid (fun w1 (h1 : Ext w w1) => rcheck_c w1 u m (hu.ext h1) (by omega) hs2)
  have HV := Lib.hid hv
  have HU := Lib.hid hu
  obtain ⟨a, c, hsl⟩ := hv.sl
  subst hsl
  obtain ⟨a', c', hsl'⟩ := hu.sl
  subst hsl'
  have HS1 := Lib.hid hs1
  have HS2 := Lib.hid hs2
  clear hv hu hs1 hs2
  by_cases hck : checkN l = 0
  case neg =>
    have HD := Lib.hid (show diffN l m = [] by unfold diffN; rw [if_neg (fun h => hck h.1)])
    rw [HD.out]
    obtain ⟨x, hx⟩ : ∃ x, x = checkN l := ⟨_, rfl⟩
    rw [← hx] at hck HC1
    have hne : (x == 0) = false := by simpa using hck
    have hne2 : (x != 0) = true := by simpa using hck
    clear hck hx HV HU HC2 HD
    go_enter Tryz.func30, Tryz.ntmps30
    go_wp2_with fail
    refine HC1.out.mono ?_
    rintro e w1 ⟨rfl, hE⟩
    have HE := Lib.hid hE
    clear hE HC1
    go_wp2_with fail
    go_ret
    exact ⟨_, rfl, ORow.nil _ _ HE.out⟩
  by_cases hck2 : checkN m = 0
  case neg =>
    have HD := Lib.hid (show diffN l m = [] by unfold diffN; rw [if_neg (fun h => hck2 h.2)])
    rw [HD.out]
    rw [hck] at HC1
    obtain ⟨x, hx⟩ : ∃ x, x = checkN m := ⟨_, rfl⟩
    rw [← hx] at hck2 HC2
    have hne : (x == 0) = false := by simpa using hck2
    have hne2 : (x != 0) = true := by simpa using hck2
    clear hck hck2 hx HV HU HD
    go_enter Tryz.func30, Tryz.ntmps30
    go_wp2_with fail
    refine HC1.out.mono ?_
    rintro e w1 ⟨rfl, hE⟩
    have HE := Lib.hid hE
    clear hE HC1
    go_wp2_with fail
    refine (HC2.out w1 HE.out).mono ?_
    rintro e w2 ⟨rfl, hE⟩
    have HE2 := Lib.hid (HE.out.trans hE)
    clear hE HC2 HE
    go_wp2_with fail
    go_ret
    exact ⟨_, rfl, ORow.nil _ _ HE2.out⟩
  have hl40 := (check_ok hck).len
  have hm40 := (check_ok hck2).len
  have HD := Lib.hid (show diffN l m = diffL l m by unfold diffN; rw [if_pos ⟨hck, hck2⟩])
  rw [HD.out]
  rw [hck] at HC1
  rw [hck2] at HC2
  clear hck hck2 HD hn1 hn2
  obtain ⟨R, hR⟩ : ∃ R, R = diffL l m := ⟨_, rfl⟩
  rw [← hR]
  have HRR := Lib.hid hR
  clear hR
  go_enter Tryz.func30, Tryz.ntmps30
  go_wp2_with fail
  refine HC1.out.mono ?_
  rintro e w1 ⟨rfl, hE⟩
  have HE1 := Lib.hid hE
  clear hE HC1
  go_wp2_with fail
  refine (HC2.out w1 HE1.out).mono ?_
  rintro e w2 ⟨rfl, hE⟩
  have HE2 := Lib.hid (HE1.out.trans hE)
  clear hE HC2 HE1
  go_wp2_with fail
  go_loopw [0, 1, 5] (fun av bv ov wr => RdRel5 w l m av bv ov wr) (fun av bv _ _ => lenOf av + lenOf bv)
  case atStart => exact ⟨l, m, [], HV.out, HU.out, HS1.out, HS2.out, hl40, hm40, by simp; omega, ORow.nil _ _ HE2.out, rfl⟩
  case round =>
    obtain ⟨l', m', acc, hS⟩ := hrel
    obtain ⟨aa, ca, rfl⟩ := hS.la.sl
    obtain ⟨ab, cb, rfl⟩ := hS.lb.sl
    obtain ⟨ao, co, rfl⟩ := hS.row.sl
    have HSS := Lib.hid hS
    have hna := hS.na
    have hnb := hS.nb
    have hnt := hS.nt
    clear hS
    match l', m' with
    | [], [] =>
      have HF := Lib.hid (show acc = R by have := HSS.out.eq; rw [HRR.out]; simpa [diffL] using this)
      rw [List.length_nil]
      go_wp2_with fail
      go_ret
      refine ⟨_, rfl, ?_⟩
      have h := HSS.out.row
      have hf := HF.out
      subst hf
      exact h
    | (x1, x2) :: l2, [] =>
      rcases HSS.out.la with ⟨_, _, _, h0⟩ | ⟨bl, ol, c1, hh, hb, hcc, hcell⟩
      · cases h0
      obtain ⟨NA, hNA⟩ : ∃ n, n = ((x1, x2) :: l2).length := ⟨_, rfl⟩
      rw [← hNA] at hh hna hnt hcc ⊢
      cases hh
      obtain ⟨q1, q2⟩ := hcell 0 (x1, x2) rfl
      simp only [Nat.zero_mul, Nat.add_zero] at q1 q2
      have HQa1 := Lib.hid (cell_ext q1 HSS.out.row.ext)
      have HQa2 := Lib.hid (cell_ext q2 HSS.out.row.ext)
      have HNBa := Lib.hid (show ¬ (Value.slice ao acc.length co).ownBlock = some bl from fun e => by have := HSS.out.row.new _ e; omega)
      have ba0 : (0 : Int) < (NA : Int) := by rw [hNA, List.length_cons]; omega
      have ba1 : (1 : Int) ≤ (NA : Int) := by omega
      have ba3 : ((NA : Int) == 0) = false := by simp; omega
      have ba4 : 0 < NA := by omega
      have ba5 : decide (0 < NA) = true := decide_eq_true ba4
      have ba2 : (1 : Int) ≤ (ca : Int) := by omega
      have HNA := Lib.hid (show NA = l2.length + 1 by rw [hNA, List.length_cons])
      clear hcell q1 q2 hNA hb hcc
      have hacc : acc.length ≤ 80 := by omega
      rw [List.length_nil]
      have q1 := HQa1.out
      go_wp2_with fail
      refine wp_region_mixK [0,1,2,3,4,5,6,7,8,9,10,11,12,13,14,15,16,17,18] Ext ExtR ExtT (by kernel_rfl) (by kernel_rfl) (by kernel_rfl) ?_
      iterate 4 (refine mixk_pure _ rfl (by kernel_rfl) rfl rfl (fun K hK => ?_); go_big_quiet_op; refine hK _ ?_; clear hK K)
      iterate 14 (refine mixk_skip _ rfl (by kernel_rfl) rfl ?_; simp only [Act.put, List.setIfInBounds_toArray, List.set_cons_zero, List.set_cons_succ])
      iterate 1 (refine mixk_pure _ rfl (by kernel_rfl) rfl rfl (fun K hK => ?_); go_big_quiet_op; refine hK _ ?_; clear hK K)
      refine mixk_end (by kernel_rfl) (fun w3 he => ?_)
      have HR3 := Lib.hid (HSS.out.row.mono ((drewE _).trans he))
      have q1 := cell_ext q1 ((drewE _).trans he)
      clear he
      have hm1 : acc.length + 1 ≤ maxLen := by unfold maxLen; omega
      have hm2 : (acc.length + 1) * 40 ≤ 140737488355328 := by omega
      go_wp2_with (at_builtin; refine wpList_app Tryz.sChgs (HR3.out.mono ((ExtR w3).alloc _)) (.tmp 41) (.tmp 47) rfl rfl rfl (news_blk (Blk.new w3 _)) (news := [.string x1, .string ⟨#[]⟩, .bool true]) (by intro u hu; simp at hu; rcases hu with rfl | rfl | rfl <;> rfl) rfl rfl hm1 hm2 ?_; intro v6 w6 r1 r2 r3)
      have r1' : CRow w w6 v6 (acc ++ [(⟨x1, ⟨#[]⟩, true⟩ : Chg)]).length (acc ++ [(⟨x1, ⟨#[]⟩, true⟩ : Chg)]) := by unfold CRow; rw [cellsC_append, List.length_append]; exact r1
      obtain ⟨a6, c6, rfl⟩ := r1'.sl
      have HR6 := Lib.hid r1'
      clear r1 r2 r3 r1'
      go_wp2_with fail
      refine ⟨⟨l2, [], _, rdp_tail (by have h := HSS.out.la; rw [List.length_cons, ← HNA.out] at h; exact h), HSS.out.lb, (fun z hz => HSS.out.sa z (List.mem_cons_of_mem _ hz)), HSS.out.sb, ?_, ?_, ?_, HR6.out, ?_⟩, ?_⟩
      · have := HSS.out.na; simp only [List.length_cons, List.length_nil] at this ⊢; omega
      · have := HSS.out.nb; simp only [List.length_cons, List.length_nil] at this ⊢; omega
      · have := HSS.out.nt; simp only [List.length_cons, List.length_nil, List.length_append] at this ⊢; omega
      · have := HSS.out.eq
        rw [diffL] at this
        simpa using this
      · simp only [lenOf]; omega
    | [], (y1, y2) :: m2 =>
      rcases HSS.out.lb with ⟨_, _, _, h0⟩ | ⟨bm, om, c1, hh, hb, hcc, hcell⟩
      · cases h0
      obtain ⟨NM, hNM⟩ : ∃ n, n = ((y1, y2) :: m2).length := ⟨_, rfl⟩
      rw [← hNM] at hh hnb hnt hcc ⊢
      cases hh
      obtain ⟨q1, q2⟩ := hcell 0 (y1, y2) rfl
      simp only [Nat.zero_mul, Nat.add_zero] at q1 q2
      have HQb1 := Lib.hid (cell_ext q1 HSS.out.row.ext)
      have HQb2 := Lib.hid (cell_ext q2 HSS.out.row.ext)
      have HNBb := Lib.hid (show ¬ (Value.slice ao acc.length co).ownBlock = some bm from fun e => by have := HSS.out.row.new _ e; omega)
      have bb0 : (0 : Int) < (NM : Int) := by rw [hNM, List.length_cons]; omega
      have bb1 : (1 : Int) ≤ (NM : Int) := by omega
      have bb3 : ((NM : Int) == 0) = false := by simp; omega
      have bb4 : 0 < NM := by omega
      have bb5 : decide (0 < NM) = true := decide_eq_true bb4
      have bb2 : (1 : Int) ≤ (cb : Int) := by omega
      have HNM := Lib.hid (show NM = m2.length + 1 by rw [hNM, List.length_cons])
      clear hcell q1 q2 hNM hb hcc
      have hacc : acc.length ≤ 80 := by omega
      rw [List.length_nil]
      go_wp2_with fail
      refine wp_region_mixK [0,1,2,3,4,5,6,7,8,9,10,11,12,13,14,15,16,17,18] Ext ExtR ExtT (by kernel_rfl) (by kernel_rfl) (by kernel_rfl) ?_
      iterate 8 (refine mixk_pure _ rfl (by kernel_rfl) rfl rfl (fun K hK => ?_); go_big_quiet_op; refine hK _ ?_; clear hK K)
      iterate 9 (refine mixk_skip _ rfl (by kernel_rfl) rfl ?_; simp only [Act.put, List.setIfInBounds_toArray, List.set_cons_zero, List.set_cons_succ])
      iterate 2 (refine mixk_pure _ rfl (by kernel_rfl) rfl rfl (fun K hK => ?_); go_big_quiet_op; refine hK _ ?_; clear hK K)
      refine mixk_end (by kernel_rfl) (fun w3 he => ?_)
      have HX3 := Lib.hid ((drewE _).trans he)
      clear he
      go_wp2_with fail
      refine wp_region_mixK [0,1,2,3,4,5,6,7,8,9,10,11,12,13] Ext ExtR ExtT (by kernel_rfl) (by kernel_rfl) (by kernel_rfl) ?_
      iterate 4 (refine mixk_pure _ rfl (by kernel_rfl) rfl rfl (fun K hK => ?_); go_big_quiet_op; refine hK _ ?_; clear hK K)
      iterate 9 (refine mixk_skip _ rfl (by kernel_rfl) rfl ?_; simp only [Act.put, List.setIfInBounds_toArray, List.set_cons_zero, List.set_cons_succ])
      iterate 1 (refine mixk_pure _ rfl (by kernel_rfl) rfl rfl (fun K hK => ?_); go_big_quiet_op; refine hK _ ?_; clear hK K)
      refine mixk_end (by kernel_rfl) (fun w4 he => ?_)
      have hx4 := HX3.out.trans ((drewE _).trans he)
      have HR4 := Lib.hid (HSS.out.row.mono hx4)
      have QD1 := Lib.hid (cell_ext HQb1.out hx4)
      have QD2 := Lib.hid (cell_ext HQb2.out hx4)
      clear he hx4 HX3
      go_wp2_with fail
      refine wp_region_mixD [0,1,2,3,4,5,6,7,8,9,10,11,12] [10,11] Ext (Keeps (fun b => (Value.slice ao acc.length co).ownBlock = some b)) ExtR ExtT (fun x y z h k => Keeps.trans h k) (fun x y h => h.mono (fun _ _ h => h.elim)) (by kernel_rfl) (by kernel_rfl) (by kernel_rfl) ?_
      iterate 4 (refine mixd_pure _ rfl (by kernel_rfl) rfl rfl (fun K hK => ?_); go_big_quiet_op; refine hK _ ?_; clear hK K)
      refine mixd_load ⟨bm, om, none⟩ (.string y1) rfl (by kernel_rfl) rfl rfl (fun w3 h3 => run_load_plain Tryz.uStr rfl (cell_keeps (by exact QD1.out) h3 HNBb.out)) ?_
      simp only [Act.put, List.setIfInBounds_toArray, List.set_cons_zero, List.set_cons_succ]
      iterate 3 (refine mixd_pure _ rfl (by kernel_rfl) rfl rfl (fun K hK => ?_); go_big_quiet_op; refine hK _ ?_; clear hK K)
      refine mixd_load ⟨bm, om + 1, none⟩ (.string y2) rfl (by kernel_rfl) rfl rfl (fun w3 h3 => run_load_plain Tryz.uStr rfl (cell_keeps (by exact QD2.out) h3 HNBb.out)) ?_
      simp only [Act.put, List.setIfInBounds_toArray, List.set_cons_zero, List.set_cons_succ]
      iterate 1 (refine mixd_pure _ rfl (by kernel_rfl) rfl rfl (fun K hK => ?_); go_big_quiet_op; refine hK _ ?_; clear hK K)
      refine mixd_hard _ rfl (by kernel_rfl) rfl (fun w6 he K hK => ?_)
      have HR6 := Lib.hid (HR4.out.mono ((drewE _).trans he))
      clear he
      go_simp
      refine hK _ _ ((Keeps.refl _ w6).alloc _) ?_
      clear hK K
      refine mixd_hard _ rfl (by kernel_rfl) rfl (fun w7 he K hK => ?_)
      have HR7 := Lib.hid (HR6.out.mono (((ExtR w6).alloc _).trans he))
      have hB : ∀ k u, ([.string y1, .string y2, .bool false] : List Value)[k]? = some u → w7.cell? ((⟨w6.heap.size, 0, none⟩ : Addr).add k) = some u := fun k u hk => cell_ext (news_blk (Blk.new w6 (.cells [Value.string y1, .string y2, .bool false].toArray 49)) k u hk) he
      refine wp_app Tryz.sChgs HR7.out (.tmp 65) (.tmp 75) rfl rfl hB (by intro u hu; simp at hu; rcases hu with rfl | rfl | rfl <;> rfl) rfl rfl (by unfold maxLen; omega) (by omega) (fun v' w8 r1 r2 r3 => hK _ _ r2 ?_)
      have r1' : CRow w w8 v' (acc ++ [(⟨y1, y2, false⟩ : Chg)]).length (acc ++ [(⟨y1, y2, false⟩ : Chg)]) := by unfold CRow; rw [cellsC_append, List.length_append]; exact r1
      have HR8 := Lib.hid r1'
      clear hK K he r1 r2 r3 r1' hB HR6 HR7
      obtain ⟨a6, c6, rfl⟩ := HR8.out.sl
      simp only [Act.put, List.setIfInBounds_toArray, List.set_cons_zero, List.set_cons_succ]
      iterate 1 (refine mixd_pure _ rfl (by kernel_rfl) rfl rfl (fun K hK => ?_); go_big_quiet_op; refine hK _ ?_; clear hK K)
      refine mixd_end (by kernel_rfl) (fun w9 he => ?_)
      have HR9 := Lib.hid (HR8.out.mono he)
      clear he HR8
      go_wp2_with fail
      refine ⟨⟨[], m2, _, HSS.out.la, rdp_tail (by have h := HSS.out.lb; rw [List.length_cons, ← HNM.out] at h; exact h), HSS.out.sa, (fun z hz => HSS.out.sb z (List.mem_cons_of_mem _ hz)), ?_, ?_, ?_, HR9.out, ?_⟩, ?_⟩
      · have := HSS.out.na; simp only [List.length_cons, List.length_nil] at this ⊢; omega
      · have := HSS.out.nb; simp only [List.length_cons, List.length_nil] at this ⊢; omega
      · have := HSS.out.nt; simp only [List.length_cons, List.length_nil, List.length_append] at this ⊢; omega
      · have := HSS.out.eq
        rw [diffL] at this
        simpa using this
      · simp only [lenOf]; omega
    | (x1, x2) :: l2, (y1, y2) :: m2 =>
      rcases HSS.out.la with ⟨_, _, _, h0⟩ | ⟨bl, ol, c1, hh, hb, hcc, hcell⟩
      · cases h0
      obtain ⟨NA, hNA⟩ : ∃ n, n = ((x1, x2) :: l2).length := ⟨_, rfl⟩
      rw [← hNA] at hh hna hnt hcc ⊢
      cases hh
      obtain ⟨q1, q2⟩ := hcell 0 (x1, x2) rfl
      simp only [Nat.zero_mul, Nat.add_zero] at q1 q2
      have HQa1 := Lib.hid (cell_ext q1 HSS.out.row.ext)
      have HQa2 := Lib.hid (cell_ext q2 HSS.out.row.ext)
      have HNBa := Lib.hid (show ¬ (Value.slice ao acc.length co).ownBlock = some bl from fun e => by have := HSS.out.row.new _ e; omega)
      have ba0 : (0 : Int) < (NA : Int) := by rw [hNA, List.length_cons]; omega
      have ba1 : (1 : Int) ≤ (NA : Int) := by omega
      have ba3 : ((NA : Int) == 0) = false := by simp; omega
      have ba4 : 0 < NA := by omega
      have ba5 : decide (0 < NA) = true := decide_eq_true ba4
      have ba2 : (1 : Int) ≤ (ca : Int) := by omega
      have HNA := Lib.hid (show NA = l2.length + 1 by rw [hNA, List.length_cons])
      clear hcell q1 q2 hNA hb hcc
      rcases HSS.out.lb with ⟨_, _, _, h0⟩ | ⟨bm, om, c1, hh, hb, hcc, hcell⟩
      · cases h0
      obtain ⟨NM, hNM⟩ : ∃ n, n = ((y1, y2) :: m2).length := ⟨_, rfl⟩
      rw [← hNM] at hh hnb hnt hcc ⊢
      cases hh
      obtain ⟨q1, q2⟩ := hcell 0 (y1, y2) rfl
      simp only [Nat.zero_mul, Nat.add_zero] at q1 q2
      have HQb1 := Lib.hid (cell_ext q1 HSS.out.row.ext)
      have HQb2 := Lib.hid (cell_ext q2 HSS.out.row.ext)
      have HNBb := Lib.hid (show ¬ (Value.slice ao acc.length co).ownBlock = some bm from fun e => by have := HSS.out.row.new _ e; omega)
      have bb0 : (0 : Int) < (NM : Int) := by rw [hNM, List.length_cons]; omega
      have bb1 : (1 : Int) ≤ (NM : Int) := by omega
      have bb3 : ((NM : Int) == 0) = false := by simp; omega
      have bb4 : 0 < NM := by omega
      have bb5 : decide (0 < NM) = true := decide_eq_true bb4
      have bb2 : (1 : Int) ≤ (cb : Int) := by omega
      have HNM := Lib.hid (show NM = m2.length + 1 by rw [hNM, List.length_cons])
      clear hcell q1 q2 hNM hb hcc
      have hacc : acc.length ≤ 80 := by omega
      have HSA := Lib.hid (HSS.out.sa (x1, x2) List.mem_cons_self)
      have HSB := Lib.hid (HSS.out.sb (y1, y2) List.mem_cons_self)
      have HAH := Lib.hid (fun w1 => ahead_c w1 x1 y1 HSA.out.1 HSB.out.1)
      cases hls : lessB x1 y1 with
      | true =>
        rw [hls] at HAH
        have HLS := Lib.hid hls
        clear hls
        go_wp2_with fail
        refine wp_region_mixK [0,1,2,3,4,5,6,7,8,9,10,11,12,13,14,15,16,17,18] Ext ExtR ExtT (by kernel_rfl) (by kernel_rfl) (by kernel_rfl) ?_
        iterate 8 (refine mixk_pure _ rfl (by kernel_rfl) rfl rfl (fun K hK => ?_); go_big_quiet_op; refine hK _ ?_; clear hK K)
        iterate 3 (refine mixk_pure _ rfl (by kernel_rfl) rfl rfl (fun K hK => ?_); go_big_quiet_op; refine hK _ ?_; clear hK K)
        refine mixk_load ⟨bl, ol, none⟩ _ rfl (by kernel_rfl) rfl rfl (fun w1 h1 => run_load_plain Tryz.uStr rfl (cell_ext HQa1.out ((drewE _).trans h1))) ?_
        simp only [Act.put, List.setIfInBounds_toArray, List.set_cons_zero, List.set_cons_succ]
        iterate 3 (refine mixk_pure _ rfl (by kernel_rfl) rfl rfl (fun K hK => ?_); go_big_quiet_op; refine hK _ ?_; clear hK K)
        refine mixk_load ⟨bm, om, none⟩ _ rfl (by kernel_rfl) rfl rfl (fun w1 h1 => run_load_plain Tryz.uStr rfl (cell_ext HQb1.out ((drewE _).trans h1))) ?_
        simp only [Act.put, List.setIfInBounds_toArray, List.set_cons_zero, List.set_cons_succ]
        refine mixk_call _ 39 #[.string x1, .string y1] (.bool true) rfl (by kernel_rfl) rfl (fun w1 => exec_call Tryz.enterAhead (by kernel_rfl)) (fun w1 h1 => HAH.out w1) ?_
        simp only [Act.put, List.setIfInBounds_toArray, List.set_cons_zero, List.set_cons_succ]
        iterate 2 (refine mixk_pure _ rfl (by kernel_rfl) rfl rfl (fun K hK => ?_); go_big_quiet_op; refine hK _ ?_; clear hK K)
        refine mixk_end (by kernel_rfl) (fun w3 he => ?_)
        have HR3 := Lib.hid (HSS.out.row.mono ((drewE _).trans he))
        have q1 := cell_ext HQa1.out ((drewE _).trans he)
        clear he
        have hm1 : acc.length + 1 ≤ maxLen := by unfold maxLen; omega
        have hm2 : (acc.length + 1) * 40 ≤ 140737488355328 := by omega
        go_wp2_with (at_builtin; refine wpList_app Tryz.sChgs (HR3.out.mono ((ExtR w3).alloc _)) (.tmp 41) (.tmp 47) rfl rfl rfl (news_blk (Blk.new w3 _)) (news := [.string x1, .string ⟨#[]⟩, .bool true]) (by intro u hu; simp at hu; rcases hu with rfl | rfl | rfl <;> rfl) rfl rfl hm1 hm2 ?_; intro v6 w6 r1 r2 r3)
        have r1' : CRow w w6 v6 (acc ++ [(⟨x1, ⟨#[]⟩, true⟩ : Chg)]).length (acc ++ [(⟨x1, ⟨#[]⟩, true⟩ : Chg)]) := by unfold CRow; rw [cellsC_append, List.length_append]; exact r1
        obtain ⟨a6, c6, rfl⟩ := r1'.sl
        have HR6 := Lib.hid r1'
        clear r1 r2 r3 r1'
        go_wp2_with fail
        refine ⟨⟨l2, (y1, y2) :: m2, _, rdp_tail (by have h := HSS.out.la; rw [List.length_cons, ← HNA.out] at h; exact h), (by have h := HSS.out.lb; rw [List.length_cons, ← HNM.out] at h; exact h), (fun z hz => HSS.out.sa z (List.mem_cons_of_mem _ hz)), HSS.out.sb, ?_, ?_, ?_, HR6.out, ?_⟩, ?_⟩
        · have := HSS.out.na; simp only [List.length_cons, List.length_nil] at this ⊢; omega
        · have := HSS.out.nb; simp only [List.length_cons, List.length_nil] at this ⊢; omega
        · have := HSS.out.nt; simp only [List.length_cons, List.length_nil, List.length_append] at this ⊢; omega
        · have := HSS.out.eq
          rw [diffL, if_pos HLS.out] at this
          simpa using this
        · simp only [lenOf]; omega
      | false =>
        rw [hls] at HAH
        have HLS := Lib.hid hls
        have HKN := Lib.hid (key_ne (p := (x1, x2)) (q := (y1, y2)) hls)
        clear hls
        go_wp2_with fail
        refine wp_region_mixK [0,1,2,3,4,5,6,7,8,9,10,11,12,13,14,15,16,17,18] Ext ExtR ExtT (by kernel_rfl) (by kernel_rfl) (by kernel_rfl) ?_
        iterate 8 (refine mixk_pure _ rfl (by kernel_rfl) rfl rfl (fun K hK => ?_); go_big_quiet_op; refine hK _ ?_; clear hK K)
        iterate 3 (refine mixk_pure _ rfl (by kernel_rfl) rfl rfl (fun K hK => ?_); go_big_quiet_op; refine hK _ ?_; clear hK K)
        refine mixk_load ⟨bl, ol, none⟩ _ rfl (by kernel_rfl) rfl rfl (fun w1 h1 => run_load_plain Tryz.uStr rfl (cell_ext HQa1.out ((drewE _).trans h1))) ?_
        simp only [Act.put, List.setIfInBounds_toArray, List.set_cons_zero, List.set_cons_succ]
        iterate 3 (refine mixk_pure _ rfl (by kernel_rfl) rfl rfl (fun K hK => ?_); go_big_quiet_op; refine hK _ ?_; clear hK K)
        refine mixk_load ⟨bm, om, none⟩ _ rfl (by kernel_rfl) rfl rfl (fun w1 h1 => run_load_plain Tryz.uStr rfl (cell_ext HQb1.out ((drewE _).trans h1))) ?_
        simp only [Act.put, List.setIfInBounds_toArray, List.set_cons_zero, List.set_cons_succ]
        refine mixk_call _ 39 #[.string x1, .string y1] (.bool false) rfl (by kernel_rfl) rfl (fun w1 => exec_call Tryz.enterAhead (by kernel_rfl)) (fun w1 h1 => HAH.out w1) ?_
        simp only [Act.put, List.setIfInBounds_toArray, List.set_cons_zero, List.set_cons_succ]
        iterate 2 (refine mixk_pure _ rfl (by kernel_rfl) rfl rfl (fun K hK => ?_); go_big_quiet_op; refine hK _ ?_; clear hK K)
        refine mixk_end (by kernel_rfl) (fun w3 he => ?_)
        have hx3 := (drewE _).trans he
        have HX3 := Lib.hid hx3
        have QA1 := Lib.hid (cell_ext HQa1.out hx3)
        have QB1 := Lib.hid (cell_ext HQb1.out hx3)
        clear he hx3
        cases hkk : lessB y1 x1 with
        | true =>
          have hkq : (x1.toList == y1.toList) = false := by have := HKN.out; rw [hkk] at this; exact this
          have HKK := Lib.hid hkk
          clear hkk
          go_wp2_with fail
          refine wp_region_mixK [0,1,2,3,4,5,6,7,8,9,10,11,12,13] Ext ExtR ExtT (by kernel_rfl) (by kernel_rfl) (by kernel_rfl) ?_
          iterate 4 (refine mixk_pure _ rfl (by kernel_rfl) rfl rfl (fun K hK => ?_); go_big_quiet_op; refine hK _ ?_; clear hK K)
          iterate 3 (refine mixk_pure _ rfl (by kernel_rfl) rfl rfl (fun K hK => ?_); go_big_quiet_op; refine hK _ ?_; clear hK K)
          refine mixk_load ⟨bl, ol, none⟩ _ rfl (by kernel_rfl) rfl rfl (fun w1 h1 => run_load_plain Tryz.uStr rfl (cell_ext QA1.out ((drewE _).trans h1))) ?_
          simp only [Act.put, List.setIfInBounds_toArray, List.set_cons_zero, List.set_cons_succ]
          iterate 3 (refine mixk_pure _ rfl (by kernel_rfl) rfl rfl (fun K hK => ?_); go_big_quiet_op; refine hK _ ?_; clear hK K)
          refine mixk_load ⟨bm, om, none⟩ _ rfl (by kernel_rfl) rfl rfl (fun w1 h1 => run_load_plain Tryz.uStr rfl (cell_ext QB1.out ((drewE _).trans h1))) ?_
          simp only [Act.put, List.setIfInBounds_toArray, List.set_cons_zero, List.set_cons_succ]
          iterate 2 (refine mixk_pure _ rfl (by kernel_rfl) rfl rfl (fun K hK => ?_); go_big_quiet_op; refine hK _ ?_; clear hK K)
          refine mixk_end (by kernel_rfl) (fun w4 he => ?_)
          have hx4 := HX3.out.trans ((drewE _).trans he)
          have HR4 := Lib.hid (HSS.out.row.mono hx4)
          have QD1 := Lib.hid (cell_ext HQb1.out hx4)
          have QD2 := Lib.hid (cell_ext HQb2.out hx4)
          clear he hx4 HX3 hkq
          go_wp2_with fail
          refine wp_region_mixD [0,1,2,3,4,5,6,7,8,9,10,11,12] [10,11] Ext (Keeps (fun b => (Value.slice ao acc.length co).ownBlock = some b)) ExtR ExtT (fun x y z h k => Keeps.trans h k) (fun x y h => h.mono (fun _ _ h => h.elim)) (by kernel_rfl) (by kernel_rfl) (by kernel_rfl) ?_
          iterate 4 (refine mixd_pure _ rfl (by kernel_rfl) rfl rfl (fun K hK => ?_); go_big_quiet_op; refine hK _ ?_; clear hK K)
          refine mixd_load ⟨bm, om, none⟩ (.string y1) rfl (by kernel_rfl) rfl rfl (fun w3 h3 => run_load_plain Tryz.uStr rfl (cell_keeps (by exact QD1.out) h3 HNBb.out)) ?_
          simp only [Act.put, List.setIfInBounds_toArray, List.set_cons_zero, List.set_cons_succ]
          iterate 3 (refine mixd_pure _ rfl (by kernel_rfl) rfl rfl (fun K hK => ?_); go_big_quiet_op; refine hK _ ?_; clear hK K)
          refine mixd_load ⟨bm, om + 1, none⟩ (.string y2) rfl (by kernel_rfl) rfl rfl (fun w3 h3 => run_load_plain Tryz.uStr rfl (cell_keeps (by exact QD2.out) h3 HNBb.out)) ?_
          simp only [Act.put, List.setIfInBounds_toArray, List.set_cons_zero, List.set_cons_succ]
          iterate 1 (refine mixd_pure _ rfl (by kernel_rfl) rfl rfl (fun K hK => ?_); go_big_quiet_op; refine hK _ ?_; clear hK K)
          refine mixd_hard _ rfl (by kernel_rfl) rfl (fun w6 he K hK => ?_)
          have HR6 := Lib.hid (HR4.out.mono ((drewE _).trans he))
          clear he
          go_simp
          refine hK _ _ ((Keeps.refl _ w6).alloc _) ?_
          clear hK K
          refine mixd_hard _ rfl (by kernel_rfl) rfl (fun w7 he K hK => ?_)
          have HR7 := Lib.hid (HR6.out.mono (((ExtR w6).alloc _).trans he))
          have hB : ∀ k u, ([.string y1, .string y2, .bool false] : List Value)[k]? = some u → w7.cell? ((⟨w6.heap.size, 0, none⟩ : Addr).add k) = some u := fun k u hk => cell_ext (news_blk (Blk.new w6 (.cells [Value.string y1, .string y2, .bool false].toArray 49)) k u hk) he
          refine wp_app Tryz.sChgs HR7.out (.tmp 65) (.tmp 75) rfl rfl hB (by intro u hu; simp at hu; rcases hu with rfl | rfl | rfl <;> rfl) rfl rfl (by unfold maxLen; omega) (by omega) (fun v' w8 r1 r2 r3 => hK _ _ r2 ?_)
          have r1' : CRow w w8 v' (acc ++ [(⟨y1, y2, false⟩ : Chg)]).length (acc ++ [(⟨y1, y2, false⟩ : Chg)]) := by unfold CRow; rw [cellsC_append, List.length_append]; exact r1
          have HR8 := Lib.hid r1'
          clear hK K he r1 r2 r3 r1' hB HR6 HR7
          obtain ⟨a6, c6, rfl⟩ := HR8.out.sl
          simp only [Act.put, List.setIfInBounds_toArray, List.set_cons_zero, List.set_cons_succ]
          iterate 1 (refine mixd_pure _ rfl (by kernel_rfl) rfl rfl (fun K hK => ?_); go_big_quiet_op; refine hK _ ?_; clear hK K)
          refine mixd_end (by kernel_rfl) (fun w9 he => ?_)
          have HR9 := Lib.hid (HR8.out.mono he)
          clear he HR8
          go_wp2_with fail
          refine ⟨⟨(x1, x2) :: l2, m2, _, (by have h := HSS.out.la; rw [List.length_cons, ← HNA.out] at h; exact h), rdp_tail (by have h := HSS.out.lb; rw [List.length_cons, ← HNM.out] at h; exact h), HSS.out.sa, (fun z hz => HSS.out.sb z (List.mem_cons_of_mem _ hz)), ?_, ?_, ?_, HR9.out, ?_⟩, ?_⟩
          · have := HSS.out.na; simp only [List.length_cons, List.length_nil] at this ⊢; omega
          · have := HSS.out.nb; simp only [List.length_cons, List.length_nil] at this ⊢; omega
          · have := HSS.out.nt; simp only [List.length_cons, List.length_nil, List.length_append] at this ⊢; omega
          · have := HSS.out.eq
            rw [diffL, if_neg (by rw [HLS.out]; simp), if_pos HKK.out] at this
            simpa using this
          · simp only [lenOf]; omega
        | false =>
          have hkq : (x1.toList == y1.toList) = true := by have := HKN.out; rw [hkk] at this; exact this
          have HKK := Lib.hid hkk
          clear hkk
          go_wp2_with fail
          refine wp_region_mixK [0,1,2,3,4,5,6,7,8,9,10,11,12,13] Ext ExtR ExtT (by kernel_rfl) (by kernel_rfl) (by kernel_rfl) ?_
          iterate 4 (refine mixk_pure _ rfl (by kernel_rfl) rfl rfl (fun K hK => ?_); go_big_quiet_op; refine hK _ ?_; clear hK K)
          iterate 3 (refine mixk_pure _ rfl (by kernel_rfl) rfl rfl (fun K hK => ?_); go_big_quiet_op; refine hK _ ?_; clear hK K)
          refine mixk_load ⟨bl, ol, none⟩ _ rfl (by kernel_rfl) rfl rfl (fun w1 h1 => run_load_plain Tryz.uStr rfl (cell_ext QA1.out ((drewE _).trans h1))) ?_
          simp only [Act.put, List.setIfInBounds_toArray, List.set_cons_zero, List.set_cons_succ]
          iterate 3 (refine mixk_pure _ rfl (by kernel_rfl) rfl rfl (fun K hK => ?_); go_big_quiet_op; refine hK _ ?_; clear hK K)
          refine mixk_load ⟨bm, om, none⟩ _ rfl (by kernel_rfl) rfl rfl (fun w1 h1 => run_load_plain Tryz.uStr rfl (cell_ext QB1.out ((drewE _).trans h1))) ?_
          simp only [Act.put, List.setIfInBounds_toArray, List.set_cons_zero, List.set_cons_succ]
          iterate 2 (refine mixk_pure _ rfl (by kernel_rfl) rfl rfl (fun K hK => ?_); go_big_quiet_op; refine hK _ ?_; clear hK K)
          refine mixk_end (by kernel_rfl) (fun w4 he => ?_)
          have hx4 := HX3.out.trans ((drewE _).trans he)
          have HX4 := Lib.hid hx4
          have QA2 := Lib.hid (cell_ext HQa2.out hx4)
          have QB2 := Lib.hid (cell_ext HQb2.out hx4)
          clear he hx4 HX3 hkq
          cases hvv : (x2.toList == y2.toList) with
          | false =>
            go_wp2_with fail
            refine wp_region_mixK [0,1,2,3,4,5,6,7,8] Ext ExtR ExtT (by kernel_rfl) (by kernel_rfl) (by kernel_rfl) ?_
            iterate 3 (refine mixk_pure _ rfl (by kernel_rfl) rfl rfl (fun K hK => ?_); go_big_quiet_op; refine hK _ ?_; clear hK K)
            refine mixk_load ⟨bl, ol + 1, none⟩ _ rfl (by kernel_rfl) rfl rfl (fun w1 h1 => run_load_plain Tryz.uStr rfl (cell_ext QA2.out ((drewE _).trans h1))) ?_
            simp only [Act.put, List.setIfInBounds_toArray, List.set_cons_zero, List.set_cons_succ]
            iterate 3 (refine mixk_pure _ rfl (by kernel_rfl) rfl rfl (fun K hK => ?_); go_big_quiet_op; refine hK _ ?_; clear hK K)
            refine mixk_load ⟨bm, om + 1, none⟩ _ rfl (by kernel_rfl) rfl rfl (fun w1 h1 => run_load_plain Tryz.uStr rfl (cell_ext QB2.out ((drewE _).trans h1))) ?_
            simp only [Act.put, List.setIfInBounds_toArray, List.set_cons_zero, List.set_cons_succ]
            iterate 1 (refine mixk_pure _ rfl (by kernel_rfl) rfl rfl (fun K hK => ?_); go_big_quiet_op; refine hK _ ?_; clear hK K)
            refine mixk_end (by kernel_rfl) (fun w5 he => ?_)
            have hx5 := HX4.out.trans ((drewE _).trans he)
            have HR4 := Lib.hid (HSS.out.row.mono hx5)
            have QD1 := Lib.hid (cell_ext HQb1.out hx5)
            have QD2 := Lib.hid (cell_ext HQb2.out hx5)
            have HVV := Lib.hid hvv
            clear he hx5 HX4 hvv
            go_wp2_with fail
            refine wp_region_mixD [0,1,2,3,4,5,6,7,8,9,10,11,12] [10,11] Ext (Keeps (fun b => (Value.slice ao acc.length co).ownBlock = some b)) ExtR ExtT (fun x y z h k => Keeps.trans h k) (fun x y h => h.mono (fun _ _ h => h.elim)) (by kernel_rfl) (by kernel_rfl) (by kernel_rfl) ?_
            iterate 4 (refine mixd_pure _ rfl (by kernel_rfl) rfl rfl (fun K hK => ?_); go_big_quiet_op; refine hK _ ?_; clear hK K)
            refine mixd_load ⟨bm, om, none⟩ (.string y1) rfl (by kernel_rfl) rfl rfl (fun w3 h3 => run_load_plain Tryz.uStr rfl (cell_keeps (by exact QD1.out) h3 HNBb.out)) ?_
            simp only [Act.put, List.setIfInBounds_toArray, List.set_cons_zero, List.set_cons_succ]
            iterate 3 (refine mixd_pure _ rfl (by kernel_rfl) rfl rfl (fun K hK => ?_); go_big_quiet_op; refine hK _ ?_; clear hK K)
            refine mixd_load ⟨bm, om + 1, none⟩ (.string y2) rfl (by kernel_rfl) rfl rfl (fun w3 h3 => run_load_plain Tryz.uStr rfl (cell_keeps (by exact QD2.out) h3 HNBb.out)) ?_
            simp only [Act.put, List.setIfInBounds_toArray, List.set_cons_zero, List.set_cons_succ]
            iterate 1 (refine mixd_pure _ rfl (by kernel_rfl) rfl rfl (fun K hK => ?_); go_big_quiet_op; refine hK _ ?_; clear hK K)
            refine mixd_hard _ rfl (by kernel_rfl) rfl (fun w6 he K hK => ?_)
            have HR6 := Lib.hid (HR4.out.mono ((drewE _).trans he))
            clear he
            go_simp
            refine hK _ _ ((Keeps.refl _ w6).alloc _) ?_
            clear hK K
            refine mixd_hard _ rfl (by kernel_rfl) rfl (fun w7 he K hK => ?_)
            have HR7 := Lib.hid (HR6.out.mono (((ExtR w6).alloc _).trans he))
            have hB : ∀ k u, ([.string y1, .string y2, .bool false] : List Value)[k]? = some u → w7.cell? ((⟨w6.heap.size, 0, none⟩ : Addr).add k) = some u := fun k u hk => cell_ext (news_blk (Blk.new w6 (.cells [Value.string y1, .string y2, .bool false].toArray 49)) k u hk) he
            refine wp_app Tryz.sChgs HR7.out (.tmp 88) (.tmp 98) rfl rfl hB (by intro u hu; simp at hu; rcases hu with rfl | rfl | rfl <;> rfl) rfl rfl (by unfold maxLen; omega) (by omega) (fun v' w8 r1 r2 r3 => hK _ _ r2 ?_)
            have r1' : CRow w w8 v' (acc ++ [(⟨y1, y2, false⟩ : Chg)]).length (acc ++ [(⟨y1, y2, false⟩ : Chg)]) := by unfold CRow; rw [cellsC_append, List.length_append]; exact r1
            have HR8 := Lib.hid r1'
            clear hK K he r1 r2 r3 r1' hB HR6 HR7
            obtain ⟨a6, c6, rfl⟩ := HR8.out.sl
            simp only [Act.put, List.setIfInBounds_toArray, List.set_cons_zero, List.set_cons_succ]
            iterate 1 (refine mixd_pure _ rfl (by kernel_rfl) rfl rfl (fun K hK => ?_); go_big_quiet_op; refine hK _ ?_; clear hK K)
            refine mixd_end (by kernel_rfl) (fun w9 he => ?_)
            have HR9 := Lib.hid (HR8.out.mono he)
            clear he HR8
            go_wp2_with fail
            refine ⟨⟨l2, m2, _, rdp_tail (by have h := HSS.out.la; rw [List.length_cons, ← HNA.out] at h; exact h), rdp_tail (by have h := HSS.out.lb; rw [List.length_cons, ← HNM.out] at h; exact h), (fun z hz => HSS.out.sa z (List.mem_cons_of_mem _ hz)), (fun z hz => HSS.out.sb z (List.mem_cons_of_mem _ hz)), ?_, ?_, ?_, HR9.out, ?_⟩, ?_⟩
            · have := HSS.out.na; simp only [List.length_cons, List.length_nil] at this ⊢; omega
            · have := HSS.out.nb; simp only [List.length_cons, List.length_nil] at this ⊢; omega
            · have := HSS.out.nt; simp only [List.length_cons, List.length_nil, List.length_append] at this ⊢; omega
            · have := HSS.out.eq
              rw [diffL, if_neg (by rw [HLS.out]; simp), if_neg (by rw [HKK.out]; simp), if_neg (by rw [HVV.out]; simp)] at this
              simpa using this
            · simp only [lenOf]; omega
          | true =>
            go_wp2_with fail
            refine wp_region_mixK [0,1,2,3,4,5,6,7,8] Ext ExtR ExtT (by kernel_rfl) (by kernel_rfl) (by kernel_rfl) ?_
            iterate 3 (refine mixk_pure _ rfl (by kernel_rfl) rfl rfl (fun K hK => ?_); go_big_quiet_op; refine hK _ ?_; clear hK K)
            refine mixk_load ⟨bl, ol + 1, none⟩ _ rfl (by kernel_rfl) rfl rfl (fun w1 h1 => run_load_plain Tryz.uStr rfl (cell_ext QA2.out ((drewE _).trans h1))) ?_
            simp only [Act.put, List.setIfInBounds_toArray, List.set_cons_zero, List.set_cons_succ]
            iterate 3 (refine mixk_pure _ rfl (by kernel_rfl) rfl rfl (fun K hK => ?_); go_big_quiet_op; refine hK _ ?_; clear hK K)
            refine mixk_load ⟨bm, om + 1, none⟩ _ rfl (by kernel_rfl) rfl rfl (fun w1 h1 => run_load_plain Tryz.uStr rfl (cell_ext QB2.out ((drewE _).trans h1))) ?_
            simp only [Act.put, List.setIfInBounds_toArray, List.set_cons_zero, List.set_cons_succ]
            iterate 1 (refine mixk_pure _ rfl (by kernel_rfl) rfl rfl (fun K hK => ?_); go_big_quiet_op; refine hK _ ?_; clear hK K)
            refine mixk_end (by kernel_rfl) (fun w5 he => ?_)
            have hx5 := HX4.out.trans ((drewE _).trans he)
            have HR9 := Lib.hid (HSS.out.row.mono hx5)
            have HVV := Lib.hid hvv
            clear he hx5 HX4 hvv
            go_wp2_with fail
            refine ⟨⟨l2, m2, _, rdp_tail (by have h := HSS.out.la; rw [List.length_cons, ← HNA.out] at h; exact h), rdp_tail (by have h := HSS.out.lb; rw [List.length_cons, ← HNM.out] at h; exact h), (fun z hz => HSS.out.sa z (List.mem_cons_of_mem _ hz)), (fun z hz => HSS.out.sb z (List.mem_cons_of_mem _ hz)), ?_, ?_, ?_, HR9.out, ?_⟩, ?_⟩
            · have := HSS.out.na; simp only [List.length_cons, List.length_nil] at this ⊢; omega
            · have := HSS.out.nb; simp only [List.length_cons, List.length_nil] at this ⊢; omega
            · have := HSS.out.nt; simp only [List.length_cons, List.length_nil, List.length_append] at this ⊢; omega
            · have := HSS.out.eq
              rw [diffL, if_neg (by rw [HLS.out]; simp), if_neg (by rw [HKK.out]; simp), if_pos HVV.out] at this
              simpa using this
            · simp only [lenOf]; omega
end
end Go.Proofs.YtolhikjjchfnjaaGreatDoor
/- canon: CanonChanges, its walk. -/
namespace Go.Proofs.YtolhikjjchfnjaaGreatDoor
section
open Go Go.RowKit
set_option linter.unusedSimpArgs false
set_option linter.unusedVariables false
/-- What Apply answers, whichever: a row and a number. -/
def afterL (l : List Pair) (cs : List Chg) : List Pair := if applyE l cs = 0 then sortM (applyM l cs) else []
theorem after_row {w w' : World} {l : List Pair} {cs : List Chg} {e : Ending} (h : ApplyP w l cs e w') : ∃ a c, e = .returned (.tuple #[.slice a (afterL l cs).length c, .int .i64 (applyE l cs)]) ∧ RdP w' (.slice a (afterL l cs).length c) (afterL l cs) ∧ Ext w w' := by
  unfold ApplyP at h
  unfold afterL
  by_cases h0 : applyE l cs = 0
  · rw [if_pos h0] at h ⊢
    obtain ⟨r, rfl, hR⟩ := h
    obtain ⟨a, c, rfl⟩ := hR.sl
    rw [h0]
    exact ⟨a, c, rfl, ERow.rd hR, hR.ext⟩
  · rw [if_neg h0] at h ⊢
    obtain ⟨rfl, hE⟩ := h
    exact ⟨none, 0, rfl, .inl ⟨none, 0, rfl, rfl⟩, hE⟩
theorem after_rowR {w w' : World} {l : List Pair} {cs : List Chg} {e : Ending} (h : RApplyP w l cs e w') : ∃ a c, e = .returned (.tuple #[.slice a (afterL l cs).length c, .int .i64 (applyE l cs)]) ∧ RdP w' (.slice a (afterL l cs).length c) (afterL l cs) ∧ Ext w w' := by
  unfold RApplyP at h
  unfold afterL
  obtain ⟨hE, h⟩ := h
  by_cases h0 : applyE l cs = 0
  · rw [if_pos h0] at h ⊢
    obtain ⟨r, rfl, hR⟩ := h
    obtain ⟨a, c, rfl⟩ := hR.sl
    rw [h0]
    exact ⟨a, c, rfl, hR, hE⟩
  · rw [if_neg h0] at h ⊢
    subst h
    exact ⟨none, 0, rfl, .inl ⟨none, 0, rfl, rfl⟩, hE⟩
theorem after_len (l : List Pair) (cs : List Chg) : (afterL l cs).length ≤ 40 := by
  unfold afterL
  split
  · rename_i h; rw [sortM_len]; exact (apply_parts h).2.2
  · simp
theorem diffN_len2 (l m : List Pair) : (diffN l m).length ≤ 80 := by
  by_cases h : checkN l = 0 ∧ checkN m = 0
  · exact diffN_len (check_ok h.1).len (check_ok h.2).len
  · unfold diffN; rw [if_neg h]; simp
set_option maxRecDepth 100000 in
set_option maxHeartbeats 8000000 in
theorem changes_c (w : World) (hc : Cubes w) (v u v2 : Value) (l : List Pair) (cs : List Chg) (m : List Pair) (k : ByteArray) (hv : RdP w v l) (hu : RdC w u cs) (hv2 : RdP w v2 m) (hn : l.length ≤ 9223372036854775807) (hnc : cs.length ≤ 9223372036854775807) (hnm : m.length ≤ 9223372036854775807) (hs : SmallP l) (hsc : SmallC cs) (hsm : SmallP m) (hk : k.size ≤ 9223372036854775807) :
    Calls Tryz.prog 4 #[v, u, v2, .string k] w fun e w' => e = .returned (.bool true) ∧ Ext w w' := by
  have HC := Lib.hid hc
  have HV := Lib.hid hv
  have HU := Lib.hid hu
  have HM := Lib.hid hv2
  have HS := Lib.hid hs
  have HSC := Lib.hid hsc
  have HSM := Lib.hid hsm
  have HN := Lib.hid hn
  have HNC := Lib.hid hnc
  have HNM := Lib.hid hnm
  obtain ⟨a, c, hsl⟩ := hv.sl
  subst hsl
  obtain ⟨a', c', hsl'⟩ := hu.sl
  subst hsl'
  obtain ⟨a2, c2, hsl2⟩ := hv2.sl
  subst hsl2
  clear hc hv hu hv2 hs hsc hsm hn hnc hnm
  go_enter Tryz.func4, Tryz.ntmps4
  go_wp2_with fail
  refine (works5_c w HC.out).mono ?_
  rintro e w1 ⟨rfl, hE⟩
  have HE1 := Lib.hid hE
  clear hE
  go_wp2_with fail
  refine (few5_c w1 _ l (HV.out.ext HE1.out) HN.out HS.out).mono ?_
  rintro e w2 ⟨rfl, hE⟩
  have HE2 := Lib.hid (HE1.out.trans hE)
  clear hE HE1
  cases hfl : fewB l with
  | false =>
    clear hfl
    go_wp2_with fail
    go_ret
    exact ⟨rfl, HE2.out⟩
  | true =>
    have hl45 := few_len hfl
    clear hfl
    go_wp2_with fail
    refine (fewc_c w2 _ cs (HU.out.ext HE2.out) HNC.out HSC.out).mono ?_
    rintro e w3 ⟨rfl, hE⟩
    have HE3 := Lib.hid (HE2.out.trans hE)
    clear hE HE2
    cases hfc : fewC cs with
    | false =>
      clear hfc
      go_wp2_with fail
      go_ret
      exact ⟨rfl, HE3.out⟩
    | true =>
      have hc45 := fewC_len hfc
      clear hfc
      go_wp2_with fail
      refine (few5_c w3 _ m (HM.out.ext HE3.out) HNM.out HSM.out).mono ?_
      rintro e w4 ⟨rfl, hE⟩
      have HE4 := Lib.hid (HE3.out.trans hE)
      clear hE HE3
      cases hfm : fewB m with
      | false =>
        clear hfm
        go_wp2_with fail
        go_ret
        exact ⟨rfl, HE4.out⟩
      | true =>
        have hm45 := few_len hfm
        clear hfm
        by_cases hk100 : k.size ≤ 100
        case neg =>
          have b0 : (100 : Int) < (k.size : Int) := by omega
          go_wp2_with fail
          go_ret
          exact ⟨rfl, HE4.out⟩
        have b0 : ¬ (100 : Int) < (k.size : Int) := by omega
        have HAL := Lib.hid (after_len l cs)
        have HDL := Lib.hid (diffN_len2 l m)
        go_wp2_with fail
        refine (apply_c w4 _ _ l cs (HV.out.ext HE4.out) (HU.out.ext HE4.out) (by omega) (by omega) HS.out HSC.out).mono ?_
        intro e w5 h5
        obtain ⟨a5, c5, rfl, hR5, hE5⟩ := after_row h5
        have HE5 := Lib.hid (HE4.out.trans hE5)
        have HR5 := Lib.hid hR5
        clear h5 hR5 hE5 HE4
        go_wp2_with fail
        refine (rapply_c w5 _ _ l cs (HV.out.ext HE5.out) (HU.out.ext HE5.out) hl45 hc45 HS.out HSC.out).mono ?_
        intro e w6 h6
        obtain ⟨a6, c6, rfl, hR6, hE6⟩ := after_rowR h6
        have HE6 := Lib.hid (HE5.out.trans hE6)
        have HR56 := Lib.hid (HR5.out.ext hE6)
        have HR6 := Lib.hid hR6
        clear h6 hR6 hE6 HE5 HR5
        obtain ⟨M, hM⟩ : ∃ M, M = afterL l cs := ⟨_, rfl⟩
        obtain ⟨x, hx⟩ : ∃ x, x = applyE l cs := ⟨_, rfl⟩
        rw [← hM] at HR56 HR6 HAL ⊢
        rw [← hx]
        have hal := HAL.out
        clear hM hx HAL
        go_wp2_with fail
        refine (find_c w6 _ l k (HV.out.ext HE6.out) (by omega)).mono ?_
        rintro e w7 ⟨rfl, hE⟩
        rw [findB_look, optV_eq]
        have HE7 := Lib.hid (HE6.out.trans hE)
        have HR57 := Lib.hid (HR56.out.ext hE)
        have HR67 := Lib.hid (HR6.out.ext hE)
        clear hE HE6 HR56 HR6
        obtain ⟨o, ho⟩ : ∃ o, o = look l k.data.toList := ⟨_, rfl⟩
        rw [← ho]
        have HO := Lib.hid ho
        clear ho
        go_wp2_with fail
        refine (rfind_c w7 _ l k (HV.out.ext HE7.out) (by omega)).mono ?_
        rintro e w8 ⟨rfl, hE⟩
        rw [← HO.out, optV_eq]
        have HE8 := Lib.hid (HE7.out.trans hE)
        have HR58 := Lib.hid (HR57.out.ext hE)
        have HR68 := Lib.hid (HR67.out.ext hE)
        clear hE HE7 HR57 HR67 HO
        obtain ⟨s, hs⟩ : ∃ s, s = optS o := ⟨_, rfl⟩
        obtain ⟨q, hq⟩ : ∃ q, q = o.isSome := ⟨_, rfl⟩
        rw [← hs, ← hq]
        clear hs hq
        have hss : (s.toList == s.toList) = true := by simp
        have hqq : (q == q) = true := by simp
        have hxx : (x == x) = true := by simp
        go_wp2_with fail
        refine (same_c w8 _ _ M M HR58.out HR68.out (by omega) (by omega)).mono ?_
        rintro e w9 ⟨rfl, hE⟩
        rw [sameL_self]
        have HE9 := Lib.hid (HE8.out.trans hE)
        clear hE HE8 HR58 HR68
        go_wp2_with fail
        refine (diff_c w9 _ _ l m (HV.out.ext HE9.out) (HM.out.ext HE9.out) (by omega) (by omega) HS.out HSM.out).mono ?_
        rintro e w10 ⟨r10, rfl, hR⟩
        obtain ⟨D, hD⟩ : ∃ D, D = diffN l m := ⟨_, rfl⟩
        have HDD := Lib.hid hD
        rw [← hD] at hR HDL
        obtain ⟨a10, c10, rfl⟩ := hR.sl
        have HE10 := Lib.hid (HE9.out.trans hR.ext)
        have HR10 := Lib.hid (CRow.rd hR)
        have hdl := HDL.out
        clear hR hD HE9 HDL
        go_wp2_with fail
        refine (rdiff_c w10 _ _ l m (HV.out.ext HE10.out) (HM.out.ext HE10.out) hl45 hm45 HS.out HSM.out).mono ?_
        rintro e w11 ⟨r11, rfl, hR⟩
        rw [← HDD.out] at hR
        obtain ⟨a11, c11, rfl⟩ := hR.sl
        have HE11 := Lib.hid (HE10.out.trans hR.ext)
        have HR11 := Lib.hid (CRow.rd hR)
        have HR12 := Lib.hid (HR10.out.ext hR.ext)
        clear hR HE10 HR10 HDD
        go_wp2_with fail
        refine (samec_c w11 _ _ D HR12.out HR11.out (by omega)).mono ?_
        rintro e w12 ⟨rfl, hE⟩
        have HE12 := Lib.hid (HE11.out.trans hE)
        clear hE HE11
        go_wp2_with fail
        go_ret
        exact ⟨rfl, HE12.out⟩
end
end Go.Proofs.YtolhikjjchfnjaaGreatDoor
/- CanonChanges, the card: the law is true for every input. -/
namespace Go.Proofs.YtolhikjjchfnjaaGreatDoor
section
open Go Go.ChangeShapes Go.WideShapes Go.ChangeAt Go.RowKit Go.ChangeMaps
set_option linter.unusedSimpArgs false
set_option linter.unusedVariables false
set_option maxRecDepth 100000 in
theorem canonChanges_contract (H : Type) (enc : TypeId × Value → H) (W : World) (base : Nat) (args : Array Value) (ds gs : List (DataW H)) (before : List MemPlace)
    (hval : ∀ (j : Nat) t v, Tryz.f4.params[j]? = some t → args[j]? = some v → Value.okWide Tryz.prog W .any base t v)
    (hW : DataW.Whole enc Tryz.prog Tryz.f4.params.toList Rows.canonChangesSpec.vars false W args.toList ds gs before) (hL : laidMetH Tryz.prog Rows.canonChangesRow.laid W) :
    Calls Tryz.prog 4 args W fun e W' => ∃ v, e = .returned v ∧ Rows.canonChangesSpec.post enc Tryz.prog Tryz.f4 false true false false W args v W' := by
  have hW' := hW
  obtain ⟨p, q, hA0, hV, rfl, hfz, hnd⟩ := hW
  have hA : DataW.TrodAll enc Tryz.prog W 0 (fun _ => true) true Tryz.f4.params.toList args.toList ds p := hA0
  rw [Tryz.params4] at hA hval
  obtain ⟨v0, v1, v2, v3, d0, d1, d2, d3, p0, p1, p2, p3, rfl, rfl, rfl, h0, h1, h2, h3⟩ := trodAll_four hA
  obtain ⟨rfl, rfl⟩ := trodVars_none hV
  obtain ⟨l0, hl0, hn0, hs0⟩ := open_entries (okWide_slice Tryz.underlying22 (hval 0 22 v0 rfl rfl)) h0
  obtain ⟨l1, hl1, hn1, hs1⟩ := open_changes (okWide_slice Tryz.underlying35 (hval 1 35 v1 rfl rfl)) h1
  obtain ⟨l2, hl2, hn2, hs2⟩ := open_entries (okWide_slice Tryz.underlying22 (hval 2 22 v2 rfl rfl)) h2
  obtain ⟨s3, rfl, rfl, rfl, ws3⟩ := open_string Tryz.underlying9 (hval 3 9 v3 rfl rfl) h3
  have hk3 := Nat.le_trans ws3 maxLen_big
  clear hA0
  simp only [List.append_nil, List.nil_append] at hW'
  have hlt : ∀ x ∈ p0 ++ p1 ++ p2, x.block < W.heap.size := fun x hx => by simpa using hW'.lt x (by simpa using hx)
  refine (changes_c W (cubes_of hL) v0 v1 v2 l0 l1 l2 s3 hl0 hl1 hl2 hn0 hn1 hn2 hs0 hs1 hs2 hk3).mono fun e W' ⟨he, hE⟩ => ?_
  subst he
  have hb : Below W.heap.size W W' := ⟨hE.os, hE.tape, hE.output, hE.size, fun k hk => hE.block k hk (fun h => h)⟩
  have hres : DataW.TrodAll enc Tryz.prog W' 0 (fun b => decide (b < W.heap.size)) true [22, 35, 22, 9] [v0, v1, v2, .string s3] [d0, d1, d2, .lit (.string s3.data.toList)] (p0 ++ p1 ++ p2) := by
    simpa using trodAll_mk4 (Below.trod Tryz.laidOutK (by kernel_rfl) (of_decide_eq_true (by kernel_rfl)) h0 hb (fun x hx => hlt x (by simp [hx]))) (Below.trod Tryz.laidOutK (by kernel_rfl) (of_decide_eq_true (by kernel_rfl)) h1 hb (fun x hx => hlt x (by simp [hx]))) (Below.trod Tryz.laidOutK (by kernel_rfl) (of_decide_eq_true (by kernel_rfl)) h2 hb (fun x hx => hlt x (by simp [hx]))) (shut_string Tryz.underlying9 ws3)
  refine ⟨_, rfl, _, _, _, [], p0 ++ p1 ++ p2, [], hW', trodAll_mk1 (shut_bool Tryz.underlying4 _), ?_, rfl, hb.frame _, fun h => by cases h⟩
  exact hres
set_option maxRecDepth 100000 in
theorem canonChanges_reads (os : Os) {H : Type} (enc : TypeId × Value → H) : ∃ places, DataW.whole enc Tryz.prog ((laidWorld os).forCall (fun _ _ => 0) ⟨#[], #[.slice none 0 0, .slice none 0 0, .slice none 0 0, .string ⟨#[]⟩], []⟩).memory Tryz.f4.params.toList Rows.canonChangesSpec.vars false #[.slice none 0 0, .slice none 0 0, .slice none 0 0, .string ⟨#[]⟩].toList 8 = some ([.nil, .nil, .nil, .lit (.string [])], [], places) :=
  ⟨[], by kernel_rfl⟩
set_option maxRecDepth 100000 in
theorem canonChanges_lifted (os : Os) (started : os.Started) (H : Type) (enc : TypeId × Value → H) (F : Stop.Interp) :
    ReturnsInHanded {} Tryz.checked os 4 .any ((OpenSpec.ofChange Rows.canonChangesSpec).preRow enc Tryz.prog Tryz.f4 Rows.canonChangesRow.domain false Rows.canonChangesRow.laid) (((OpenSpec.ofChange Rows.canonChangesSpec).at F).post enc Tryz.prog Tryz.f4 false true false false) := by
  obtain ⟨places, hx⟩ := canonChanges_reads os enc
  refine returnsInHanded_of_row (C := Tryz.checked) (s := OpenSpec.ofChange Rows.canonChangesSpec) Tryz.ownK started (by kernel_rfl) Tryz.func4
    (witness_row_at (enc := enc) (C := Tryz.checked) false (laidWorld os) #[.slice none 0 0, .slice none 0 0, .slice none 0 0, .string ⟨#[]⟩] rfl (by kernel_rfl) (by kernel_rfl) (by kernel_rfl)
      (OpenSpec.preRow_of_cond 8 hx (by kernel_rfl) (fun k hk => by cases hk) (by kernel_rfl) (laid_met os _))) ?_
  intro W base args ds gs before hval hW _ _ _ hL _ _
  exact canonChanges_contract H enc W base args ds gs before hval hW hL
theorem canonChanges_said : Rows.CanonChangesSaid :=
  OpenClaim.holds_of_cond 4 Tryz.f4 rfl rfl rfl rfl rfl rfl rfl ⟨rfl, rfl, rfl, rfl, rfl⟩ rfl rfl rfl rfl rfl (by kernel_rfl) Tryz.func4 (by kernel_rfl)
    (of_decide_eq_true (by kernel_rfl)) (by unfold Func.isWrapper; first | (rw [if_pos (by decide +kernel)]; kernel_rfl) | (rw [if_neg (by decide +kernel)]; exact ⟨rfl, rfl⟩))
    (fun os started H enc _ F => by rw [OpenClaim.pre_eq_preRow]; exact canonChanges_lifted os started H enc F)
theorem canonChangesCard_holds : Rows.CanonChangesCardSaid :=
  Claim7.holds_tied_plain_at .later [] [.handle, .data] true (true, "79678ca2a070e6b28f83784ea4f06b3bb3739c3a78af8def0c67aaeb6329fa64") true
    canonChanges_said (fun _ h => by cases h) (by kernel_rfl) (fun _ h => by cases h) canonChanges_row_tie rfl ⟨rfl, rfl⟩ (by kernel_rfl) rfl
    (fun f fn hf hfn => by
      obtain rfl : f = 4 := Option.some.inj ((show Tryz.prog.funcNamed "guilloche/guillochelaw05.CanonChanges" = some 4 by kernel_rfl).symm.trans hf) |>.symm
      obtain rfl : fn = Tryz.f4 := (Option.some.inj (Tryz.func4.symm.trans hfn)).symm
      exact ⟨by kernel_rfl, fun j t ht => by
        rw [Tryz.params4] at ht
        have hm : t ∈ [22, 35, 22, 9] := by simpa using Array.mem_of_getElem? ht
        have hall : ([22, 35, 22, 9].all fun u => !Tryz.prog.wantsStandIn u) = true := by kernel_rfl
        exact (show Tryz.prog.wantsStandIn t = false by simpa using List.all_eq_true.1 hall t hm)⟩)
    (by kernel_rfl)
end
end Go.Proofs.YtolhikjjchfnjaaGreatDoor
