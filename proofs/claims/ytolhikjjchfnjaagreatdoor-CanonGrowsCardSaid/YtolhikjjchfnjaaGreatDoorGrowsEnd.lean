/- Parts of the proof, one behind the other: GrowB, GrowsP. Each is under no condition but those that it states. -/
import Derived.Test.YtolhikjjchfnjaaGreatDoorBa35
import Derived.Test.YtolhikjjchfnjaaGreatDoorBa34
import Derived.Test.YtolhikjjchfnjaaGreatDoorBa30
import Derived.Test.YtolhikjjchfnjaaGreatDoorBa33
import Derived.WalkKit
import Derived.ProofKit
import Derived.OpenShut
import Derived.Lib.SmallJoins
import Derived.Deep.DeepHandedRow
import Derived.Lay
import Derived.Carry
import Derived.ChangeMaps5
/- canon: CanonGrows, its walk. -/
namespace Go.Proofs.YtolhikjjchfnjaaGreatDoor
section
open Go Go.RowKit
set_option linter.unusedSimpArgs false
set_option linter.unusedVariables false
def matchB (v t : ByteArray) (a : Nat) : Bool := (t.extract a (a + v.size)).toList == v.toList
theorem match_inf {v t : ByteArray} (h : Inf v t) : ∃ a, a + v.size ≤ t.size ∧ matchB v t a = true := by
  obtain ⟨s, r, e⟩ := h
  have hl := congrArg List.length e
  simp only [List.length_append] at hl
  have hv : v.data.toList.length = v.size := rfl
  have ht : t.data.toList.length = t.size := rfl
  refine ⟨s.length, by omega, ?_⟩
  unfold matchB
  rw [ByteArray.toList_eq, ByteArray.toList_eq, ByteArray.data_extract, Array.toList_extract, List.extract_eq_take_drop, ← e]
  have : (s.length + v.size - s.length) = v.data.toList.length := by omega
  rw [this]; simp
theorem texts_small {l : List Pair} (h : checkN l = 0) : ∀ t ∈ firsts (flatT (trieT l)), t.size ≤ 1000000 := fun t ht => by
  obtain ⟨n, ⟨e, g, hn⟩, _⟩ := (texts h).node t ht
  have := nodeB_size n (hn.one (inlP g))
  rw [e]; omega
def GrRel (w : World) (l : List Pair) (iv : Value) (wr : World) : Prop := ∃ i : Nat, i ≤ l.length ∧ iv = .int .i64 i ∧ Ext w wr
def GrRel2 (w : World) (v : ByteArray) (L : List ByteArray) (fv jv : Value) (wr : World) : Prop := ∃ (j : Nat) (f : Bool), j ≤ L.length ∧ jv = .int .i64 j ∧ fv = .bool f ∧ Ext w wr ∧ (f = false → ∀ t ∈ L.take j, ¬ Inf v t)
def GrRel3 (w : World) (v t : ByteArray) (fv av : Value) (wr : World) : Prop := ∃ (a : Nat) (f : Bool), a ≤ t.size + 1 ∧ av = .int .i64 a ∧ fv = .bool f ∧ Ext w wr ∧ (f = false → ∀ b < a, matchB v t b = false)
set_option maxRecDepth 100000 in
set_option maxHeartbeats 8000000 in
theorem grows_c (w : World) (hc : Cubes w) (v : Value) (l : List Pair) (hv : RdP w v l) (hn : l.length ≤ 9223372036854775807) (hs : SmallP l) :
    Calls Tryz.prog 9 #[v] w fun e w' => e = .returned (.bool true) ∧ Ext w w' := by
  have HC := Lib.hid hc
  have HV := Lib.hid hv
  have HS := Lib.hid hs
  have HN := Lib.hid hn
  obtain ⟨a, c, hsl⟩ := hv.sl
  subst hsl
  clear hc hv hs hn
  go_enter Tryz.func9, Tryz.ntmps9
  go_wp2_with fail
  refine (works5_c w HC.out).mono ?_
  rintro e w1 ⟨rfl, hE⟩
  have HE1 := Lib.hid hE
  clear hE
  go_wp2_with fail
  refine (few5_c w1 _ l (HV.out.ext HE1.out) HN.out HS.out).mono ?_
  rintro e w2 ⟨rfl, hE⟩
  have HE2 := Lib.hid (HE1.out.trans hE)
  clear hE HE1
  obtain ⟨fw, hfw⟩ : ∃ fw, fw = fewB l := ⟨_, rfl⟩
  rw [← hfw]
  have HFW := Lib.hid hfw
  clear hfw
  by_cases hcl : checkN l = 0
  case neg =>
    go_wp2_with fail
    refine (nodes_bad w2 _ l (HV.out.ext HE2.out) HN.out HS.out hcl).mono ?_
    rintro e w3 ⟨rfl, hE⟩
    have HE3 := Lib.hid (HE2.out.trans hE)
    obtain ⟨x, hx⟩ : ∃ x, x = checkN l := ⟨_, rfl⟩
    rw [← hx] at hcl ⊢
    have hne : (x == 0) = false := by simpa using hcl
    have hne2 : (x != 0) = true := by simpa using hcl
    clear hcl hx hE HE2
    cases fw with
    | false =>
      go_wp2_with fail
      go_ret
      exact ⟨rfl, HE3.out⟩
    | true =>
      go_wp2_with fail
      go_ret
      exact ⟨rfl, HE3.out⟩
  have hl40 := (check_ok hcl).len
  have HCL := Lib.hid hcl
  clear hcl
  go_wp2_with fail
  refine (nodes_ok w2 _ l (HC.out.ext HE2.out) (HV.out.ext HE2.out) HCL.out).mono ?_
  rintro e w3 ⟨u3, n3, rfl, hR⟩
  obtain ⟨L, hL⟩ : ∃ L, L = firsts (flatT (trieT l)) := ⟨_, rfl⟩
  rw [← hL] at hR
  obtain ⟨hg1, hg2⟩ := trie_grows HCL.out
  rw [← hL] at hg1 hg2
  have HG := Lib.hid hg2
  have HTS := Lib.hid (show ∀ t ∈ L, t.size ≤ 1000000 by rw [hL]; exact texts_small HCL.out)
  have hln : L.length = n3 := by have := hR.len; simpa using this
  have hrd := hR.rd
  obtain ⟨a3, c3, e3⟩ := hR.sl
  have HE3 := Lib.hid (HE2.out.trans hR.ext)
  subst e3
  have HL3 := Lib.hid hrd
  subst hln
  clear hR hrd HE2 hL hg2
  have hlL : L.length ≤ 1000000 := by omega
  cases fw with
  | false =>
    go_wp2_with fail
    go_ret
    exact ⟨rfl, HE3.out⟩
  | true =>
    go_wp2_with fail
    go_loopw [7] (fun iv wr => GrRel w3 l iv wr) (fun iv _ => l.length - (intOf iv).toNat)
    case atStart => exact ⟨0, by omega, rfl, ExtR w3⟩
    case round =>
      obtain ⟨i, hi, rfl, hE⟩ := hrel
      have HE4 := Lib.hid hE
      clear hE
      by_cases hlt : i < l.length
      · have b1 : (i : Int) < (l.length : Int) := by omega
        rcases HV.out with ⟨_, _, _, h0⟩ | ⟨bl, ol, c1, hh, hb, hcc, hcell⟩
        · rw [h0] at hlt; cases hlt
        cases hh
        obtain ⟨p, hp⟩ : ∃ p, l[i]? = some p := ⟨_, List.getElem?_eq_getElem hlt⟩
        have QV := Lib.hid (cell_ext (hcell i p hp).2 HE3.out)
        have HIN := Lib.hid (HG.out p (List.mem_of_getElem? hp))
        have hsv := (HS.out p (List.mem_of_getElem? hp)).2
        have hv80 := ((check_ok HCL.out).size p (List.mem_of_getElem? hp)).2.2.2
        obtain ⟨x, v⟩ := p
        simp only at QV HIN hsv hv80
        clear hcell hp hb hcc hsv
        go_wp2_with fail
        go_loopw [8, 9] (fun fv jv wr => GrRel2 w3 v L fv jv wr) (fun _ jv _ => L.length - (intOf jv).toNat)
        case atStart => exact ⟨0, false, by omega, rfl, rfl, HE4.out, by simp⟩
        case round =>
          clear HE4
          obtain ⟨j, f, hj, rfl, rfl, hE, hno⟩ := hrel
          have HE5 := Lib.hid hE
          have HNO := Lib.hid hno
          clear hE hno
          by_cases hjt : j < L.length
          · have b2 : (j : Int) < (L.length : Int) := by omega
            cases f with
            | true =>
              go_wp2_with fail
              go_roundw
              case rel => exact ⟨i + 1, by omega, by go_num, HE5.out⟩
              case measure => simp [intOf]; omega
            | false =>
              rcases HL3.out with ⟨_, _, _, h0⟩ | ⟨bx, ox, c2, hh, hb, hcc, hcell⟩
              · rw [h0] at hjt; cases hjt
              cases hh
              obtain ⟨t, ht⟩ : ∃ t, L[j]? = some t := ⟨_, List.getElem?_eq_getElem hjt⟩
              have QT := Lib.hid (hcell j t ht)
              have HT := Lib.hid ht
              clear hcell ht hb hcc
              go_wp2_with fail
              go_loopw [8, 10] (fun fv av wr => GrRel3 w3 v t fv av wr) (fun _ av _ => t.size + 2 - (intOf av).toNat)
              case atStart => exact ⟨0, false, by omega, rfl, rfl, HE5.out, by simp⟩
              case round =>
                clear HE5
                obtain ⟨a, f, ha, rfl, rfl, hE, hma⟩ := hrel
                have HE6 := Lib.hid hE
                have HMA := Lib.hid hma
                have qv := cell_ext QV.out hE
                have qt := cell_ext QT.out hE
                clear hE hma
                have hts : t.size ≤ 1000000 := HTS.out t (List.mem_of_getElem? HT.out)
                by_cases hle : a + v.size ≤ t.size
                · have b3 : (a : Int) + (v.size : Int) ≤ (t.size : Int) := by omega
                  cases f with
                  | true =>
                    go_wp2_with fail
                    refine wp_region_mixK [0,1,2,3,4,5,6,7,8,9,10,11,12,13,14,15,16,17] Ext ExtR ExtT (by kernel_rfl) (by kernel_rfl) (by kernel_rfl) ?_
                    iterate 5 (refine mixk_pure _ rfl (by kernel_rfl) rfl rfl (fun K hK => ?_); go_big_quiet_op; refine hK _ ?_; clear hK K)
                    refine mixk_load ⟨bl, ol + i * 2 + 1, none⟩ _ rfl (by kernel_rfl) rfl rfl (fun w1 h1 => run_load_plain Tryz.uStr rfl (cell_ext qv ((drewE _).trans h1))) ?_
                    simp only [Act.put, List.setIfInBounds_toArray, List.set_cons_zero, List.set_cons_succ]
                    iterate 5 (refine mixk_pure _ rfl (by kernel_rfl) rfl rfl (fun K hK => ?_); go_big_quiet_op; refine hK _ ?_; clear hK K)
                    refine mixk_load ⟨bx, ox + j, none⟩ _ rfl (by kernel_rfl) rfl rfl (fun w1 h1 => run_load_plain Tryz.uStr rfl (cell_ext qt ((drewE _).trans h1))) ?_
                    simp only [Act.put, List.setIfInBounds_toArray, List.set_cons_zero, List.set_cons_succ]
                    iterate 3 (refine mixk_pure _ rfl (by kernel_rfl) rfl rfl (fun K hK => ?_); go_big_quiet_op; refine hK _ ?_; clear hK K)
                    iterate 2 (refine mixk_pure _ rfl (by kernel_rfl) rfl rfl (fun K hK => ?_); go_big_quiet_op; refine hK _ ?_; clear hK K)
                    iterate 1 (refine mixk_pure _ rfl (by kernel_rfl) rfl rfl (fun K hK => ?_); go_big_quiet_op; refine hK _ ?_; clear hK K)
                    refine mixk_end (by kernel_rfl) (fun w3 he => ?_)
                    have HE7 := Lib.hid (HE6.out.trans ((drewE _).trans he))
                    clear he qv qt
                    go_wp2_with fail
                    go_roundw
                    case rel => exact ⟨j + 1, true, by omega, by go_num, rfl, HE7.out, by simp⟩
                    case measure => simp [intOf]; omega
                  | false =>
                    go_wp2_with fail
                    refine wp_region_mixK [0,1,2,3,4,5,6,7,8,9,10,11,12,13,14,15,16,17] Ext ExtR ExtT (by kernel_rfl) (by kernel_rfl) (by kernel_rfl) ?_
                    iterate 5 (refine mixk_pure _ rfl (by kernel_rfl) rfl rfl (fun K hK => ?_); go_big_quiet_op; refine hK _ ?_; clear hK K)
                    refine mixk_load ⟨bl, ol + i * 2 + 1, none⟩ _ rfl (by kernel_rfl) rfl rfl (fun w1 h1 => run_load_plain Tryz.uStr rfl (cell_ext qv ((drewE _).trans h1))) ?_
                    simp only [Act.put, List.setIfInBounds_toArray, List.set_cons_zero, List.set_cons_succ]
                    iterate 5 (refine mixk_pure _ rfl (by kernel_rfl) rfl rfl (fun K hK => ?_); go_big_quiet_op; refine hK _ ?_; clear hK K)
                    refine mixk_load ⟨bx, ox + j, none⟩ _ rfl (by kernel_rfl) rfl rfl (fun w1 h1 => run_load_plain Tryz.uStr rfl (cell_ext qt ((drewE _).trans h1))) ?_
                    simp only [Act.put, List.setIfInBounds_toArray, List.set_cons_zero, List.set_cons_succ]
                    iterate 3 (refine mixk_pure _ rfl (by kernel_rfl) rfl rfl (fun K hK => ?_); go_big_quiet_op; refine hK _ ?_; clear hK K)
                    iterate 2 (refine mixk_pure _ rfl (by kernel_rfl) rfl rfl (fun K hK => ?_); go_big_quiet_op; refine hK _ ?_; clear hK K)
                    iterate 1 (refine mixk_pure _ rfl (by kernel_rfl) rfl rfl (fun K hK => ?_); go_big_quiet_op; refine hK _ ?_; clear hK K)
                    refine mixk_end (by kernel_rfl) (fun w3 he => ?_)
                    have hx7 := (drewE wr).trans he
                    have HE7 := Lib.hid (HE6.out.trans hx7)
                    have qv' := cell_ext qv hx7
                    have qt' := cell_ext qt hx7
                    clear he qv qt hx7
                    go_wp2_with fail
                    refine wp_region_mixK [0,1,2,3,4,5,6,7,8,9,10,11,12,13,14,15,16,17,18,19,20] Ext ExtR ExtT (by kernel_rfl) (by kernel_rfl) (by kernel_rfl) ?_
                    iterate 3 (refine mixk_pure _ rfl (by kernel_rfl) rfl rfl (fun K hK => ?_); go_big_quiet_op; refine hK _ ?_; clear hK K)
                    refine mixk_load ⟨bx, ox + j, none⟩ _ rfl (by kernel_rfl) rfl rfl (fun w1 h1 => run_load_plain Tryz.uStr rfl (cell_ext qt' ((drewE _).trans h1))) ?_
                    simp only [Act.put, List.setIfInBounds_toArray, List.set_cons_zero, List.set_cons_succ]
                    iterate 6 (refine mixk_pure _ rfl (by kernel_rfl) rfl rfl (fun K hK => ?_); go_big_quiet_op; refine hK _ ?_; clear hK K)
                    refine mixk_load ⟨bl, ol + i * 2 + 1, none⟩ _ rfl (by kernel_rfl) rfl rfl (fun w1 h1 => run_load_plain Tryz.uStr rfl (cell_ext qv' ((drewE _).trans h1))) ?_
                    simp only [Act.put, List.setIfInBounds_toArray, List.set_cons_zero, List.set_cons_succ]
                    iterate 7 (refine mixk_pure _ rfl (by kernel_rfl) rfl rfl (fun K hK => ?_); go_big_quiet_op; refine hK _ ?_; clear hK K)
                    refine mixk_load ⟨bl, ol + i * 2 + 1, none⟩ _ rfl (by kernel_rfl) rfl rfl (fun w1 h1 => run_load_plain Tryz.uStr rfl (cell_ext qv' ((drewE _).trans h1))) ?_
                    simp only [Act.put, List.setIfInBounds_toArray, List.set_cons_zero, List.set_cons_succ]
                    iterate 2 (refine mixk_pure _ rfl (by kernel_rfl) rfl rfl (fun K hK => ?_); go_big_quiet_op; refine hK _ ?_; clear hK K)
                    refine mixk_end (by kernel_rfl) (fun w4 he4 => ?_)
                    have HE8 := Lib.hid (HE7.out.trans ((drewE _).trans he4))
                    clear he4 qv' qt'
                    obtain ⟨mb, hmb⟩ : ∃ mb, mb = matchB v t a := ⟨_, rfl⟩
                    have HMB := Lib.hid (show mb = false → ∀ b < a + 1, matchB v t b = false by
                      intro h b hb
                      by_cases hba : b = a
                      · subst hba; rw [← hmb]; exact h
                      · exact HMA.out (by first | trivial | rfl) b (by omega))
                    have HMX := Lib.hid hmb
                    clear hmb
                    go_wp2_with fail
                    go_roundw
                    case rel => exact ⟨a + 1, mb, by omega, by go_num, by rw [HMX.out]; rfl, HE8.out, HMB.out⟩
                    case measure => simp [intOf]; omega
                · have b3 : ¬ (a : Int) + (v.size : Int) ≤ (t.size : Int) := by omega
                  have b4 : decide ((a : Int) + (v.size : Int) ≤ (t.size : Int)) = false := decide_eq_false b3
                  have b5 : decide (a + v.size ≤ t.size) = false := decide_eq_false hle
                  go_wp2_with fail
                  refine wp_region_mixK [0,1,2,3,4,5,6,7,8,9,10,11,12,13,14,15,16,17] Ext ExtR ExtT (by kernel_rfl) (by kernel_rfl) (by kernel_rfl) ?_
                  iterate 5 (refine mixk_pure _ rfl (by kernel_rfl) rfl rfl (fun K hK => ?_); go_big_quiet_op; refine hK _ ?_; clear hK K)
                  refine mixk_load ⟨bl, ol + i * 2 + 1, none⟩ _ rfl (by kernel_rfl) rfl rfl (fun w1 h1 => run_load_plain Tryz.uStr rfl (cell_ext qv ((drewE _).trans h1))) ?_
                  simp only [Act.put, List.setIfInBounds_toArray, List.set_cons_zero, List.set_cons_succ]
                  iterate 5 (refine mixk_pure _ rfl (by kernel_rfl) rfl rfl (fun K hK => ?_); go_big_quiet_op; refine hK _ ?_; clear hK K)
                  refine mixk_load ⟨bx, ox + j, none⟩ _ rfl (by kernel_rfl) rfl rfl (fun w1 h1 => run_load_plain Tryz.uStr rfl (cell_ext qt ((drewE _).trans h1))) ?_
                  simp only [Act.put, List.setIfInBounds_toArray, List.set_cons_zero, List.set_cons_succ]
                  iterate 3 (refine mixk_pure _ rfl (by kernel_rfl) rfl rfl (fun K hK => ?_); go_big_quiet_op; refine hK _ ?_; clear hK K)
                  iterate 2 (refine mixk_skip _ rfl (by kernel_rfl) rfl ?_; simp only [Act.put, List.setIfInBounds_toArray, List.set_cons_zero, List.set_cons_succ])
                  iterate 1 (refine mixk_pure _ rfl (by kernel_rfl) rfl rfl (fun K hK => ?_); go_big_quiet_op; refine hK _ ?_; clear hK K)
                  refine mixk_end (by kernel_rfl) (fun w3 he => ?_)
                  have HE7 := Lib.hid (HE6.out.trans ((drewE _).trans he))
                  have HN7 := Lib.hid (show f = false → ∀ t ∈ L.take (j + 1), ¬ Inf v t by
                    intro hf y hy
                    rw [List.take_add_one, HT.out] at hy
                    rcases List.mem_append.1 hy with hy | hy
                    · exact HNO.out (by first | trivial | rfl) y hy
                    · simp at hy; subst hy
                      intro hinf
                      obtain ⟨b, hb1, hb2⟩ := match_inf hinf
                      rw [HMA.out hf b (by omega)] at hb2; cases hb2)
                  clear he qv qt
                  go_wp2_with fail
                  go_roundw
                  case rel => exact ⟨j + 1, f, by omega, by go_num, rfl, HE7.out, HN7.out⟩
                  case measure => simp [intOf]; omega
          · have b2 : ¬ (j : Int) < (L.length : Int) := by omega
            have hft : f = true := by
              cases f with
              | true => rfl
              | false =>
                obtain ⟨t, ht, hinf⟩ := HIN.out
                exact absurd hinf (HNO.out (by first | trivial | rfl) t (by rw [List.take_of_length_le (by omega)]; exact ht))
            subst hft
            go_wp2_with fail
            go_roundw
            case rel => exact ⟨i + 1, by omega, by go_num, HE5.out⟩
            case measure => simp [intOf]; omega
      · have b1 : ¬ (i : Int) < (l.length : Int) := by omega
        have b2 : (L.length : Int) ≤ 1 + 3 * (l.length : Int) := by omega
        go_wp2_with fail
        go_ret
        exact ⟨rfl, HE3.out.trans HE4.out⟩
end
end Go.Proofs.YtolhikjjchfnjaaGreatDoor
/- CanonGrows, the card: the law is true for every input. -/
namespace Go.Proofs.YtolhikjjchfnjaaGreatDoor
section
open Go Go.ChangeShapes Go.WideShapes Go.ChangeAt Go.RowKit Go.ChangeMaps
set_option linter.unusedSimpArgs false
set_option linter.unusedVariables false
set_option maxRecDepth 100000 in
theorem canonGrows_contract (H : Type) (enc : TypeId × Value → H) (W : World) (base : Nat) (args : Array Value) (ds gs : List (DataW H)) (before : List MemPlace)
    (hval : ∀ (j : Nat) t v, Tryz.f9.params[j]? = some t → args[j]? = some v → Value.okWide Tryz.prog W .any base t v)
    (hW : DataW.Whole enc Tryz.prog Tryz.f9.params.toList Rows.canonGrowsSpec.vars false W args.toList ds gs before) (hL : laidMetH Tryz.prog Rows.canonGrowsRow.laid W) :
    Calls Tryz.prog 9 args W fun e W' => ∃ v, e = .returned v ∧ Rows.canonGrowsSpec.post enc Tryz.prog Tryz.f9 false true false false W args v W' := by
  have hW' := hW
  obtain ⟨p, q, hA0, hV, rfl, hfz, hnd⟩ := hW
  have hA : DataW.TrodAll enc Tryz.prog W 0 (fun _ => true) true Tryz.f9.params.toList args.toList ds p := hA0
  rw [Tryz.params9] at hA hval
  obtain ⟨v0, d0, rfl, rfl, h0⟩ := trodAll_one hA
  obtain ⟨rfl, rfl⟩ := trodVars_none hV
  obtain ⟨l0, hl0, hn0, hs0⟩ := open_entries (okWide_slice Tryz.underlying22 (hval 0 22 v0 rfl rfl)) h0
  clear hA0
  simp only [List.append_nil, List.nil_append] at hW'
  have hlt : ∀ x ∈ p, x.block < W.heap.size := fun x hx => by simpa using hW'.lt x (by simpa using hx)
  refine (grows_c W (cubes_of hL) v0 l0 hl0 hn0 hs0).mono fun e W' ⟨he, hE⟩ => ?_
  subst he
  have hb : Below W.heap.size W W' := ⟨hE.os, hE.tape, hE.output, hE.size, fun k hk => hE.block k hk (fun h => h)⟩
  have hres : DataW.TrodAll enc Tryz.prog W' 0 (fun b => decide (b < W.heap.size)) true [22] [v0] [d0] (p) := by
    simpa using trodAll_mk1 (Below.trod Tryz.laidOutK (by kernel_rfl) (of_decide_eq_true (by kernel_rfl)) h0 hb (fun x hx => hlt x (by simp [hx])))
  refine ⟨_, rfl, _, _, _, [], p, [], hW', trodAll_mk1 (shut_bool Tryz.underlying4 _), ?_, rfl, hb.frame _, fun h => by cases h⟩
  exact hres
set_option maxRecDepth 100000 in
theorem canonGrows_reads (os : Os) {H : Type} (enc : TypeId × Value → H) : ∃ places, DataW.whole enc Tryz.prog ((laidWorld os).forCall (fun _ _ => 0) ⟨#[], #[.slice none 0 0], []⟩).memory Tryz.f9.params.toList Rows.canonGrowsSpec.vars false #[.slice none 0 0].toList 8 = some ([.nil], [], places) :=
  ⟨[], by kernel_rfl⟩
set_option maxRecDepth 100000 in
theorem canonGrows_lifted (os : Os) (started : os.Started) (H : Type) (enc : TypeId × Value → H) (F : Stop.Interp) :
    ReturnsInHanded {} Tryz.checked os 9 .any ((OpenSpec.ofChange Rows.canonGrowsSpec).preRow enc Tryz.prog Tryz.f9 Rows.canonGrowsRow.domain false Rows.canonGrowsRow.laid) (((OpenSpec.ofChange Rows.canonGrowsSpec).at F).post enc Tryz.prog Tryz.f9 false true false false) := by
  obtain ⟨places, hx⟩ := canonGrows_reads os enc
  refine returnsInHanded_of_row (C := Tryz.checked) (s := OpenSpec.ofChange Rows.canonGrowsSpec) Tryz.ownK started (by kernel_rfl) Tryz.func9
    (witness_row_at (enc := enc) (C := Tryz.checked) false (laidWorld os) #[.slice none 0 0] rfl (by kernel_rfl) (by kernel_rfl) (by kernel_rfl)
      (OpenSpec.preRow_of_cond 8 hx (by kernel_rfl) (fun k hk => by cases hk) (by kernel_rfl) (laid_met os _))) ?_
  intro W base args ds gs before hval hW _ _ _ hL _ _
  exact canonGrows_contract H enc W base args ds gs before hval hW hL
theorem canonGrows_said : Rows.CanonGrowsSaid :=
  OpenClaim.holds_of_cond 9 Tryz.f9 rfl rfl rfl rfl rfl rfl rfl ⟨rfl, rfl, rfl, rfl, rfl⟩ rfl rfl rfl rfl rfl (by kernel_rfl) Tryz.func9 (by kernel_rfl)
    (of_decide_eq_true (by kernel_rfl)) (by unfold Func.isWrapper; first | (rw [if_pos (by decide +kernel)]; kernel_rfl) | (rw [if_neg (by decide +kernel)]; exact ⟨rfl, rfl⟩))
    (fun os started H enc _ F => by rw [OpenClaim.pre_eq_preRow]; exact canonGrows_lifted os started H enc F)
theorem canonGrowsCard_holds : Rows.CanonGrowsCardSaid :=
  Claim7.holds_tied_plain_at .later [] [.handle, .data] true (true, "79678ca2a070e6b28f83784ea4f06b3bb3739c3a78af8def0c67aaeb6329fa64") true
    canonGrows_said (fun _ h => by cases h) (by kernel_rfl) (fun _ h => by cases h) canonGrows_row_tie rfl ⟨rfl, rfl⟩ (by kernel_rfl) rfl
    (fun f fn hf hfn => by
      obtain rfl : f = 9 := Option.some.inj ((show Tryz.prog.funcNamed "guilloche/guillochelaw05.CanonGrows" = some 9 by kernel_rfl).symm.trans hf) |>.symm
      obtain rfl : fn = Tryz.f9 := (Option.some.inj (Tryz.func9.symm.trans hfn)).symm
      exact ⟨by kernel_rfl, fun j t ht => by
        rw [Tryz.params9] at ht
        have hm : t ∈ [22] := by simpa using Array.mem_of_getElem? ht
        have hall : ([22].all fun u => !Tryz.prog.wantsStandIn u) = true := by kernel_rfl
        exact (show Tryz.prog.wantsStandIn t = false by simpa using List.all_eq_true.1 hall t hm)⟩)
    (by kernel_rfl)
end
end Go.Proofs.YtolhikjjchfnjaaGreatDoor
