/- Parts of the proof, one behind the other: TwiceA. Each is under no condition but those that it states. -/
import Derived.Test.YtolhikjjchfnjaaGreatDoorBa32
import Derived.Test.YtolhikjjchfnjaaGreatDoorBa33
/- canon: CanonTwice, its walk. -/
namespace Go.Proofs.YtolhikjjchfnjaaGreatDoor
section
open Go Go.RowKit
set_option linter.unusedSimpArgs false
set_option linter.unusedVariables false
def SmallP (l : List Pair) : Prop := ∀ p ∈ l, p.1.size ≤ 9223372036854775807 ∧ p.2.size ≤ 9223372036854775807
def SmallC (l : List Chg) : Prop := ∀ p ∈ l, p.key.size ≤ 9223372036854775807 ∧ p.value.size ≤ 9223372036854775807
theorem smallP_ok {l : List Pair} (h : checkN l = 0) : SmallP l := fun p hp => by
  obtain ⟨h1, h2, h3, h4⟩ := (check_ok h).size p hp; omega
theorem few_len {l : List Pair} (h : fewB l = true) : l.length ≤ 45 := by
  unfold fewB at h; simp only [Bool.and_eq_true, decide_eq_true_eq] at h; exact h.2
theorem fewC_len {l : List Chg} (h : fewC l = true) : l.length ≤ 45 := by
  unfold fewC at h; simp only [Bool.and_eq_true, decide_eq_true_eq] at h; exact h.2
theorem sameL_self (l : List Pair) : sameL l l = true := (sameL_iff l l).2 rfl
def wantO (k : ByteArray) (l : List Pair) (cs : List Chg) : Option ByteArray := cs.foldl (lastC k.data.toList) (look l k.data.toList)
def optS (o : Option ByteArray) : ByteArray := o.getD ⟨#[]⟩
def TwRel (w : World) (k : ByteArray) (l : List Pair) (cs : List Chg) (wv ov iv : Value) (wr : World) : Prop := ∃ i : Nat, i ≤ cs.length ∧ iv = .int .i64 i ∧ wv = .string (optS (wantO k l (cs.take i))) ∧ ov = .bool (wantO k l (cs.take i)).isSome ∧ Ext w wr
theorem want_step {k : ByteArray} {l : List Pair} {cs : List Chg} {i : Nat} {c : Chg} (h : cs[i]? = some c) : wantO k l (cs.take (i + 1)) = lastC k.data.toList (wantO k l (cs.take i)) c := by
  unfold wantO; rw [List.take_add_one, h, List.foldl_append]; rfl
theorem key_beq (a b : ByteArray) : (a.toList == b.toList) = decide (b.data.toList = a.data.toList) := by
  rw [ByteArray.toList_eq, ByteArray.toList_eq]
  by_cases h : b.data.toList = a.data.toList
  · rw [h]; simp
  · rw [decide_eq_false h, Bool.eq_false_iff]; intro e; exact h (eq_of_beq e).symm
theorem chg_gone {cs : List Chg} (h : cs.any Chg.bad = false) {c : Chg} (hc : c ∈ cs) (hg : c.gone = true) : c.value = ⟨#[]⟩ := by
  have hb : c.bad = false := by
    rw [Bool.eq_false_iff]; intro e
    have : cs.any Chg.bad = true := List.any_eq_true.2 ⟨c, hc, e⟩
    rw [h] at this; cases this
  unfold Chg.bad at hb
  rw [hg] at hb
  simp at hb
  exact hb.2
theorem optV_eq (o : Option ByteArray) : optV o = .tuple #[.string (optS o), .bool o.isSome] := by cases o <;> rfl
set_option maxRecDepth 100000 in
set_option maxHeartbeats 8000000 in
theorem twice_c (w : World) (hc : Cubes w) (v u : Value) (l : List Pair) (cs : List Chg) (k : ByteArray) (hv : RdP w v l) (hu : RdC w u cs) (hn : l.length ≤ 9223372036854775807) (hnc : cs.length ≤ 9223372036854775807) (hs : SmallP l) (hsc : SmallC cs) (hk : k.size ≤ 9223372036854775807) :
    Calls Tryz.prog 7 #[v, u, .string k] w fun e w' => e = .returned (.bool true) ∧ Ext w w' := by
  have HC := Lib.hid hc
  have HV := Lib.hid hv
  have HU := Lib.hid hu
  have HS := Lib.hid hs
  have HSC := Lib.hid hsc
  have HN := Lib.hid hn
  have HNC := Lib.hid hnc
  obtain ⟨a, c, hsl⟩ := hv.sl
  subst hsl
  obtain ⟨a', c', hsl'⟩ := hu.sl
  subst hsl'
  clear hc hv hu hs hsc hn hnc
  go_enter Tryz.func7, Tryz.ntmps7
  go_wp2_with fail
  refine (works5_c w HC.out).mono ?_
  rintro e w1 ⟨rfl, hE⟩
  have HE1 := Lib.hid hE
  clear hE
  go_wp2_with fail
  refine (few5_c w1 _ l (HV.out.ext HE1.out) HN.out HS.out).mono ?_
  rintro e w2 ⟨rfl, hE⟩
  have HE2 := Lib.hid (HE1.out.trans hE)
  clear hE HE1
  cases hfl : fewB l with
  | false =>
    clear hfl
    go_wp2_with fail
    go_ret
    exact ⟨rfl, HE2.out⟩
  | true =>
    have hl45 := few_len hfl
    clear hfl
    go_wp2_with fail
    refine (fewc_c w2 _ cs (HU.out.ext HE2.out) HNC.out HSC.out).mono ?_
    rintro e w3 ⟨rfl, hE⟩
    have HE3 := Lib.hid (HE2.out.trans hE)
    clear hE HE2
    cases hfc : fewC cs with
    | false =>
      clear hfc
      go_wp2_with fail
      go_ret
      exact ⟨rfl, HE3.out⟩
    | true =>
      have hc45 := fewC_len hfc
      clear hfc
      by_cases hk100 : k.size ≤ 100
      case neg =>
        have b0 : (100 : Int) < (k.size : Int) := by omega
        go_wp2_with fail
        go_ret
        exact ⟨rfl, HE3.out⟩
      have b0 : ¬ (100 : Int) < (k.size : Int) := by omega
      go_wp2_with fail
      refine (apply_c w3 _ _ l cs (HV.out.ext HE3.out) (HU.out.ext HE3.out) (by omega) (by omega) HS.out HSC.out).mono ?_
      rintro e w4 h4
      unfold ApplyP at h4
      by_cases hap : applyE l cs = 0
      case neg =>
        rw [if_neg hap] at h4
        obtain ⟨rfl, hE⟩ := h4
        have HE4 := Lib.hid (HE3.out.trans hE)
        obtain ⟨x, hx⟩ : ∃ x, x = applyE l cs := ⟨_, rfl⟩
        rw [← hx] at hap ⊢
        have hne : (x == 0) = false := by simpa using hap
        have hne2 : (x != 0) = true := by simpa using hap
        clear hE HE3 hap hx
        go_wp2_with fail
        go_ret
        exact ⟨rfl, HE4.out⟩
      rw [if_pos hap] at h4
      obtain ⟨r4, rfl, hR⟩ := h4
      have HAP := Lib.hid hap
      obtain ⟨M, hM⟩ : ∃ M, M = sortM (applyM l cs) := ⟨_, rfl⟩
      rw [← hM] at hR
      have HM := Lib.hid hM
      have HCM := Lib.hid (show checkN M = 0 by rw [hM]; exact after_check hap)
      have HTW := Lib.hid (show applyE M cs = 0 ∧ sortM (applyM M cs) = M by rw [hM]; exact after_twice hap)
      obtain ⟨a4, c4, rfl⟩ := hR.sl
      have HM4 := Lib.hid (ERow.rd hR)
      have HE4 := Lib.hid (HE3.out.trans hR.ext)
      have hm40 := (check_ok HCM.out).len
      clear hR hap hM HE3
      go_wp2_with fail
      refine (apply_c w4 _ _ M cs HM4.out (HU.out.ext HE4.out) (by omega) (by omega) (smallP_ok HCM.out) HSC.out).mono ?_
      rintro e w5 h5
      unfold ApplyP at h5
      rw [if_pos HTW.out.1, HTW.out.2] at h5
      obtain ⟨r5, rfl, hR⟩ := h5
      obtain ⟨a5, c5, rfl⟩ := hR.sl
      have HN5 := Lib.hid (ERow.rd hR)
      have HE5 := Lib.hid (HE4.out.trans hR.ext)
      have HM5 := Lib.hid (HM4.out.ext hR.ext)
      clear hR HE4 HM4
      go_wp2_with fail
      refine (find_c w5 _ l k (HV.out.ext HE5.out) (by omega)).mono ?_
      rintro e w6 ⟨rfl, hE⟩
      rw [findB_look, optV_eq]
      have HE6 := Lib.hid (HE5.out.trans hE)
      have HM6 := Lib.hid (HM5.out.ext hE)
      have HN6 := Lib.hid (HN5.out.ext hE)
      clear hE HE5 HM5 HN5
      obtain ⟨s0, hs0⟩ : ∃ s0, s0 = optS (look l k.data.toList) := ⟨_, rfl⟩
      obtain ⟨o0, ho0⟩ : ∃ o0, o0 = (look l k.data.toList).isSome := ⟨_, rfl⟩
      rw [← hs0, ← ho0]
      have HS0 := Lib.hid hs0
      have HO0 := Lib.hid ho0
      clear hs0 ho0
      go_wp2_with fail
      go_loopw [13, 14, 15] (fun wv ov i wr => TwRel w6 k l cs wv ov i wr) (fun _ _ i _ => cs.length - (intOf i).toNat)
      case atStart => exact ⟨0, by omega, rfl, by rw [HS0.out]; rfl, by rw [HO0.out]; rfl, ExtR w6⟩
      case round =>
        obtain ⟨i, hi, rfl, rfl, rfl, hE⟩ := hrel
        have HE := Lib.hid (HE6.out.trans hE)
        have HM7 := Lib.hid (HM6.out.ext hE)
        have HN7 := Lib.hid (HN6.out.ext hE)
        have HX := Lib.hid hE
        obtain ⟨o, ho⟩ : ∃ o, o = wantO k l (cs.take i) := ⟨_, rfl⟩
        rw [← ho]
        have HO := Lib.hid ho
        clear hE ho
        by_cases hlt : i < cs.length
        · rcases HU.out with ⟨_, _, _, h0⟩ | ⟨b, of, c1, hh, hb, hcc, hcell⟩
          · rw [h0] at hlt; cases hlt
          cases hh
          obtain ⟨p, hp⟩ : ∃ p, cs[i]? = some p := ⟨_, List.getElem?_eq_getElem hlt⟩
          obtain ⟨q1, q2, q3⟩ := hcell i p hp
          have q1 := cell_ext q1 HE.out
          have q2 := cell_ext q2 HE.out
          have q3 := cell_ext q3 HE.out
          have b1 : (i : Int) < (cs.length : Int) := by omega
          have HST := Lib.hid (want_step (k := k) (l := l) hp)
          have HG := Lib.hid (fun h => chg_gone (apply_parts HAP.out).2.1 (List.mem_of_getElem? hp) h)
          obtain ⟨x, y, gn⟩ := p
          simp only at q1 q2 q3 HG
          clear hcell hp hb hcc
          have hkb := key_beq x k
          by_cases hxk : k.data.toList = x.data.toList
          · rw [decide_eq_true hxk] at hkb
            have HR := Lib.hid (show wantO k l (cs.take (i + 1)) = if gn then none else some y by rw [HST.out]; unfold lastC; rw [if_pos hxk])
            clear hxk
            cases gn with
            | true =>
              have hy := HG.out rfl
              subst hy
              go_wp2_with fail
              go_roundw
              case rel => exact ⟨i + 1, by omega, by go_num, by rw [HR.out]; rfl, by rw [HR.out]; rfl, HX.out⟩
              case measure => simp [intOf]; omega
            | false =>
              go_wp2_with fail
              go_roundw
              case rel => exact ⟨i + 1, by omega, by go_num, by rw [HR.out]; rfl, by rw [HR.out]; rfl, HX.out⟩
              case measure => simp [intOf]; omega
          · rw [decide_eq_false hxk] at hkb
            have HR := Lib.hid (show wantO k l (cs.take (i + 1)) = o by rw [HST.out, HO.out]; unfold lastC; rw [if_neg hxk])
            clear hxk
            go_wp2_with fail
            go_roundw
            case rel => exact ⟨i + 1, by omega, by go_num, by rw [HR.out], by rw [HR.out], HX.out⟩
            case measure => simp [intOf]; omega
        · have hil : i = cs.length := by omega
          have HF := Lib.hid (show look M k.data.toList = o by
            rw [HO.out, HM.out, look_after (apply_parts HAP.out).1 cs k.data.toList, hil, List.take_length]; rfl)
          clear hil
          go_wp2_with fail
          refine (find_c wr _ M k HM7.out (by omega)).mono ?_
          rintro e w8 ⟨rfl, hE⟩
          rw [findB_look, optV_eq, HF.out]
          have HE8 := Lib.hid (HE.out.trans hE)
          have HM8 := Lib.hid (HM7.out.ext hE)
          have HN8 := Lib.hid (HN7.out.ext hE)
          clear hE
          obtain ⟨s, hs⟩ : ∃ s, s = optS o := ⟨_, rfl⟩
          obtain ⟨q, hq⟩ : ∃ q, q = o.isSome := ⟨_, rfl⟩
          rw [← hs, ← hq]
          clear hs hq HF HO
          go_wp2_with fail
          refine (same_c w8 _ _ M M HM8.out HN8.out (by omega) (by omega)).mono ?_
          rintro e w9 ⟨rfl, hE⟩
          rw [sameL_self]
          have HE9 := Lib.hid (HE8.out.trans hE)
          have HM9 := Lib.hid (HM8.out.ext hE)
          clear hE
          have hss : (s.toList == s.toList) = true := by simp
          have hqq : (q == q) = true := by simp
          go_wp2_with fail
          refine (check_c w9 _ M HM9.out (by omega) (smallP_ok HCM.out)).mono ?_
          rintro e w10 ⟨rfl, hE⟩
          rw [HCM.out]
          have HE10 := Lib.hid (HE9.out.trans hE)
          clear hE
          go_wp2_with fail
          go_ret
          exact ⟨rfl, HE10.out⟩
end
end Go.Proofs.YtolhikjjchfnjaaGreatDoor
