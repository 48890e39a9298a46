/- Parts of the proof, one behind the other: DiffsA, DiffsP. Each is under no condition but those that it states. -/
import Derived.Test.YtolhikjjchfnjaaGreatDoorBa35
import Derived.Test.YtolhikjjchfnjaaGreatDoorBa30
import Derived.Test.YtolhikjjchfnjaaGreatDoorBa33
import Derived.WalkKit
import Derived.ProofKit
import Derived.OpenShut
import Derived.Lib.SmallJoins
import Derived.Deep.DeepHandedRow
import Derived.Lay
import Derived.Carry
import Derived.ChangeMaps5
/- canon: CanonDiffs, its walk. -/
namespace Go.Proofs.YtolhikjjchfnjaaGreatDoor
section
open Go Go.RowKit
set_option linter.unusedSimpArgs false
set_option linter.unusedVariables false
theorem diffN_len {l m : List Pair} (h1 : l.length ≤ 40) (h2 : m.length ≤ 40) : (diffN l m).length ≤ 80 := by
  have key : ∀ l m : List Pair, (diffL l m).length ≤ l.length + m.length := fun l m => by
    fun_induction diffL l m <;> simp only [List.length_cons, List.length_nil] at * <;> omega
  unfold diffN; split
  · have := key l m; omega
  · simp
theorem diff_small {l m : List Pair} (h1 : checkN l = 0) (h2 : checkN m = 0) : SmallC (diffN l m) := by
  have hm := diff_makes h1 h2
  intro c hc
  have hb : c.bad = false := by
    rw [Bool.eq_false_iff]; intro e
    have : (diffN l m).any Chg.bad = true := List.any_eq_true.2 ⟨c, hc, e⟩
    rw [hm.fine] at this; cases this
  unfold Chg.bad keyedB valuedB at hb
  cases hg : c.gone with
  | true =>
    rw [hg] at hb
    simp at hb
    rw [hb.2]
    exact ⟨by omega, by simp⟩
  | false =>
    rw [hg] at hb
    simp at hb
    omega
def BkRel (w w5 : World) (d : List Chg) (bv iv : Value) (wr : World) : Prop := ∃ j : Nat, j ≤ d.length ∧ iv = .int .i64 ((d.length : Int) - 1 - j) ∧ Ext w wr ∧ CRow w5 wr bv j (d.reverse.take j)
set_option maxRecDepth 100000 in
set_option maxHeartbeats 8000000 in
theorem diffs_c (w : World) (hc : Cubes w) (v u : Value) (l m : List Pair) (hv : RdP w v l) (hu : RdP w u m) (hn : l.length ≤ 9223372036854775807) (hnm : m.length ≤ 9223372036854775807) (hs : SmallP l) (hsm : SmallP m) :
    Calls Tryz.prog 6 #[v, u] w fun e w' => e = .returned (.bool true) ∧ Ext w w' := by
  have HC := Lib.hid hc
  have HV := Lib.hid hv
  have HU := Lib.hid hu
  have HS := Lib.hid hs
  have HSM := Lib.hid hsm
  have HN := Lib.hid hn
  have HNM := Lib.hid hnm
  obtain ⟨a, c, hsl⟩ := hv.sl
  subst hsl
  obtain ⟨a', c', hsl'⟩ := hu.sl
  subst hsl'
  clear hc hv hu hs hsm hn hnm
  go_enter Tryz.func6, Tryz.ntmps6
  go_wp2_with fail
  refine (works5_c w HC.out).mono ?_
  rintro e w1 ⟨rfl, hE⟩
  have HE1 := Lib.hid hE
  clear hE
  go_wp2_with fail
  refine (few5_c w1 _ l (HV.out.ext HE1.out) HN.out HS.out).mono ?_
  rintro e w2 ⟨rfl, hE⟩
  have HE2 := Lib.hid (HE1.out.trans hE)
  clear hE HE1
  cases hfl : fewB l with
  | false =>
    clear hfl
    go_wp2_with fail
    go_ret
    exact ⟨rfl, HE2.out⟩
  | true =>
    have hl45 := few_len hfl
    clear hfl
    go_wp2_with fail
    refine (few5_c w2 _ m (HU.out.ext HE2.out) HNM.out HSM.out).mono ?_
    rintro e w3 ⟨rfl, hE⟩
    have HE3 := Lib.hid (HE2.out.trans hE)
    clear hE HE2
    cases hfc : fewB m with
    | false =>
      clear hfc
      go_wp2_with fail
      go_ret
      exact ⟨rfl, HE3.out⟩
    | true =>
      have hm45 := few_len hfc
      clear hfc
      go_wp2_with fail
      refine (check_c w3 _ l (HV.out.ext HE3.out) (by omega) HS.out).mono ?_
      rintro e w4 ⟨rfl, hE⟩
      have HE4 := Lib.hid (HE3.out.trans hE)
      clear hE HE3
      by_cases hcl : checkN l = 0
      case neg =>
        obtain ⟨x, hx⟩ : ∃ x, x = checkN l := ⟨_, rfl⟩
        rw [← hx] at hcl ⊢
        have hne : (x == 0) = false := by simpa using hcl
        have hne2 : (x != 0) = true := by simpa using hcl
        clear hcl hx
        go_wp2_with fail
        go_ret
        exact ⟨rfl, HE4.out⟩
      rw [hcl]
      have HCL := Lib.hid hcl
      clear hcl
      go_wp2_with fail
      refine (check_c w4 _ m (HU.out.ext HE4.out) (by omega) HSM.out).mono ?_
      rintro e w5 ⟨rfl, hE⟩
      have HE5 := Lib.hid (HE4.out.trans hE)
      clear hE HE4
      by_cases hcm : checkN m = 0
      case neg =>
        obtain ⟨x, hx⟩ : ∃ x, x = checkN m := ⟨_, rfl⟩
        rw [← hx] at hcm ⊢
        have hne : (x == 0) = false := by simpa using hcm
        have hne2 : (x != 0) = true := by simpa using hcm
        clear hcm hx
        go_wp2_with fail
        go_ret
        exact ⟨rfl, HE5.out⟩
      rw [hcm]
      have HCM := Lib.hid hcm
      clear hcm
      have HMK := Lib.hid (diff_makes HCL.out HCM.out)
      have HDL := Lib.hid (diffN_len (check_ok HCL.out).len (check_ok HCM.out).len)
      have HDS := Lib.hid (diff_small HCL.out HCM.out)
      go_wp2_with fail
      refine (diff_c w5 _ _ l m (HV.out.ext HE5.out) (HU.out.ext HE5.out) (by omega) (by omega) HS.out HSM.out).mono ?_
      rintro e w6 ⟨r6, rfl, hR⟩
      obtain ⟨D, hD⟩ : ∃ D, D = diffN l m := ⟨_, rfl⟩
      rw [← hD] at hR HMK HDL HDS
      have hd80 := HDL.out
      obtain ⟨a6, c6, rfl⟩ := hR.sl
      have HE6 := Lib.hid (HE5.out.trans hR.ext)
      have HD6 := Lib.hid (CRow.rd hR)
      clear hR hD HE5 HDL
      go_wp2_with fail
      refine (apply_c w6 _ _ l D (HV.out.ext HE6.out) HD6.out (by omega) (by omega) HS.out HDS.out).mono ?_
      rintro e w7 h7
      have hap := HMK.out.after HCL.out HCM.out
      unfold ApplyP at h7
      rw [if_pos hap.1, hap.2] at h7
      obtain ⟨r7, rfl, hR⟩ := h7
      obtain ⟨a7, c7, rfl⟩ := hR.sl
      have HE7 := Lib.hid (HE6.out.trans hR.ext)
      have HD7 := Lib.hid (HD6.out.ext hR.ext)
      have HM7 := Lib.hid (ERow.rd hR)
      clear hR hap HE6 HD6
      go_wp2_with fail
      go_loopw [10, 11] (fun bv i wr => BkRel w7 w7 D bv i wr) (fun _ i _ => (intOf i + 1).toNat)
      case atStart => exact ⟨0, by omega, by simp, ExtR w7, ORow.nil _ _ (ExtR w7)⟩
      case round =>
        obtain ⟨j, hj, rfl, hE, hR⟩ := hrel
        obtain ⟨a8, c8, rfl⟩ := hR.sl
        have HE8 := Lib.hid (HE7.out.trans hE)
        have HX := Lib.hid hE
        have HR := Lib.hid hR
        clear hE hR
        by_cases hlt : j < D.length
        · obtain ⟨n, hnn⟩ : ∃ n : Nat, n = D.length - 1 - j := ⟨_, rfl⟩
          have hnv : ((D.length : Int) - 1 - j) = (n : Int) := by omega
          rw [hnv]
          have b0 : (0 : Int) ≤ (n : Int) := by omega
          have hnl : n < D.length := by omega
          rcases HD7.out with ⟨_, _, _, h0⟩ | ⟨b, of, c1, hh, hb, hcc, hcell⟩
          · rw [h0] at hlt; cases hlt
          cases hh
          obtain ⟨p, hp⟩ : ∃ p, D[n]? = some p := ⟨_, List.getElem?_eq_getElem hnl⟩
          obtain ⟨q1, q2, q3⟩ := hcell n p hp
          have q1 := cell_ext q1 HX.out
          have q2 := cell_ext q2 HX.out
          have q3 := cell_ext q3 HX.out
          have hst : D.reverse.take (j + 1) = D.reverse.take j ++ [p] := by
            rw [List.take_add_one, List.getElem?_reverse (by omega), show D.length - 1 - j = n by omega, hp]; rfl
          have HST := Lib.hid hst
          obtain ⟨x, y, gn⟩ := p
          simp only at q1 q2 q3
          have b1 : (n : Int) < (D.length : Int) := by omega
          have HNV := Lib.hid hnv
          have HNN := Lib.hid hnn
          clear hcell hp hb hcc hst hnv hnn
          go_wp2_with (at_builtin; refine wpList_app Tryz.sChgs (HR.out.mono ((ExtR wr).alloc _)) (.tmp 52) (.tmp 57) rfl rfl rfl (news_blk (Blk.new wr _)) (news := [.string x, .string y, .bool gn]) (by intro u hu; simp at hu; rcases hu with rfl | rfl | rfl <;> rfl) rfl rfl ?c1 ?c2 (fun v' w' r1 r2 r3 => ?_))
          case c1 => unfold maxLen; omega
          case c2 => omega
          have r1' : CRow w7 w' v' (j + 1) (D.reverse.take (j + 1)) := by unfold CRow; rw [HST.out, cellsC_append]; exact r1
          obtain ⟨a9, c9, rfl⟩ := r1'.sl
          have HR9 := Lib.hid r1'
          clear r1 r2 r3 r1' HR
          go_wp2_with fail
          go_roundw
          case rel => exact ⟨j + 1, by omega, by have := HNV.out; have := HNN.out; go_num, HR9.out.ext, HR9.out⟩
          case measure => simp [intOf]; try omega
        · have hjd : j = D.length := by omega
          have b0 : ¬ (0 : Int) ≤ ((D.length : Int) - 1 - j) := by omega
          have HB := Lib.hid (show CRow w7 wr (.slice a8 D.reverse.length c8) D.reverse.length D.reverse by
            have h := HR.out
            rw [hjd, ← List.length_reverse, List.take_length] at h; exact h)
          have HMR := Lib.hid (HMK.out.perm (List.reverse_perm D))
          have HSR := Lib.hid (show SmallC D.reverse from fun c hc => HDS.out c (List.mem_reverse.1 hc))
          have hlr : D.reverse.length = j := by rw [List.length_reverse]; exact hjd.symm
          obtain ⟨R, hRR⟩ : ∃ R, R = D.reverse := ⟨_, rfl⟩
          rw [← hRR] at HB HMR HSR hlr
          subst hlr
          clear hjd hRR HR hlt
          go_wp2_with fail
          refine (apply_c wr _ _ l R (HV.out.ext HE8.out) (CRow.rd HB.out) (by omega) (by omega) HS.out HSR.out).mono ?_
          rintro e w9 h9
          have hap := HMR.out.after HCL.out HCM.out
          unfold ApplyP at h9
          rw [if_pos hap.1, hap.2] at h9
          obtain ⟨r9, rfl, hR⟩ := h9
          obtain ⟨a9, c9, rfl⟩ := hR.sl
          have HE9 := Lib.hid (HE8.out.trans hR.ext)
          have HM9 := Lib.hid (HM7.out.ext (HX.out.trans hR.ext))
          have HN9 := Lib.hid (ERow.rd hR)
          clear hR hap HE8 HB
          go_wp2_with fail
          refine (same_c w9 _ _ m m HM9.out (HU.out.ext HE9.out) (by omega) (by omega)).mono ?_
          rintro e w10 ⟨rfl, hE⟩
          rw [sameL_self]
          have HE10 := Lib.hid (HE9.out.trans hE)
          have HM10 := Lib.hid (HM9.out.ext hE)
          have HN10 := Lib.hid (HN9.out.ext hE)
          clear hE HE9 HM9 HN9
          go_wp2_with fail
          refine (same_c w10 _ _ m m HN10.out (HU.out.ext HE10.out) (by omega) (by omega)).mono ?_
          rintro e w11 ⟨rfl, hE⟩
          rw [sameL_self]
          have HE11 := Lib.hid (HE10.out.trans hE)
          have HM11 := Lib.hid (HM10.out.ext hE)
          clear hE HE10 HM10 HN10
          go_wp2_with fail
          refine (diff_c w11 _ _ l l (HV.out.ext HE11.out) (HV.out.ext HE11.out) (by omega) (by omega) HS.out HS.out).mono ?_
          rintro e w12 ⟨r12, rfl, hR⟩
          rw [diffN_self] at hR
          obtain ⟨a12, c12, rfl⟩ := hR.sl
          have HE12 := Lib.hid (HE11.out.trans hR.ext)
          have HM12 := Lib.hid (HM11.out.ext hR.ext)
          clear hR HE11 HM11
          rw [List.length_nil]
          go_wp2_with fail
          refine (diff_c w12 _ _ m m HM12.out (HU.out.ext HE12.out) (by omega) (by omega) HSM.out HSM.out).mono ?_
          rintro e w13 ⟨r13, rfl, hR⟩
          rw [diffN_self] at hR
          obtain ⟨a13, c13, rfl⟩ := hR.sl
          have HE13 := Lib.hid (HE12.out.trans hR.ext)
          clear hR HE12 HM12
          rw [List.length_nil]
          go_wp2_with fail
          go_ret
          exact ⟨rfl, HE13.out⟩
end
end Go.Proofs.YtolhikjjchfnjaaGreatDoor
/- CanonDiffs, the card: the law is true for every input. -/
namespace Go.Proofs.YtolhikjjchfnjaaGreatDoor
section
open Go Go.ChangeShapes Go.WideShapes Go.ChangeAt Go.RowKit Go.ChangeMaps
set_option linter.unusedSimpArgs false
set_option linter.unusedVariables false
set_option maxRecDepth 100000 in
theorem canonDiffs_contract (H : Type) (enc : TypeId × Value → H) (W : World) (base : Nat) (args : Array Value) (ds gs : List (DataW H)) (before : List MemPlace)
    (hval : ∀ (j : Nat) t v, Tryz.f6.params[j]? = some t → args[j]? = some v → Value.okWide Tryz.prog W .any base t v)
    (hW : DataW.Whole enc Tryz.prog Tryz.f6.params.toList Rows.canonDiffsSpec.vars false W args.toList ds gs before) (hL : laidMetH Tryz.prog Rows.canonDiffsRow.laid W) :
    Calls Tryz.prog 6 args W fun e W' => ∃ v, e = .returned v ∧ Rows.canonDiffsSpec.post enc Tryz.prog Tryz.f6 false true false false W args v W' := by
  have hW' := hW
  obtain ⟨p, q, hA0, hV, rfl, hfz, hnd⟩ := hW
  have hA : DataW.TrodAll enc Tryz.prog W 0 (fun _ => true) true Tryz.f6.params.toList args.toList ds p := hA0
  rw [Tryz.params6] at hA hval
  obtain ⟨v0, v1, d0, d1, p0, p1, rfl, rfl, rfl, h0, h1⟩ := trodAll_two hA
  obtain ⟨rfl, rfl⟩ := trodVars_none hV
  obtain ⟨l0, hl0, hn0, hs0⟩ := open_entries (okWide_slice Tryz.underlying22 (hval 0 22 v0 rfl rfl)) h0
  obtain ⟨l1, hl1, hn1, hs1⟩ := open_entries (okWide_slice Tryz.underlying22 (hval 1 22 v1 rfl rfl)) h1
  clear hA0
  simp only [List.append_nil, List.nil_append] at hW'
  have hlt : ∀ x ∈ p0 ++ p1, x.block < W.heap.size := fun x hx => by simpa using hW'.lt x (by simpa using hx)
  refine (diffs_c W (cubes_of hL) v0 v1 l0 l1 hl0 hl1 hn0 hn1 hs0 hs1).mono fun e W' ⟨he, hE⟩ => ?_
  subst he
  have hb : Below W.heap.size W W' := ⟨hE.os, hE.tape, hE.output, hE.size, fun k hk => hE.block k hk (fun h => h)⟩
  have hres : DataW.TrodAll enc Tryz.prog W' 0 (fun b => decide (b < W.heap.size)) true [22, 22] [v0, v1] [d0, d1] (p0 ++ p1) := by
    simpa using trodAll_mk2 (Below.trod Tryz.laidOutK (by kernel_rfl) (of_decide_eq_true (by kernel_rfl)) h0 hb (fun x hx => hlt x (by simp [hx]))) (Below.trod Tryz.laidOutK (by kernel_rfl) (of_decide_eq_true (by kernel_rfl)) h1 hb (fun x hx => hlt x (by simp [hx])))
  refine ⟨_, rfl, _, _, _, [], p0 ++ p1, [], hW', trodAll_mk1 (shut_bool Tryz.underlying4 _), ?_, rfl, hb.frame _, fun h => by cases h⟩
  exact hres
set_option maxRecDepth 100000 in
theorem canonDiffs_reads (os : Os) {H : Type} (enc : TypeId × Value → H) : ∃ places, DataW.whole enc Tryz.prog ((laidWorld os).forCall (fun _ _ => 0) ⟨#[], #[.slice none 0 0, .slice none 0 0], []⟩).memory Tryz.f6.params.toList Rows.canonDiffsSpec.vars false #[.slice none 0 0, .slice none 0 0].toList 8 = some ([.nil, .nil], [], places) :=
  ⟨[], by kernel_rfl⟩
set_option maxRecDepth 100000 in
theorem canonDiffs_lifted (os : Os) (started : os.Started) (H : Type) (enc : TypeId × Value → H) (F : Stop.Interp) :
    ReturnsInHanded {} Tryz.checked os 6 .any ((OpenSpec.ofChange Rows.canonDiffsSpec).preRow enc Tryz.prog Tryz.f6 Rows.canonDiffsRow.domain false Rows.canonDiffsRow.laid) (((OpenSpec.ofChange Rows.canonDiffsSpec).at F).post enc Tryz.prog Tryz.f6 false true false false) := by
  obtain ⟨places, hx⟩ := canonDiffs_reads os enc
  refine returnsInHanded_of_row (C := Tryz.checked) (s := OpenSpec.ofChange Rows.canonDiffsSpec) Tryz.ownK started (by kernel_rfl) Tryz.func6
    (witness_row_at (enc := enc) (C := Tryz.checked) false (laidWorld os) #[.slice none 0 0, .slice none 0 0] rfl (by kernel_rfl) (by kernel_rfl) (by kernel_rfl)
      (OpenSpec.preRow_of_cond 8 hx (by kernel_rfl) (fun k hk => by cases hk) (by kernel_rfl) (laid_met os _))) ?_
  intro W base args ds gs before hval hW _ _ _ hL _ _
  exact canonDiffs_contract H enc W base args ds gs before hval hW hL
theorem canonDiffs_said : Rows.CanonDiffsSaid :=
  OpenClaim.holds_of_cond 6 Tryz.f6 rfl rfl rfl rfl rfl rfl rfl ⟨rfl, rfl, rfl, rfl, rfl⟩ rfl rfl rfl rfl rfl (by kernel_rfl) Tryz.func6 (by kernel_rfl)
    (of_decide_eq_true (by kernel_rfl)) (by unfold Func.isWrapper; first | (rw [if_pos (by decide +kernel)]; kernel_rfl) | (rw [if_neg (by decide +kernel)]; exact ⟨rfl, rfl⟩))
    (fun os started H enc _ F => by rw [OpenClaim.pre_eq_preRow]; exact canonDiffs_lifted os started H enc F)
theorem canonDiffsCard_holds : Rows.CanonDiffsCardSaid :=
  Claim7.holds_tied_plain_at .later [] [.handle, .data] true (true, "79678ca2a070e6b28f83784ea4f06b3bb3739c3a78af8def0c67aaeb6329fa64") true
    canonDiffs_said (fun _ h => by cases h) (by kernel_rfl) (fun _ h => by cases h) canonDiffs_row_tie rfl ⟨rfl, rfl⟩ (by kernel_rfl) rfl
    (fun f fn hf hfn => by
      obtain rfl : f = 6 := Option.some.inj ((show Tryz.prog.funcNamed "guilloche/guillochelaw05.CanonDiffs" = some 6 by kernel_rfl).symm.trans hf) |>.symm
      obtain rfl : fn = Tryz.f6 := (Option.some.inj (Tryz.func6.symm.trans hfn)).symm
      exact ⟨by kernel_rfl, fun j t ht => by
        rw [Tryz.params6] at ht
        have hm : t ∈ [22, 22] := by simpa using Array.mem_of_getElem? ht
        have hall : ([22, 22].all fun u => !Tryz.prog.wantsStandIn u) = true := by kernel_rfl
        exact (show Tryz.prog.wantsStandIn t = false by simpa using List.all_eq_true.1 hall t hm)⟩)
    (by kernel_rfl)
end
end Go.Proofs.YtolhikjjchfnjaaGreatDoor
