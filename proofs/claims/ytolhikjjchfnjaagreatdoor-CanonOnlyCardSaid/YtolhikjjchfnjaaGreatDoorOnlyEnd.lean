/- Parts of the proof, one behind the other: OnlyB, OnlyP. Each is under no condition but those that it states. -/
import Derived.Test.YtolhikjjchfnjaaGreatDoorBa35
import Derived.Test.YtolhikjjchfnjaaGreatDoorBa34
import Derived.Test.YtolhikjjchfnjaaGreatDoorBa30
import Derived.Test.YtolhikjjchfnjaaGreatDoorBa33
import Derived.WalkKit
import Derived.ProofKit
import Derived.OpenShut
import Derived.Lib.SmallJoins
import Derived.Deep.DeepHandedRow
import Derived.Lay
import Derived.Carry
/- canon: CanonOnly, its walk. -/
namespace Go.Proofs.YtolhikjjchfnjaaGreatDoor
section
open Go Go.RowKit
set_option linter.unusedSimpArgs false
set_option linter.unusedVariables false
set_option maxRecDepth 100000 in
set_option maxHeartbeats 8000000 in
theorem only_c (w : World) (hc : Cubes w) (v u : Value) (l m : List Pair) (hv : RdP w v l) (hu : RdP w u m) (hn : l.length ≤ 9223372036854775807) (hnm : m.length ≤ 9223372036854775807) (hs : SmallP l) (hsm : SmallP m) :
    Calls Tryz.prog 5 #[v, u] w fun e w' => e = .returned (.bool true) ∧ Ext w w' := by
  have HC := Lib.hid hc
  have HV := Lib.hid hv
  have HU := Lib.hid hu
  have HS := Lib.hid hs
  have HSM := Lib.hid hsm
  have HN := Lib.hid hn
  have HNM := Lib.hid hnm
  obtain ⟨a, c, hsl⟩ := hv.sl
  subst hsl
  obtain ⟨a', c', hsl'⟩ := hu.sl
  subst hsl'
  clear hc hv hu hs hsm hn hnm
  go_enter Tryz.func5, Tryz.ntmps5
  go_wp2_with fail
  refine (works5_c w HC.out).mono ?_
  rintro e w1 ⟨rfl, hE⟩
  have HE1 := Lib.hid hE
  clear hE
  go_wp2_with fail
  refine (few5_c w1 _ l (HV.out.ext HE1.out) HN.out HS.out).mono ?_
  rintro e w2 ⟨rfl, hE⟩
  have HE2 := Lib.hid (HE1.out.trans hE)
  clear hE HE1
  cases hfl : fewB l with
  | false =>
    clear hfl
    go_wp2_with fail
    go_ret
    exact ⟨rfl, HE2.out⟩
  | true =>
    have hl45 := few_len hfl
    clear hfl
    go_wp2_with fail
    refine (few5_c w2 _ m (HU.out.ext HE2.out) HNM.out HSM.out).mono ?_
    rintro e w3 ⟨rfl, hE⟩
    have HE3 := Lib.hid (HE2.out.trans hE)
    clear hE HE2
    cases hfc : fewB m with
    | false =>
      clear hfc
      go_wp2_with fail
      go_ret
      exact ⟨rfl, HE3.out⟩
    | true =>
      have hm45 := few_len hfc
      clear hfc
      go_wp2_with fail
      refine (check_c w3 _ l (HV.out.ext HE3.out) (by omega) HS.out).mono ?_
      rintro e w4 ⟨rfl, hE⟩
      have HE4 := Lib.hid (HE3.out.trans hE)
      clear hE HE3
      by_cases hcl : checkN l = 0
      case neg =>
        obtain ⟨x, hx⟩ : ∃ x, x = checkN l := ⟨_, rfl⟩
        rw [← hx] at hcl ⊢
        have hne : (x == 0) = false := by simpa using hcl
        have hne2 : (x != 0) = true := by simpa using hcl
        clear hcl hx
        go_wp2_with fail
        go_ret
        exact ⟨rfl, HE4.out⟩
      rw [hcl]
      have HCL := Lib.hid hcl
      clear hcl
      go_wp2_with fail
      refine (check_c w4 _ m (HU.out.ext HE4.out) (by omega) HSM.out).mono ?_
      rintro e w5 ⟨rfl, hE⟩
      have HE5 := Lib.hid (HE4.out.trans hE)
      clear hE HE4
      by_cases hcm : checkN m = 0
      case neg =>
        obtain ⟨x, hx⟩ : ∃ x, x = checkN m := ⟨_, rfl⟩
        rw [← hx] at hcm ⊢
        have hne : (x == 0) = false := by simpa using hcm
        have hne2 : (x != 0) = true := by simpa using hcm
        clear hcm hx
        go_wp2_with fail
        go_ret
        exact ⟨rfl, HE5.out⟩
      rw [hcm]
      have HCM := Lib.hid hcm
      clear hcm
      go_wp2_with fail
      refine (root_ok w5 _ l (HC.out.ext HE5.out) (HV.out.ext HE5.out) HCL.out).mono ?_
      rintro e w6 ⟨rfl, hE⟩
      have HE6 := Lib.hid (HE5.out.trans hE)
      clear hE HE5
      obtain ⟨r, hr⟩ : ∃ r, r = shaB (trieT l).text := ⟨_, rfl⟩
      rw [← hr]
      have HR := Lib.hid hr
      clear hr
      go_wp2_with fail
      refine (root_ok w6 _ m (HC.out.ext HE6.out) (HU.out.ext HE6.out) HCM.out).mono ?_
      rintro e w7 ⟨rfl, hE⟩
      have HE7 := Lib.hid (HE6.out.trans hE)
      clear hE HE6
      obtain ⟨s, hs⟩ : ∃ s, s = shaB (trieT m).text := ⟨_, rfl⟩
      rw [← hs]
      have HSS := Lib.hid hs
      clear hs
      go_wp2_with fail
      refine (clash_c w7 _ _ l m (HC.out.ext HE7.out) (HV.out.ext HE7.out) (HU.out.ext HE7.out) (by omega) (by omega) HS.out HSM.out).mono ?_
      rintro e w8 ⟨rfl, hE⟩
      have HE8 := Lib.hid (HE7.out.trans hE)
      clear hE HE7
      obtain ⟨o1, o2, o3⟩ := only w HCL.out HCM.out
      rw [← HR.out, ← HSS.out] at o2 o3
      have hem : (((⟨#[]⟩ : ByteArray).toList == (⟨#[]⟩ : ByteArray).toList) = true) := by simp
      cases hsl : sameL l m with
      | true =>
        have hlm := (sameL_iff l m).1 hsl
        have HRS := Lib.hid (show s = r by rw [HR.out, HSS.out, hlm])
        have HSL := Lib.hid hsl
        rw [o1 hlm]
        clear hsl hlm o1 o2 o3
        have hrs := HRS.out
        subst hrs
        unfold clashV
        go_wp2_with fail
        refine (same_c w8 _ _ l m (HV.out.ext HE8.out) (HU.out.ext HE8.out) (by omega) (by omega)).mono ?_
        rintro e w9 ⟨rfl, hE⟩
        rw [HSL.out]
        have HE9 := Lib.hid (HE8.out.trans hE)
        clear hE HE8
        go_wp2_with fail
        go_ret
        exact ⟨rfl, HE9.out⟩
      | false =>
        have hlm : l ≠ m := fun e => by rw [(sameL_iff l m).2 e] at hsl; cases hsl
        have HSL := Lib.hid hsl
        by_cases hrs : r = s
        · obtain ⟨x, y, e1, e2⟩ := o3 hlm hrs
          rw [e1]
          have HCB := Lib.hid e2
          subst hrs
          clear hsl hlm o1 o2 o3 e1 e2
          unfold clashV
          go_wp2_with fail
          refine (same_c w8 _ _ l m (HV.out.ext HE8.out) (HU.out.ext HE8.out) (by omega) (by omega)).mono ?_
          rintro e w9 ⟨rfl, hE⟩
          rw [HSL.out]
          have HE9 := Lib.hid (HE8.out.trans hE)
          clear hE HE8
          go_wp2_with fail
          refine (collide_t w9 x y (HC.out.ext HE9.out)).mono ?_
          rintro e w10 ⟨rfl, hE⟩
          have HE10 := Lib.hid (HE9.out.trans hE)
          clear hE HE9
          have hcb : (decide (x ≠ y) && decide (shaB x = shaB y)) = true := HCB.out
          rw [hcb]
          go_wp2_with fail
          go_ret
          exact ⟨rfl, HE10.out⟩
        · rw [o2 hlm hrs]
          have hq : (r.toList == s.toList) = false := by rw [nbeq_sha]; exact decide_eq_false hrs
          clear hsl hlm o1 o2 o3 hrs
          unfold clashV
          go_wp2_with fail
          refine (same_c w8 _ _ l m (HV.out.ext HE8.out) (HU.out.ext HE8.out) (by omega) (by omega)).mono ?_
          rintro e w9 ⟨rfl, hE⟩
          rw [HSL.out]
          have HE9 := Lib.hid (HE8.out.trans hE)
          clear hE HE8
          go_wp2_with fail
          go_ret
          exact ⟨rfl, HE9.out⟩
end
end Go.Proofs.YtolhikjjchfnjaaGreatDoor
/- CanonOnly, the card: the law is true for every input. -/
namespace Go.Proofs.YtolhikjjchfnjaaGreatDoor
section
open Go Go.ChangeShapes Go.WideShapes Go.ChangeAt Go.RowKit
set_option linter.unusedSimpArgs false
set_option linter.unusedVariables false
set_option maxRecDepth 100000 in
theorem canonOnly_contract (H : Type) (enc : TypeId × Value → H) (W : World) (base : Nat) (args : Array Value) (ds gs : List (DataW H)) (before : List MemPlace)
    (hval : ∀ (j : Nat) t v, Tryz.f5.params[j]? = some t → args[j]? = some v → Value.okWide Tryz.prog W .any base t v)
    (hW : DataW.Whole enc Tryz.prog Tryz.f5.params.toList Rows.canonOnlySpec.vars false W args.toList ds gs before) (hL : laidMetH Tryz.prog Rows.canonOnlyRow.laid W) :
    Calls Tryz.prog 5 args W fun e W' => ∃ v, e = .returned v ∧ Rows.canonOnlySpec.post enc Tryz.prog Tryz.f5 false true false false W args v W' := by
  have hW' := hW
  obtain ⟨p, q, hA0, hV, rfl, hfz, hnd⟩ := hW
  have hA : DataW.TrodAll enc Tryz.prog W 0 (fun _ => true) true Tryz.f5.params.toList args.toList ds p := hA0
  rw [Tryz.params5] at hA hval
  obtain ⟨v0, v1, d0, d1, p0, p1, rfl, rfl, rfl, h0, h1⟩ := trodAll_two hA
  obtain ⟨rfl, rfl⟩ := trodVars_none hV
  obtain ⟨l0, hl0, hn0, hs0⟩ := open_entries (okWide_slice Tryz.underlying22 (hval 0 22 v0 rfl rfl)) h0
  obtain ⟨l1, hl1, hn1, hs1⟩ := open_entries (okWide_slice Tryz.underlying22 (hval 1 22 v1 rfl rfl)) h1
  clear hA0
  simp only [List.append_nil, List.nil_append] at hW'
  have hlt : ∀ x ∈ p0 ++ p1, x.block < W.heap.size := fun x hx => by simpa using hW'.lt x (by simpa using hx)
  refine (only_c W (cubes_of hL) v0 v1 l0 l1 hl0 hl1 hn0 hn1 hs0 hs1).mono fun e W' ⟨he, hE⟩ => ?_
  subst he
  have hb : Below W.heap.size W W' := ⟨hE.os, hE.tape, hE.output, hE.size, fun k hk => hE.block k hk (fun h => h)⟩
  have hres : DataW.TrodAll enc Tryz.prog W' 0 (fun b => decide (b < W.heap.size)) true [22, 22] [v0, v1] [d0, d1] (p0 ++ p1) := by
    simpa using trodAll_mk2 (Below.trod Tryz.laidOutK (by kernel_rfl) (of_decide_eq_true (by kernel_rfl)) h0 hb (fun x hx => hlt x (by simp [hx]))) (Below.trod Tryz.laidOutK (by kernel_rfl) (of_decide_eq_true (by kernel_rfl)) h1 hb (fun x hx => hlt x (by simp [hx])))
  refine ⟨_, rfl, _, _, _, [], p0 ++ p1, [], hW', trodAll_mk1 (shut_bool Tryz.underlying4 _), ?_, rfl, hb.frame _, fun h => by cases h⟩
  exact hres
set_option maxRecDepth 100000 in
theorem canonOnly_reads (os : Os) {H : Type} (enc : TypeId × Value → H) : ∃ places, DataW.whole enc Tryz.prog ((laidWorld os).forCall (fun _ _ => 0) ⟨#[], #[.slice none 0 0, .slice none 0 0], []⟩).memory Tryz.f5.params.toList Rows.canonOnlySpec.vars false #[.slice none 0 0, .slice none 0 0].toList 8 = some ([.nil, .nil], [], places) :=
  ⟨[], by kernel_rfl⟩
set_option maxRecDepth 100000 in
theorem canonOnly_lifted (os : Os) (started : os.Started) (H : Type) (enc : TypeId × Value → H) (F : Stop.Interp) :
    ReturnsInHanded {} Tryz.checked os 5 .any ((OpenSpec.ofChange Rows.canonOnlySpec).preRow enc Tryz.prog Tryz.f5 Rows.canonOnlyRow.domain false Rows.canonOnlyRow.laid) (((OpenSpec.ofChange Rows.canonOnlySpec).at F).post enc Tryz.prog Tryz.f5 false true false false) := by
  obtain ⟨places, hx⟩ := canonOnly_reads os enc
  refine returnsInHanded_of_row (C := Tryz.checked) (s := OpenSpec.ofChange Rows.canonOnlySpec) Tryz.ownK started (by kernel_rfl) Tryz.func5
    (witness_row_at (enc := enc) (C := Tryz.checked) false (laidWorld os) #[.slice none 0 0, .slice none 0 0] rfl (by kernel_rfl) (by kernel_rfl) (by kernel_rfl)
      (OpenSpec.preRow_of_cond 8 hx (by kernel_rfl) (fun k hk => by cases hk) (by kernel_rfl) (laid_met os _))) ?_
  intro W base args ds gs before hval hW _ _ _ hL _ _
  exact canonOnly_contract H enc W base args ds gs before hval hW hL
theorem canonOnly_said : Rows.CanonOnlySaid :=
  OpenClaim.holds_of_cond 5 Tryz.f5 rfl rfl rfl rfl rfl rfl rfl ⟨rfl, rfl, rfl, rfl, rfl⟩ rfl rfl rfl rfl rfl (by kernel_rfl) Tryz.func5 (by kernel_rfl)
    (of_decide_eq_true (by kernel_rfl)) (by unfold Func.isWrapper; first | (rw [if_pos (by decide +kernel)]; kernel_rfl) | (rw [if_neg (by decide +kernel)]; exact ⟨rfl, rfl⟩))
    (fun os started H enc _ F => by rw [OpenClaim.pre_eq_preRow]; exact canonOnly_lifted os started H enc F)
theorem canonOnlyCard_holds : Rows.CanonOnlyCardSaid :=
  Claim7.holds_tied_plain_at .later [] [.handle, .data] true (true, "79678ca2a070e6b28f83784ea4f06b3bb3739c3a78af8def0c67aaeb6329fa64") true
    canonOnly_said (fun _ h => by cases h) (by kernel_rfl) (fun _ h => by cases h) canonOnly_row_tie rfl ⟨rfl, rfl⟩ (by kernel_rfl) rfl
    (fun f fn hf hfn => by
      obtain rfl : f = 5 := Option.some.inj ((show Tryz.prog.funcNamed "guilloche/guillochelaw05.CanonOnly" = some 5 by kernel_rfl).symm.trans hf) |>.symm
      obtain rfl : fn = Tryz.f5 := (Option.some.inj (Tryz.func5.symm.trans hfn)).symm
      exact ⟨by kernel_rfl, fun j t ht => by
        rw [Tryz.params5] at ht
        have hm : t ∈ [22, 22] := by simpa using Array.mem_of_getElem? ht
        have hall : ([22, 22].all fun u => !Tryz.prog.wantsStandIn u) = true := by kernel_rfl
        exact (show Tryz.prog.wantsStandIn t = false by simpa using List.all_eq_true.1 hall t hm)⟩)
    (by kernel_rfl)
end
end Go.Proofs.YtolhikjjchfnjaaGreatDoor
