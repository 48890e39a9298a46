/- Parts of the proof, one behind the other: PrfN, OneP. Each is under no condition but those that it states. -/
import Derived.Test.YtjogjmffkmfmbaaGreatDoorPa39
import Derived.Test.YtjogjmffkmfmbaaGreatDoorPa41
import Derived.Test.YtjogjmffkmfmbaaGreatDoorPa42
import Derived.Test.YtjogjmffkmfmbaaGreatDoorPa43
import Derived.WalkKit
import Derived.ProofKit
import Derived.OpenShut
import Derived.Lib.SmallJoins
import Derived.Deep.DeepHandedRow
import Derived.Lay
import Derived.Carry
import Derived.ChangeMaps5
/- law 11: ProofOne. -/
namespace Go.Proofs.YtjogjmffkmfmbaaGreatDoor
section
open Go Go.RowKit
set_option linter.unusedSimpArgs false
set_option linter.unusedVariables false
attribute [local go_sem] Oper.semAt_some
def OneRel (w5 : World) (N nodes : List ByteArray) (v : Value) (wr : World) : Prop := ∃ i : Nat, i ≤ N.length ∧ v = .int .i64 i ∧ Ext w5 wr ∧ ∀ (j : Nat) t x, j < i → nodes[j]? = some t → N[j]? = some x → collB x t = false
theorem Tryz.enterCollide : ∀ args w, (callFunc 31 args).run Tryz.prog w = .ok (.enter 31 args) w := fun _ _ => by kernel_rfl
theorem one_all (w : World) {l : List Pair} (h : checkN l = 0) {key : ByteArray} {ts : List ByteArray} (hok : (proveR (shaB (trieT l).text) key ts).2 = true) (hne : wayN l key ≠ ts)
    {i : Nat} (hi : ¬ (i < (wayN l key).length ∧ i < ts.length)) (hall : ∀ (j : Nat) t x, j < i → ts[j]? = some t → (wayN l key)[j]? = some x → collB x t = false) : False := by
  refine hne (prove_only w h hok fun j t x ht hx hs => ?_).symm
  have hjt := (List.getElem?_eq_some_iff.1 ht).1
  have hjx := (List.getElem?_eq_some_iff.1 hx).1
  have := hall j t x (by omega) ht hx
  unfold collB at this
  rw [hs, decide_eq_true rfl, Bool.and_true] at this
  have := of_decide_eq_false this
  exact (Decidable.not_not.1 this).symm
set_option maxRecDepth 100000 in
set_option maxHeartbeats 16000000 in
theorem one11_c (w : World) (hc : Cubes w) (hG : ErrT w) (v u : Value) (l : List Pair) (key : ByteArray) (nodes : List ByteArray) (hv : RdP w v l) (hn : l.length ≤ 9223372036854775807) (hs : SmallP l) (hu : RdS w u nodes) (hn2 : nodes.length ≤ 9223372036854775807) (hs2 : ∀ t ∈ nodes, t.size ≤ 9223372036854775807) :
    Calls Tryz.prog 6 #[v, .string key, u] w fun e w' => e = .returned (.bool true) ∧ Ext w w' := by
  have HC := Lib.hid hc
  have HG := Lib.hid hG
  have HV := Lib.hid hv
  have HU := Lib.hid hu
  have HN := Lib.hid (And.intro hn (And.intro hs (And.intro hn2 hs2)))
  obtain ⟨va, vc, hsl⟩ := hv.sl
  subst hsl
  obtain ⟨ua, uc, hsl⟩ := rds_sl hu
  subst hsl
  clear hc hG hv hu hn hs hn2 hs2
  go_enter Tryz.func6, Tryz.ntmps6
  go_wp2_with fail
  refine (works11_c w HC.out).mono ?_
  rintro e w1 ⟨rfl, hE⟩
  have HE1 := Lib.hid hE
  clear hE
  go_wp2_with fail
  refine (hold08x_c w1 (HC.out.ext HE1.out) _ l (HV.out.ext HE1.out) HN.out.1 HN.out.2.1).mono ?_
  rintro e w2 (⟨rfl, hE, _⟩ | ⟨s, bm, S, rfl, hE, hH, _, _⟩)
  · have HE2 := Lib.hid (HE1.out.trans hE)
    clear hE HE1
    go_wp2_with fail
    refine (few11_c w2 _ nodes (HU.out.ext HE2.out) HN.out.2.2.1 HN.out.2.2.2).mono ?_
    rintro e w3 ⟨rfl, hE⟩
    have HE3 := Lib.hid (HE2.out.trans hE)
    clear hE HE2
    go_wp2_with fail
    go_ret
    exact ⟨rfl, HE3.out⟩
  have HE2 := Lib.hid (HE1.out.trans hE)
  have HS2 := Lib.hid hH.st
  have HM := Lib.hid hH.hasM
  obtain ⟨rt, hrt⟩ : ∃ rt, rt = shaB (trieT l).text := ⟨_, rfl⟩
  have HRT := Lib.hid hrt
  rw [← hrt]
  clear hE hH HE1 hrt
  go_wp2_with fail
  refine (few11_c w2 _ nodes (HU.out.ext HE2.out) HN.out.2.2.1 HN.out.2.2.2).mono ?_
  rintro e w3 ⟨rfl, hE⟩
  have HE3 := Lib.hid (HE2.out.trans hE)
  have HS3 := Lib.hid (HS2.out.ext hE)
  clear hE HE2 HS2
  obtain ⟨fn, hfn⟩ : ∃ fn, fn = few11B nodes := ⟨_, rfl⟩
  rw [← hfn]
  have HFN := Lib.hid hfn
  clear hfn
  cases fn with
  | false =>
    go_wp2_with fail
    go_ret
    exact ⟨rfl, HE3.out⟩
  | true =>
    by_cases h50 : 50 < key.size
    · have c1 : (50 : Int) < (key.size : Int) := by omega
      clear h50
      go_wp2_with fail
      go_ret
      exact ⟨rfl, HE3.out⟩
    have c1 : ¬ (50 : Int) < (key.size : Int) := by omega
    have HK := Lib.hid (show key.size ≤ 1000 by omega)
    clear h50
    go_wp2_with fail
    have hbd := build11_c w3 s bm 2000 S HS3.out l HM.out key HK.out
    rw [← HRT.out] at hbd
    refine hbd.mono ?_
    rintro e w4 ⟨pa, pc, rfl, hP⟩
    obtain ⟨N, hN⟩ : ∃ N, N = wayN l key := ⟨_, rfl⟩
    rw [← hN] at hP ⊢
    have HNN := Lib.hid hN
    have HP4 := Lib.hid hP.rd
    have HE4 := Lib.hid (HE3.out.trans hP.ext)
    clear hbd hP HE3 HS3 hN
    go_wp2_with fail
    have hvf := verify_c w4 (HC.out.ext HE4.out) rt key HK.out _ nodes (HU.out.ext HE4.out) (few11_get (HG.out.ext HE4.out) HFN.out.symm)
    obtain ⟨⟨o, b⟩, hpr⟩ : ∃ g, g = proveR rt key nodes := ⟨_, rfl⟩
    rw [← hpr] at hvf
    have HPR := Lib.hid hpr
    refine hvf.mono ?_
    rintro e w5 ⟨rfl, hE⟩
    have HE5 := Lib.hid (HE4.out.trans hE)
    have HP5 := Lib.hid (HP4.out.ext hE)
    clear hvf hE HE4 HP4 hpr
    unfold verV
    have hNl : N.length ≤ 13 := by rw [HNN.out]; exact (wayN_len l key).2
    have hnl : nodes.length ≤ 45 := (few11_all HFN.out.symm).2
    cases b with
    | false =>
      unfold clmV
      go_wp2_with (first | (refine wpList_new Tryz.allocClaim rfl rfl ?_; intro W6 hB6 hE6) | (refine wpList_fill (old := clmL none) (vs := clmL none) rfl rfl rfl rfl hB6 rfl (by rw [clm_len]; exact Tryz.szClaim) (clm_one _) ?_; intro W7 hB7 hE7))
      have HE7 := Lib.hid (HE5.out.trans (hE6.trans' hE7 (fun x hx e => by have e : x = w5.heap.size := e; omega)))
      clear hB6 hE6 hB7 hE7 HE5
      go_ret
      exact ⟨rfl, HE7.out⟩
    | true =>
      unfold clmV
      go_wp2_with (first | (refine wpList_new Tryz.allocClaim rfl rfl ?_; intro W6 hB6 hE6) | (refine wpList_fill (old := clmL none) (vs := clmL o) rfl rfl rfl rfl hB6 ((clm_len none).trans (clm_len o).symm) (by rw [clm_len]; exact Tryz.szClaim) (clm_one _) ?_; intro W7 hB7 hE7))
      have hX7 : Ext w5 W7 := hE6.trans' hE7 (fun x hx e => by have e : x = w5.heap.size := e; omega)
      have HE7 := Lib.hid (HE5.out.trans hX7)
      have HP7 := Lib.hid (HP5.out.ext hX7)
      clear hB6 hE6 hB7 hE7 HE5 hX7 HP5
      refine (same2_c W7 _ _ N nodes HP7.out (HU.out.ext HE7.out) (by omega) (by omega)).mono ?_
      rintro e w8 ⟨rfl, hE⟩
      have HE8 := Lib.hid (HE7.out.trans hE)
      have HP8 := Lib.hid (HP7.out.ext hE)
      clear hE HE7 HP7
      by_cases hsm : N = nodes
      · have hd : decide (N = nodes) = true := decide_eq_true hsm
        rw [hd]
        clear hd hsm
        go_wp2_with fail
        go_ret
        exact ⟨rfl, HE8.out⟩
      have hd : decide (N = nodes) = false := decide_eq_false hsm
      rw [hd]
      have HNE := Lib.hid hsm
      clear hd hsm
      go_wp2_with fail
      go_loopw [15] (fun i wr => OneRel w8 N nodes i wr) (fun i _ => N.length - (intOf i).toNat)
      case atStart => exact ⟨0, by omega, rfl, ExtR w8, fun j t x hj => by omega⟩
      case round =>
        obtain ⟨i, hi, rfl, hE, hall⟩ := hrel
        have HE := Lib.hid hE
        have HALL := Lib.hid hall
        clear hE hall
        have HEND := Lib.hid (fun (hx : ¬ (i < N.length ∧ i < nodes.length)) => one_all w (l := l) (key := key) (ts := nodes) HM.out.ok (by rw [← HRT.out, ← HPR.out]) (by rw [← HNN.out]; exact HNE.out) (i := i) (by rw [← HNN.out]; exact hx) (by rw [← HNN.out]; exact HALL.out))
        by_cases hlt : i < N.length
        · by_cases hlt2 : i < nodes.length
          · obtain ⟨x, hx⟩ : ∃ x, N[i]? = some x := ⟨_, List.getElem?_eq_getElem hlt⟩
            obtain ⟨t, ht⟩ : ∃ t, nodes[i]? = some t := ⟨_, List.getElem?_eq_getElem hlt2⟩
            obtain ⟨a7, c7, hh, hcx⟩ := HP8.out.slice
            obtain ⟨bx, ox, hax, hcx0⟩ := hcx i x hx
            obtain ⟨e1, _, e3⟩ := Value.slice.inj hh
            rw [hax] at e1
            subst e1
            subst e3
            have QX := Lib.hid (cell_ext hcx0 HE.out)
            clear hh hcx hcx0 hax
            obtain ⟨a7, c7, hh, hcx⟩ := (HU.out.ext (HE8.out.trans HE.out)).slice
            obtain ⟨by', oy, hax, hcx0⟩ := hcx i t ht
            obtain ⟨e1, _, e3⟩ := Value.slice.inj hh
            rw [hax] at e1
            subst e1
            subst e3
            have QY := Lib.hid hcx0
            have HX := Lib.hid hx
            have HT := Lib.hid ht
            clear hh hcx hcx0 hax hx ht
            have b1 : (i : Int) < (N.length : Int) := by omega
            have b2 : (i : Int) < (nodes.length : Int) := by omega
            obtain ⟨cb, hcb⟩ : ∃ cb, cb = collB x t := ⟨_, rfl⟩
            have hcol := fun w9 (h9 : Ext wr w9) => collide_t w9 x t (HC.out.ext ((HE8.out.trans HE.out).trans h9))
            rw [show (decide (x ≠ t) && decide (shaB x = shaB t)) = cb from hcb.symm] at hcol
            have HCB := Lib.hid hcb
            have HCOL := Lib.hid hcol
            clear hcb hcol
            go_wp2_with fail
            refine wp_region_mixK [0,1,2,3,4,5,6,7,8] Ext ExtR ExtT (by kernel_rfl) (by kernel_rfl) (by kernel_rfl) ?_
            iterate 3 (refine mixk_pure _ rfl (by kernel_rfl) rfl rfl (fun K hK => ?_); go_big_quiet_op; refine hK _ ?_; clear hK K)
            refine mixk_load ⟨bx, ox + i, none⟩ (.string x) rfl (by kernel_rfl) rfl rfl (fun w2 h2 => run_load_plain Tryz.uStr rfl (cell_ext (by exact QX.out) ((drewE wr).trans h2))) ?_
            simp only [Act.put, List.setIfInBounds_toArray, List.set_cons_zero, List.set_cons_succ]
            iterate 3 (refine mixk_pure _ rfl (by kernel_rfl) rfl rfl (fun K hK => ?_); go_big_quiet_op; refine hK _ ?_; clear hK K)
            refine mixk_load ⟨by', oy + i, none⟩ (.string t) rfl (by kernel_rfl) rfl rfl (fun w2 h2 => run_load_plain Tryz.uStr rfl (cell_ext (by exact QY.out) ((drewE wr).trans h2))) ?_
            simp only [Act.put, List.setIfInBounds_toArray, List.set_cons_zero, List.set_cons_succ]
            refine mixk_call _ 31 #[.string x, .string t] (.bool cb) rfl (by kernel_rfl) rfl (fun w1 => exec_call Tryz.enterCollide (by kernel_rfl)) (fun w1 h1 => HCOL.out w1 ((drewE wr).trans h1)) ?_
            simp only [Act.put, List.setIfInBounds_toArray, List.set_cons_zero, List.set_cons_succ]
            refine mixk_end (by kernel_rfl) (fun w9 he => ?_)
            have HE9 := Lib.hid (HE.out.trans ((drewE wr).trans he))
            clear he QX QY
            cases cb with
            | true =>
              go_wp2_with fail
              go_ret
              exact ⟨rfl, HE8.out.trans HE9.out⟩
            | false =>
              have HST := Lib.hid (show ∀ (j : Nat) t x, j < i + 1 → nodes[j]? = some t → N[j]? = some x → collB x t = false from fun j t' x' hj ht' hx' => by
                by_cases hji : j < i
                · exact HALL.out j t' x' hji ht' hx'
                · have : j = i := by omega
                  subst this
                  obtain rfl := Option.some.inj (HT.out.symm.trans ht')
                  obtain rfl := Option.some.inj (HX.out.symm.trans hx')
                  exact HCB.out.symm)
              go_wp2_with fail
              go_roundw
              case rel => exact ⟨i + 1, by omega, by go_num, HE9.out, HST.out⟩
              case measure => simp [intOf]; omega
          · exact (HEND.out (fun h => hlt2 h.2)).elim
        · exact (HEND.out (fun h => hlt h.1)).elim
end
end Go.Proofs.YtjogjmffkmfmbaaGreatDoor
/- ProofOne, the card: the law is true for every input. -/
namespace Go.Proofs.YtjogjmffkmfmbaaGreatDoor
section
open Go Go.ChangeShapes Go.WideShapes Go.ChangeAt Go.RowKit Go.ChangeMaps
set_option linter.unusedSimpArgs false
set_option linter.unusedVariables false
set_option maxRecDepth 100000 in
theorem proofOne_contract (H : Type) (enc : TypeId × Value → H) (W : World) (base : Nat) (args : Array Value) (ds gs : List (DataW H)) (before : List MemPlace)
    (hval : ∀ (j : Nat) t v, Tryz.f6.params[j]? = some t → args[j]? = some v → Value.okWide Tryz.prog W .any base t v)
    (hW : DataW.Whole enc Tryz.prog Tryz.f6.params.toList Rows.proofOneSpec.vars false W args.toList ds gs before) (hL : laidMetH Tryz.prog Rows.proofOneRow.laid W) :
    Calls Tryz.prog 6 args W fun e W' => ∃ v, e = .returned v ∧ Rows.proofOneSpec.post enc Tryz.prog Tryz.f6 false true false false W args v W' := by
  have hW' := hW
  obtain ⟨p, q, hA0, hV, rfl, hfz, hnd⟩ := hW
  have hA : DataW.TrodAll enc Tryz.prog W 0 (fun _ => true) true Tryz.f6.params.toList args.toList ds p := hA0
  rw [Tryz.params6] at hA hval
  obtain ⟨v0, v1, v2, d0, d1, d2, p0, p1, p2, rfl, rfl, rfl, h0, h1, h2⟩ := trodAll_three hA
  obtain ⟨rfl, rfl⟩ := trodVars_none hV
  obtain ⟨l0, hl0, hn0, hs0⟩ := open_entries (okWide_slice Tryz.underlying29 (hval 0 29 v0 rfl rfl)) h0
  obtain ⟨s1, rfl, rfl, rfl, ws1⟩ := open_string Tryz.underlying9 (hval 1 9 v1 rfl rfl) h1
  have hk1 := Nat.le_trans ws1 maxLen_big
  obtain ⟨l2, hl2, hn2, hs2⟩ := open_texts (okWide_slice Tryz.underlying22 (hval 2 22 v2 rfl rfl)) h2
  clear hA0
  simp only [List.append_nil, List.nil_append] at hW'
  have hlt : ∀ x ∈ p0 ++ p2, x.block < W.heap.size := fun x hx => by simpa using hW'.lt x (by simpa using hx)
  refine (one11_c W (cubes_of hL) (err_of hL) v0 v2 l0 s1 l2 hl0 hn0 hs0 hl2 hn2 hs2).mono fun e W' ⟨he, hE⟩ => ?_
  subst he
  have hb : Below W.heap.size W W' := ⟨hE.os, hE.tape, hE.output, hE.size, fun k hk => hE.block k hk (fun h => h)⟩
  have hres : DataW.TrodAll enc Tryz.prog W' 0 (fun b => decide (b < W.heap.size)) true [29, 9, 22] [v0, .string s1, v2] [d0, .lit (.string s1.data.toList), d2] (p0 ++ p2) := by
    simpa using trodAll_mk3 (Below.trod Tryz.laidOutK (by kernel_rfl) (of_decide_eq_true (by kernel_rfl)) h0 hb (fun x hx => hlt x (by simp [hx]))) (shut_string Tryz.underlying9 ws1) (Below.trod Tryz.laidOutK (by kernel_rfl) (of_decide_eq_true (by kernel_rfl)) h2 hb (fun x hx => hlt x (by simp [hx])))
  refine ⟨_, rfl, _, _, _, [], p0 ++ p2, [], hW', trodAll_mk1 (shut_bool Tryz.underlying4 _), ?_, rfl, hb.frame _, fun h => by cases h⟩
  exact hres
set_option maxRecDepth 100000 in
theorem proofOne_reads (os : Os) {H : Type} (enc : TypeId × Value → H) : ∃ places, DataW.whole enc Tryz.prog ((laidWorld os).forCall (fun _ _ => 0) ⟨#[], #[.slice none 0 0, .string ⟨#[]⟩, .slice none 0 0], []⟩).memory Tryz.f6.params.toList Rows.proofOneSpec.vars false #[.slice none 0 0, .string ⟨#[]⟩, .slice none 0 0].toList 8 = some ([.nil, .lit (.string []), .nil], [], places) :=
  ⟨[], by kernel_rfl⟩
set_option maxRecDepth 100000 in
theorem proofOne_lifted (os : Os) (started : os.Started) (H : Type) (enc : TypeId × Value → H) (F : Stop.Interp) :
    ReturnsInHanded {} Tryz.checked os 6 .any ((OpenSpec.ofChange Rows.proofOneSpec).preRow enc Tryz.prog Tryz.f6 Rows.proofOneRow.domain false Rows.proofOneRow.laid) (((OpenSpec.ofChange Rows.proofOneSpec).at F).post enc Tryz.prog Tryz.f6 false true false false) := by
  obtain ⟨places, hx⟩ := proofOne_reads os enc
  refine returnsInHanded_of_row (C := Tryz.checked) (s := OpenSpec.ofChange Rows.proofOneSpec) Tryz.ownK started (by kernel_rfl) Tryz.func6
    (witness_row_at (enc := enc) (C := Tryz.checked) false (laidWorld os) #[.slice none 0 0, .string ⟨#[]⟩, .slice none 0 0] rfl (by kernel_rfl) (by kernel_rfl) (by kernel_rfl)
      (OpenSpec.preRow_of_cond 8 hx (by kernel_rfl) (fun k hk => by cases hk) (by kernel_rfl) (laid_met os _))) ?_
  intro W base args ds gs before hval hW _ _ _ hL _ _
  exact proofOne_contract H enc W base args ds gs before hval hW hL
theorem proofOne_said : Rows.ProofOneSaid :=
  OpenClaim.holds_of_cond 6 Tryz.f6 rfl rfl rfl rfl rfl rfl rfl ⟨rfl, rfl, rfl, rfl, rfl⟩ rfl rfl rfl rfl rfl (by kernel_rfl) Tryz.func6 (by kernel_rfl)
    (of_decide_eq_true (by kernel_rfl)) (by unfold Func.isWrapper; first | (rw [if_pos (by decide +kernel)]; kernel_rfl) | (rw [if_neg (by decide +kernel)]; exact ⟨rfl, rfl⟩))
    (fun os started H enc _ F => by rw [OpenClaim.pre_eq_preRow]; exact proofOne_lifted os started H enc F)
theorem proofOneCard_holds : Rows.ProofOneCardSaid :=
  Claim7.holds_tied_plain_at .later [] [.handle, .data] true (true, "b7bd1e2e29b688aa281167e6180871ca34643c5c354714fdb60332ef6a4a105a") true
    proofOne_said (fun _ h => by cases h) (by kernel_rfl) (fun _ h => by cases h) proofOne_row_tie rfl ⟨rfl, rfl⟩ (by kernel_rfl) rfl
    (fun f fn hf hfn => by
      obtain rfl : f = 6 := Option.some.inj ((show Tryz.prog.funcNamed "guilloche/guillochelaw11.ProofOne" = some 6 by kernel_rfl).symm.trans hf) |>.symm
      obtain rfl : fn = Tryz.f6 := (Option.some.inj (Tryz.func6.symm.trans hfn)).symm
      exact ⟨by kernel_rfl, fun j t ht => by
        rw [Tryz.params6] at ht
        have hm : t ∈ [29, 9, 22] := by simpa using Array.mem_of_getElem? ht
        have hall : ([29, 9, 22].all fun u => !Tryz.prog.wantsStandIn u) = true := by kernel_rfl
        exact (show Tryz.prog.wantsStandIn t = false by simpa using List.all_eq_true.1 hall t hm)⟩)
    (by kernel_rfl)
end
end Go.Proofs.YtjogjmffkmfmbaaGreatDoor
