/- Parts of the proof, one behind the other: PrfQ, StaysP. Each is under no condition but those that it states. -/
import Derived.Test.YtllbcjclibbogaaGreatDoorPa33
import Derived.Test.YtllbcjclibbogaaGreatDoorPa35
import Derived.Test.YtllbcjclibbogaaGreatDoorPa37
import Derived.Test.YtllbcjclibbogaaGreatDoorPa26
import Derived.Test.YtllbcjclibbogaaGreatDoorPa38
import Derived.Test.YtllbcjclibbogaaGreatDoorPa39
import Derived.Test.YtllbcjclibbogaaGreatDoorPa42
import Derived.WalkKit
import Derived.ProofKit
import Derived.OpenShut
import Derived.Lib.SmallJoins
import Derived.Deep.DeepHandedRow
import Derived.Lay
import Derived.Carry
import Derived.ChangeMaps5
/- law 11: ProofStays. -/
namespace Go.Proofs.YtllbcjclibbogaaGreatDoor
section
open Go Go.RowKit
set_option linter.unusedSimpArgs false
set_option linter.unusedVariables false
attribute [local go_sem] Oper.semAt_some
theorem stay_root (l : List Pair) (key root : ByteArray) (hr : root ≠ shaB (trieT l).text) : (proveR root key (wayN l key)).2 = false := by
  unfold proveR
  split
  · rfl
  · have e : (proveN root (pathB key) (wayN l key)).2.2 = false := by
      unfold wayN proveN
      show (if shaB (trieT l).text = root then _ else (([], (trieT l).text :: wayL 12 (rowsL l) (pathB key), false) : List (NodeT × ByteArray) × List ByteArray × Bool)).2.2 = false
      rw [if_neg (fun e => hr e.symm)]
    show ((proveN root (pathB key) (wayN l key)).2.2 && _) = false
    rw [e]; rfl
theorem stay_find {l : List Pair} {cs : List Chg} {key : ByteArray} (h : checkN l = 0) (hno : ∀ c ∈ cs, c.k ≠ key.data.toList) : findB (sortM (applyM l cs)) key = findB l key := by
  rw [findB_look, findB_look, look_after h, lasts_none hno]
def SmallC' (l : List Chg) : Prop := ∀ p ∈ l, p.key.size ≤ 9223372036854775807 ∧ p.value.size ≤ 9223372036854775807
theorem small_ok {l : List Pair} (h : checkN l = 0) : SmallP l := smallP_ok h
def StRel (w3 : World) (cs : List Chg) (key : ByteArray) (v : Value) (wr : World) : Prop := ∃ i : Nat, i ≤ cs.length ∧ v = .int .i64 i ∧ Ext w3 wr ∧ ∀ c ∈ cs.take i, c.k ≠ key.data.toList
set_option maxRecDepth 100000 in
set_option maxHeartbeats 16000000 in
theorem stays_c (w : World) (hc : Cubes w) (v u : Value) (l : List Pair) (cs : List Chg) (key : ByteArray) (hv : RdP w v l) (hu : RdC w u cs) (hn : l.length ≤ 9223372036854775807) (hnc : cs.length ≤ 9223372036854775807) (hs : SmallP l) (hsc : SmallC' cs) (hk : key.size ≤ 9223372036854775807) :
    Calls Tryz.prog 4 #[v, u, .string key] w fun e w' => e = .returned (.bool true) ∧ Ext w w' := by
  have HC := Lib.hid hc
  have HV := Lib.hid hv
  have HU := Lib.hid hu
  have HN := Lib.hid (And.intro hn (And.intro hs hsc))
  obtain ⟨va, vc, hsl⟩ := hv.sl
  subst hsl
  obtain ⟨ua, uc, hsl⟩ := hu.sl
  subst hsl
  clear hc hv hu hn hs hsc
  go_enter Tryz.func4, Tryz.ntmps4
  go_wp2_with fail
  refine (works11_c w HC.out).mono ?_
  rintro e w1 ⟨rfl, hE⟩
  have HE1 := Lib.hid hE
  clear hE
  go_wp2_with fail
  refine (fewc_c w1 _ cs (HU.out.ext HE1.out) hnc HN.out.2.2).mono ?_
  rintro e w2 ⟨rfl, hE⟩
  have HE2 := Lib.hid (HE1.out.trans hE)
  clear hE HE1
  obtain ⟨fc, hfc⟩ : ∃ fc, fc = fewC cs := ⟨_, rfl⟩
  rw [← hfc]
  clear hfc
  go_wp2_with fail
  refine (apply_c w2 _ _ l cs (HV.out.ext HE2.out) (HU.out.ext HE2.out) HN.out.1 hnc HN.out.2.1 HN.out.2.2).mono ?_
  rintro e w3 h4
  unfold ApplyP at h4
  by_cases hap : applyE l cs = 0
  case neg =>
    rw [if_neg hap] at h4
    obtain ⟨rfl, hE⟩ := h4
    have HE4 := Lib.hid (HE2.out.trans hE)
    obtain ⟨x, hx⟩ : ∃ x, x = applyE l cs := ⟨_, rfl⟩
    rw [← hx] at hap ⊢
    have hne2 : (x != 0) = true := by simpa using hap
    clear hE HE2 hap hx
    cases fc with
    | false =>
      go_wp2_with fail
      go_ret
      exact ⟨rfl, HE4.out⟩
    | true =>
      go_wp2_with fail
      go_ret
      exact ⟨rfl, HE4.out⟩
  rw [if_pos hap] at h4
  obtain ⟨r4, rfl, hR⟩ := h4
  obtain ⟨M, hM⟩ : ∃ M, M = sortM (applyM l cs) := ⟨_, rfl⟩
  rw [← hM] at hR
  have HM := Lib.hid hM
  have HOL := Lib.hid (show checkN l = 0 from (apply_parts hap).1)
  have HCM := Lib.hid (show checkN M = 0 by rw [hM]; exact after_check hap)
  obtain ⟨a4, c4, rfl⟩ := hR.sl
  have HM3 := Lib.hid (ERow.rd hR)
  have HE3 := Lib.hid (HE2.out.trans hR.ext)
  clear hR hap hM HE2
  cases fc with
  | false =>
    go_wp2_with fail
    go_ret
    exact ⟨rfl, HE3.out⟩
  | true =>
  by_cases h50 : 50 < key.size
  · have c1 : (50 : Int) < (key.size : Int) := by omega
    clear h50
    go_wp2_with fail
    go_ret
    exact ⟨rfl, HE3.out⟩
  have c1 : ¬ (50 : Int) < (key.size : Int) := by omega
  have HK := Lib.hid (show key.size ≤ 1000 by omega)
  clear h50 hk
  go_wp2_with fail
  go_loopw [11] (fun i wr => StRel w3 cs key i wr) (fun i _ => cs.length - (intOf i).toNat)
  case atStart => exact ⟨0, by omega, rfl, ExtR w3, fun c hc => by cases hc⟩
  case round =>
    obtain ⟨i, hi, rfl, hE, hall⟩ := hrel
    have HX := Lib.hid hE
    have HE := Lib.hid (HE3.out.trans hE)
    have HALL := Lib.hid hall
    clear hE hall
    by_cases hlt : i < cs.length
    · rcases HU.out with ⟨_, _, _, h0⟩ | ⟨b, of, c1', hh, hb, hcc, hcell⟩
      · rw [h0] at hlt; cases hlt
      cases hh
      obtain ⟨p, hp⟩ : ∃ p, cs[i]? = some p := ⟨_, List.getElem?_eq_getElem hlt⟩
      obtain ⟨q1, _, _⟩ := hcell i p hp
      have q1 := cell_ext q1 HE.out
      have b1 : (i : Int) < (cs.length : Int) := by omega
      have HP := Lib.hid hp
      obtain ⟨x, y, gn⟩ := p
      simp only at q1
      clear hcell hp hb hcc
      have hkb := key_beq x key
      by_cases hxk : key.data.toList = x.data.toList
      · rw [decide_eq_true hxk] at hkb
        clear hxk
        go_wp2_with fail
        go_ret
        exact ⟨rfl, HE.out⟩
      · rw [decide_eq_false hxk] at hkb
        have HNE := Lib.hid (show ∀ c ∈ cs.take (i + 1), c.k ≠ key.data.toList from fun c hc => by
          rw [List.take_add_one, HP.out] at hc
          rcases List.mem_append.1 hc with hc | hc
          · exact HALL.out c hc
          · have hc : c ∈ [(⟨x, y, gn⟩ : Chg)] := hc
            rw [List.mem_singleton.1 hc]
            exact fun e => hxk e.symm)
        clear hxk
        go_wp2_with fail
        go_roundw
        case rel => exact ⟨i + 1, by omega, by go_num, HX.out, HNE.out⟩
        case measure => simp [intOf]; omega
    · have HNO := Lib.hid (show ∀ c ∈ cs, c.k ≠ key.data.toList by
        have h := HALL.out
        rwa [List.take_of_length_le (by omega)] at h)
      have HFD := Lib.hid (show findB M key = findB l key by rw [HM.out]; exact stay_find HOL.out HNO.out)
      have HMR := Lib.hid (HM3.out.ext HX.out)
      clear HALL
      go_wp2_with fail
      refine (hold08_c wr (HC.out.ext HE.out) _ l (HV.out.ext HE.out) HN.out.1 HN.out.2.1).mono ?_
      rintro e w4 (hno | hyes)
      · obtain ⟨rfl, hE, _⟩ := hno
        have HE4 := Lib.hid (HE.out.trans hE)
        have HM4 := Lib.hid (HMR.out.ext hE)
        clear hE
        go_wp2_with fail
        refine (hold08_c w4 (HC.out.ext HE4.out) _ M HM4.out (Nat.le_trans (check_ok HCM.out).len (by decide)) (small_ok HCM.out)).mono ?_
        rintro e w5 (⟨rfl, hE, _⟩ | ⟨s2, bm2, S2, rfl, hE, _⟩)
        · have HE5 := Lib.hid (HE4.out.trans hE)
          clear hE
          go_wp2_with fail
          go_ret
          exact ⟨rfl, HE5.out⟩
        · have HE5 := Lib.hid (HE4.out.trans hE)
          clear hE
          go_wp2_with fail
          go_ret
          exact ⟨rfl, HE5.out⟩
      obtain ⟨s, bm, S, rfl, hE, hst, hhm, _⟩ := hyes
      have HE4 := Lib.hid (HE.out.trans hE)
      have HM4 := Lib.hid (HMR.out.ext hE)
      have HS4 := Lib.hid hst
      have HL := Lib.hid hhm
      clear hE hst hhm
      obtain ⟨ra, hra⟩ : ∃ ra, ra = shaB (trieT l).text := ⟨_, rfl⟩
      have HRA := Lib.hid hra
      rw [← hra]
      clear hra
      go_wp2_with fail
      refine (hold08_c w4 (HC.out.ext HE4.out) _ M HM4.out (Nat.le_trans (check_ok HCM.out).len (by decide)) (small_ok HCM.out)).mono ?_
      rintro e w5 (⟨rfl, hE, _⟩ | ⟨s2, bm2, S2, rfl, hE, hst2, hhm2, _⟩)
      · have HE5 := Lib.hid (HE4.out.trans hE)
        clear hE
        go_wp2_with fail
        go_ret
        exact ⟨rfl, HE5.out⟩
      have HE5 := Lib.hid (HE4.out.trans hE)
      have HS5 := Lib.hid (HS4.out.ext hE)
      have HT5 := Lib.hid hst2
      have HL2 := Lib.hid hhm2
      clear hE hst2 hhm2 HS4 HM4
      obtain ⟨rb, hrb⟩ : ∃ rb, rb = shaB (trieT M).text := ⟨_, rfl⟩
      have HRB := Lib.hid hrb
      rw [← hrb]
      clear hrb
      go_wp2_with fail
      have hbd := build11_c w5 s bm 2000 S HS5.out l HL.out key HK.out
      rw [← HRA.out] at hbd
      refine hbd.mono ?_
      rintro e w6 ⟨pa, pc, rfl, hP⟩
      have HP6 := Lib.hid hP.rd
      have HE6 := Lib.hid (HE5.out.trans hP.ext)
      have HT6 := Lib.hid (HT5.out.ext hP.ext)
      obtain ⟨NA, hNA⟩ : ∃ NA, NA = wayN l key := ⟨_, rfl⟩
      rw [← hNA] at HP6 ⊢
      have HNA := Lib.hid hNA
      clear hbd hP hNA HT5 HS5
      go_wp2_with fail
      have hbd := build11_c w6 s2 bm2 2000 S2 HT6.out M HL2.out key HK.out
      rw [← HRB.out] at hbd
      refine hbd.mono ?_
      rintro e w7 ⟨qa, qc, rfl, hP⟩
      have HQ7 := Lib.hid hP.rd
      have HE7 := Lib.hid (HE6.out.trans hP.ext)
      have HP7 := Lib.hid (HP6.out.ext hP.ext)
      obtain ⟨NB, hNB⟩ : ∃ NB, NB = wayN M key := ⟨_, rfl⟩
      rw [← hNB] at HQ7 ⊢
      have HNB := Lib.hid hNB
      clear hbd hP hNB HT6 HP6
      obtain ⟨o, ho⟩ : ∃ o, o = findB l key := ⟨_, rfl⟩
      have HO := Lib.hid ho
      clear ho
      go_wp2_with fail
      have hvf := verify_c w7 (HC.out.ext HE7.out) ra key HK.out _ NA HP7.out (by rw [HNA.out]; exact way_get w7 HOL.out key)
      rw [show verV (proveR ra key NA) = .tuple #[clmV o, .int .i64 0] by rw [HRA.out, HNA.out, prove_map w HOL.out key, HO.out]; rfl] at hvf
      refine hvf.mono ?_
      rintro e w8 ⟨rfl, hE⟩
      have HE8 := Lib.hid (HE7.out.trans hE)
      have HP8 := Lib.hid (HP7.out.ext hE)
      have HQ8 := Lib.hid (HQ7.out.ext hE)
      clear hvf hE HP7 HQ7
      unfold clmV
      go_wp2_with (first | (refine wpList_new Tryz.allocClaim rfl rfl ?_; intro W6 hB6 hE6) | (refine wpList_fill (old := clmL none) (vs := clmL o) rfl rfl rfl rfl hB6 ((clm_len none).trans (clm_len o).symm) (by rw [clm_len]; exact Tryz.szClaim) (clm_one _) ?_; intro W7 hB7 hE7))
      have hx9 : Ext w8 W7 := hE6.trans' hE7 (fun x hx e => by have e : x = w8.heap.size := e; omega)
      have HE9 := Lib.hid (HE8.out.trans hx9)
      have HP9 := Lib.hid (HP8.out.ext hx9)
      have HQ9 := Lib.hid (HQ8.out.ext hx9)
      have HB9 := Lib.hid hB7
      obtain ⟨g1, hg1⟩ : ∃ g1, g1 = w8.heap.size := ⟨_, rfl⟩
      rw [← hg1] at HB9 ⊢
      clear hB6 hE6 hB7 hE7 hx9 HP8 HQ8 HE8 hg1
      have hvf := verify_c W7 (HC.out.ext HE9.out) rb key HK.out _ NB HQ9.out (by rw [HNB.out]; exact way_get W7 HCM.out key)
      rw [show verV (proveR rb key NB) = .tuple #[clmV o, .int .i64 0] by rw [HRB.out, HNB.out, prove_map w HCM.out key, HFD.out, HO.out]; rfl] at hvf
      refine hvf.mono ?_
      rintro e w10 ⟨rfl, hE⟩
      have HE10 := Lib.hid (HE9.out.trans hE)
      have HP10 := Lib.hid (HP9.out.ext hE)
      have HB10 := Lib.hid (HB9.out.keeps hE (fun h => h))
      clear hvf hE HP9 HQ9 HB9
      unfold clmV
      go_wp2_with (first | (refine wpList_new Tryz.allocClaim rfl rfl ?_; intro W11 hB11 hE11) | (refine wpList_fill (old := clmL none) (vs := clmL o) rfl rfl rfl rfl hB11 ((clm_len none).trans (clm_len o).symm) (by rw [clm_len]; exact Tryz.szClaim) (clm_one _) ?_; intro W12 hB12 hE12))
      have hx12 : Ext w10 W12 := hE11.trans' hE12 (fun x hx e => by have e : x = w10.heap.size := e; omega)
      have HE12 := Lib.hid (HE10.out.trans hx12)
      have HP12 := Lib.hid (HP10.out.ext hx12)
      have HB12 := Lib.hid (HB10.out.keeps hx12 (fun h => h))
      have HD12 := Lib.hid hB12
      obtain ⟨g2, hg2⟩ : ∃ g2, g2 = w10.heap.size := ⟨_, rfl⟩
      rw [← hg2] at HD12 ⊢
      clear hB11 hE11 hB12 hE12 hx12 HP10 HB10 HE10 hg2
      have hvf := verify_c W12 (HC.out.ext HE12.out) rb key HK.out _ NA HP12.out (by rw [HNA.out]; exact way_get W12 HOL.out key)
      have hq := eql_clmV o o
      rw [decide_eq_true rfl] at hq
      by_cases hab : ra = rb
      · have hsl : (rb.toList == rb.toList) = true := by rw [nbeq_sha]; exact decide_eq_true rfl
        rw [show verV (proveR rb key NA) = .tuple #[clmV o, .int .i64 0] by rw [← hab, HRA.out, HNA.out, prove_map w HOL.out key, HO.out]; rfl] at hvf
        subst hab
        refine hvf.mono ?_
        rintro e w13 ⟨rfl, hE⟩
        have HE13 := Lib.hid (HE12.out.trans hE)
        have HB13 := Lib.hid (HB12.out.keeps hE (fun h => h))
        have HD13 := Lib.hid (HD12.out.keeps hE (fun h => h))
        clear hvf hE HB12 HD12
        unfold clmV at hq ⊢
        go_wp2_with (first | (refine wpList_new Tryz.allocClaim rfl rfl ?_; intro W14 hB14 hE14) | (refine wpList_fill (old := clmL none) (vs := clmL o) rfl rfl rfl rfl hB14 ((clm_len none).trans (clm_len o).symm) (by rw [clm_len]; exact Tryz.szClaim) (clm_one _) ?_; intro W15 hB15 hE15; have hx15 : Ext w13 W15 := hE14.trans' hE15 (fun x hx e => by have e : x = w13.heap.size := e; omega)) | (refine wpList_load_known 46 (.tmp 20) rfl rfl _ _ rfl (run_load_clm (HB13.out.keeps hx15 (fun h => h))) ?_; unfold clmV) | (refine wpList_load_known 46 (.tmp 22) rfl rfl _ _ rfl (run_load_clm (HD13.out.keeps hx15 (fun h => h))) ?_; unfold clmV))
        go_ret
        exact ⟨rfl, HE13.out.trans hx15⟩
      · have hsl := toList_ne hab
        rw [show verV (proveR rb key NA) = .tuple #[clmV none, .int .i64 10] by
          have h2 : (proveR rb key NA).2 = false := by rw [HNA.out]; exact stay_root l key rb (by rw [← HRA.out]; exact fun e => hab e.symm)
          unfold verV; rw [if_neg (by rw [h2]; decide)]] at hvf
        clear hab
        refine hvf.mono ?_
        rintro e w13 ⟨rfl, hE⟩
        have HE13 := Lib.hid (HE12.out.trans hE)
        have HB13 := Lib.hid (HB12.out.keeps hE (fun h => h))
        have HD13 := Lib.hid (HD12.out.keeps hE (fun h => h))
        clear hvf hE HB12 HD12
        unfold clmV at hq ⊢
        go_wp2_with (first | (refine wpList_new Tryz.allocClaim rfl rfl ?_; intro W14 hB14 hE14) | (refine wpList_fill (old := clmL none) (vs := clmL none) rfl rfl rfl rfl hB14 rfl (by rw [clm_len]; exact Tryz.szClaim) (clm_one _) ?_; intro W15 hB15 hE15; have hx15 : Ext w13 W15 := hE14.trans' hE15 (fun x hx e => by have e : x = w13.heap.size := e; omega)) | (refine wpList_load_known 46 (.tmp 20) rfl rfl _ _ rfl (run_load_clm (HB13.out.keeps hx15 (fun h => h))) ?_; unfold clmV) | (refine wpList_load_known 46 (.tmp 22) rfl rfl _ _ rfl (run_load_clm (HD13.out.keeps hx15 (fun h => h))) ?_; unfold clmV))
        go_ret
        exact ⟨rfl, HE13.out.trans hx15⟩
end
end Go.Proofs.YtllbcjclibbogaaGreatDoor
/- ProofStays, the card: the law is true for every input. -/
namespace Go.Proofs.YtllbcjclibbogaaGreatDoor
section
open Go Go.ChangeShapes Go.WideShapes Go.ChangeAt Go.RowKit Go.ChangeMaps
set_option linter.unusedSimpArgs false
set_option linter.unusedVariables false
set_option maxRecDepth 100000 in
theorem proofStays_contract (H : Type) (enc : TypeId × Value → H) (W : World) (base : Nat) (args : Array Value) (ds gs : List (DataW H)) (before : List MemPlace)
    (hval : ∀ (j : Nat) t v, Tryz.f4.params[j]? = some t → args[j]? = some v → Value.okWide Tryz.prog W .any base t v)
    (hW : DataW.Whole enc Tryz.prog Tryz.f4.params.toList Rows.proofStaysSpec.vars false W args.toList ds gs before) (hL : laidMetH Tryz.prog Rows.proofStaysRow.laid W) :
    Calls Tryz.prog 4 args W fun e W' => ∃ v, e = .returned v ∧ Rows.proofStaysSpec.post enc Tryz.prog Tryz.f4 false true false false W args v W' := by
  have hW' := hW
  obtain ⟨p, q, hA0, hV, rfl, hfz, hnd⟩ := hW
  have hA : DataW.TrodAll enc Tryz.prog W 0 (fun _ => true) true Tryz.f4.params.toList args.toList ds p := hA0
  rw [Tryz.params4] at hA hval
  obtain ⟨v0, v1, v2, d0, d1, d2, p0, p1, p2, rfl, rfl, rfl, h0, h1, h2⟩ := trodAll_three hA
  obtain ⟨rfl, rfl⟩ := trodVars_none hV
  obtain ⟨l0, hl0, hn0, hs0⟩ := open_entries (okWide_slice Tryz.underlying22 (hval 0 22 v0 rfl rfl)) h0
  obtain ⟨l1, hl1, hn1, hs1⟩ := open_changes (okWide_slice Tryz.underlying35 (hval 1 35 v1 rfl rfl)) h1
  obtain ⟨s2, rfl, rfl, rfl, ws2⟩ := open_string Tryz.underlying9 (hval 2 9 v2 rfl rfl) h2
  have hk2 := Nat.le_trans ws2 maxLen_big
  clear hA0
  simp only [List.append_nil, List.nil_append] at hW'
  have hlt : ∀ x ∈ p0 ++ p1, x.block < W.heap.size := fun x hx => by simpa using hW'.lt x (by simpa using hx)
  refine (stays_c W (cubes_of hL) v0 v1 l0 l1 s2 hl0 hl1 hn0 hn1 hs0 hs1 hk2).mono fun e W' ⟨he, hE⟩ => ?_
  subst he
  have hb : Below W.heap.size W W' := ⟨hE.os, hE.tape, hE.output, hE.size, fun k hk => hE.block k hk (fun h => h)⟩
  have hres : DataW.TrodAll enc Tryz.prog W' 0 (fun b => decide (b < W.heap.size)) true [22, 35, 9] [v0, v1, .string s2] [d0, d1, .lit (.string s2.data.toList)] (p0 ++ p1) := by
    simpa using trodAll_mk3 (Below.trod Tryz.laidOutK (by kernel_rfl) (of_decide_eq_true (by kernel_rfl)) h0 hb (fun x hx => hlt x (by simp [hx]))) (Below.trod Tryz.laidOutK (by kernel_rfl) (of_decide_eq_true (by kernel_rfl)) h1 hb (fun x hx => hlt x (by simp [hx]))) (shut_string Tryz.underlying9 ws2)
  refine ⟨_, rfl, _, _, _, [], p0 ++ p1, [], hW', trodAll_mk1 (shut_bool Tryz.underlying4 _), ?_, rfl, hb.frame _, fun h => by cases h⟩
  exact hres
set_option maxRecDepth 100000 in
theorem proofStays_reads (os : Os) {H : Type} (enc : TypeId × Value → H) : ∃ places, DataW.whole enc Tryz.prog ((laidWorld os).forCall (fun _ _ => 0) ⟨#[], #[.slice none 0 0, .slice none 0 0, .string ⟨#[]⟩], []⟩).memory Tryz.f4.params.toList Rows.proofStaysSpec.vars false #[.slice none 0 0, .slice none 0 0, .string ⟨#[]⟩].toList 8 = some ([.nil, .nil, .lit (.string [])], [], places) :=
  ⟨[], by kernel_rfl⟩
set_option maxRecDepth 100000 in
theorem proofStays_lifted (os : Os) (started : os.Started) (H : Type) (enc : TypeId × Value → H) (F : Stop.Interp) :
    ReturnsInHanded {} Tryz.checked os 4 .any ((OpenSpec.ofChange Rows.proofStaysSpec).preRow enc Tryz.prog Tryz.f4 Rows.proofStaysRow.domain false Rows.proofStaysRow.laid) (((OpenSpec.ofChange Rows.proofStaysSpec).at F).post enc Tryz.prog Tryz.f4 false true false false) := by
  obtain ⟨places, hx⟩ := proofStays_reads os enc
  refine returnsInHanded_of_row (C := Tryz.checked) (s := OpenSpec.ofChange Rows.proofStaysSpec) Tryz.ownK started (by kernel_rfl) Tryz.func4
    (witness_row_at (enc := enc) (C := Tryz.checked) false (laidWorld os) #[.slice none 0 0, .slice none 0 0, .string ⟨#[]⟩] rfl (by kernel_rfl) (by kernel_rfl) (by kernel_rfl)
      (OpenSpec.preRow_of_cond 8 hx (by kernel_rfl) (fun k hk => by cases hk) (by kernel_rfl) (laid_met os _))) ?_
  intro W base args ds gs before hval hW _ _ _ hL _ _
  exact proofStays_contract H enc W base args ds gs before hval hW hL
theorem proofStays_said : Rows.ProofStaysSaid :=
  OpenClaim.holds_of_cond 4 Tryz.f4 rfl rfl rfl rfl rfl rfl rfl ⟨rfl, rfl, rfl, rfl, rfl⟩ rfl rfl rfl rfl rfl (by kernel_rfl) Tryz.func4 (by kernel_rfl)
    (of_decide_eq_true (by kernel_rfl)) (by unfold Func.isWrapper; first | (rw [if_pos (by decide +kernel)]; kernel_rfl) | (rw [if_neg (by decide +kernel)]; exact ⟨rfl, rfl⟩))
    (fun os started H enc _ F => by rw [OpenClaim.pre_eq_preRow]; exact proofStays_lifted os started H enc F)
theorem proofStaysCard_holds : Rows.ProofStaysCardSaid :=
  Claim7.holds_tied_plain_at .later [] [.handle, .data] true (true, "eea13e6a8eb252ec2b357ac6d5720f534fba36f2034ea55fa584128149235820") true
    proofStays_said (fun _ h => by cases h) (by kernel_rfl) (fun _ h => by cases h) proofStays_row_tie rfl ⟨rfl, rfl⟩ (by kernel_rfl) rfl
    (fun f fn hf hfn => by
      obtain rfl : f = 4 := Option.some.inj ((show Tryz.prog.funcNamed "guilloche/guillochelaw11.ProofStays" = some 4 by kernel_rfl).symm.trans hf) |>.symm
      obtain rfl : fn = Tryz.f4 := (Option.some.inj (Tryz.func4.symm.trans hfn)).symm
      exact ⟨by kernel_rfl, fun j t ht => by
        rw [Tryz.params4] at ht
        have hm : t ∈ [22, 35, 9] := by simpa using Array.mem_of_getElem? ht
        have hall : ([22, 35, 9].all fun u => !Tryz.prog.wantsStandIn u) = true := by kernel_rfl
        exact (show Tryz.prog.wantsStandIn t = false by simpa using List.all_eq_true.1 hall t hm)⟩)
    (by kernel_rfl)
end
end Go.Proofs.YtllbcjclibbogaaGreatDoor
