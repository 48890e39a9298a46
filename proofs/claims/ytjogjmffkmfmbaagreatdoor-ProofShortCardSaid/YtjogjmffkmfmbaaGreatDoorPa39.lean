/- Parts of the proof, one behind the other: PrfM, Same2, HoldC, StoreQq, InA. Each is under no condition but those that it states. -/
import Derived.Test.YtjogjmffkmfmbaaGreatDoorPa33
import Derived.Test.YtjogjmffkmfmbaaGreatDoorPa38
import Derived.Test.YtjogjmffkmfmbaaGreatDoorPa21
import Derived.Test.YtjogjmffkmfmbaaGreatDoorPa26
/- law 11: Few; ProofSound. -/
namespace Go.Proofs.YtjogjmffkmfmbaaGreatDoor
section
open Go Go.RowKit
set_option linter.unusedSimpArgs false
set_option linter.unusedVariables false
attribute [local go_sem] Oper.semAt_some
def few11B (l : List ByteArray) : Bool := l.all (fun t => decide (t.size ≤ 700)) && decide (l.length ≤ 45)
def FwRel11 (w : World) (l : List ByteArray) (i : Value) (wr : World) : Prop := ∃ k : Nat, k ≤ l.length ∧ k ≤ 46 ∧ i = .int .i64 k ∧ Ext w wr ∧ (l.take k).all (fun t => decide (t.size ≤ 700)) = true
theorem all_not11 {l : List ByteArray} {k : Nat} {p : ByteArray} (h : l[k]? = some p) (hb : ¬ p.size ≤ 700) : few11B l = false := by
  unfold few11B
  have : l.all (fun t => decide (t.size ≤ 700)) = false := by
    rw [Bool.eq_false_iff]; intro h2
    have := List.all_eq_true.1 h2 p (List.mem_of_getElem? h)
    exact hb (of_decide_eq_true this)
  rw [this]; rfl
theorem few11_all {l : List ByteArray} (h : few11B l = true) : (∀ t ∈ l, t.size ≤ 700) ∧ l.length ≤ 45 := by
  unfold few11B at h
  rw [Bool.and_eq_true, List.all_eq_true] at h
  exact ⟨fun t ht => of_decide_eq_true (h.1 t ht), of_decide_eq_true h.2⟩
theorem few11_get {W : World} (hG : ErrT W) {l : List ByteArray} (h : few11B l = true) : GetAll W l := fun t ht => by
  rcases get_is t (by have := (few11_all h).1 t ht; omega) with h | h
  · exact .inl h
  · exact .inr ⟨hG, h⟩
set_option maxRecDepth 100000 in
set_option maxHeartbeats 8000000 in
theorem few11_c (w : World) (v : Value) (l : List ByteArray) (hv : RdS w v l) (hn : l.length ≤ 9223372036854775807) (hs : ∀ t ∈ l, t.size ≤ 9223372036854775807) :
    Calls Tryz.prog 28 #[v] w fun e w' => e = .returned (.bool (few11B l)) ∧ Ext w w' := by
  have HV := Lib.hid hv
  have HS := Lib.hid hs
  obtain ⟨a, c, hsl⟩ := rds_sl hv
  subst hsl
  clear hv hs
  obtain ⟨R, hR⟩ : ∃ R, R = few11B l := ⟨_, rfl⟩
  rw [← hR]
  have HR := Lib.hid hR
  clear hR
  go_enter Tryz.func28, Tryz.ntmps28
  go_wp2_with fail
  go_loopw [3] (fun i wr => FwRel11 w l i wr) (fun i _ => l.length - (intOf i).toNat)
  case atStart => exact ⟨0, by omega, by omega, rfl, ExtR w, rfl⟩
  case round =>
    obtain ⟨k, hk, hk6, rfl, hE, hall⟩ := hrel
    have HE := Lib.hid hE
    have HALL := Lib.hid hall
    clear hE hall
    by_cases hlt : k < l.length
    · have b1 : (k : Int) < (l.length : Int) := by omega
      by_cases h45 : k ≤ 45
      · have b2 : (k : Int) ≤ 45 := by omega
        obtain ⟨p, hp⟩ : ∃ p, l[k]? = some p := ⟨_, List.getElem?_eq_getElem hlt⟩
        rcases HV.out with ⟨_, _, _, h0⟩ | ⟨b, o, c1, hh, hb, hc, hcell⟩
        · rw [h0] at hlt; cases hlt
        cases hh
        have q1 := cell_ext (hcell k p hp) HE.out
        have hsp := HS.out p (List.mem_of_getElem? hp)
        have HP := Lib.hid hp
        clear hcell hb hc hp
        by_cases hx : 700 < p.size
        · have b3 : (700 : Int) < (p.size : Int) := by omega
          have HF := Lib.hid (show R = false by rw [HR.out]; exact all_not11 HP.out (by omega))
          clear hx
          go_wp2_with fail
          go_ret
          exact ⟨by rw [HF.out]; rfl, HE.out⟩
        · have b3 : ¬ (700 : Int) < (p.size : Int) := by omega
          have HG := Lib.hid (show (l.take (k + 1)).all (fun t => decide (t.size ≤ 700)) = true by
            rw [List.take_add_one, HP.out, List.all_append, HALL.out]; simp; omega)
          clear hx
          go_wp2_with fail
          go_roundw
          case rel => exact ⟨k + 1, by omega, by omega, by go_num, HE.out, HG.out⟩
          case measure => simp [intOf]; omega
      · have b2 : ¬ (k : Int) ≤ 45 := by omega
        have b3 : ¬ (l.length : Int) ≤ 45 := by omega
        have HF := Lib.hid (show R = false by rw [HR.out]; unfold few11B; simp; omega)
        clear h45
        go_wp2_with fail
        go_ret
        exact ⟨by rw [HF.out]; rfl, HE.out⟩
    · have hkl : k = l.length := by omega
      have b1 : ¬ (k : Int) < (l.length : Int) := by omega
      have hall := HALL.out
      rw [hkl, List.take_length] at hall
      by_cases h45 : l.length ≤ 45
      · have b2 : (l.length : Int) ≤ 45 := by omega
        have HF := Lib.hid (show R = true by rw [HR.out]; unfold few11B; rw [hall]; simp; omega)
        clear hkl hall h45
        go_wp2_with fail
        go_ret
        exact ⟨by rw [HF.out]; rfl, HE.out⟩
      · have b2 : ¬ (l.length : Int) ≤ 45 := by omega
        have HF := Lib.hid (show R = false by rw [HR.out]; unfold few11B; simp; omega)
        clear hkl hall h45
        go_wp2_with fail
        go_ret
        exact ⟨by rw [HF.out]; rfl, HE.out⟩
set_option maxRecDepth 100000 in
set_option maxHeartbeats 16000000 in
theorem sound_c (w : World) (hc : Cubes w) (hG : ErrT w) (v u : Value) (l : List Pair) (key : ByteArray) (nodes : List ByteArray) (hv : RdP w v l) (hn : l.length ≤ 9223372036854775807) (hs : SmallP l) (hu : RdS w u nodes) (hn2 : nodes.length ≤ 9223372036854775807) (hs2 : ∀ t ∈ nodes, t.size ≤ 9223372036854775807) :
    Calls Tryz.prog 5 #[v, .string key, u] w fun e w' => e = .returned (.bool true) ∧ Ext w w' := by
  have HC := Lib.hid hc
  have HG := Lib.hid hG
  have HV := Lib.hid hv
  have HU := Lib.hid hu
  have HN := Lib.hid (And.intro hn (And.intro hs (And.intro hn2 hs2)))
  obtain ⟨va, vc, hsl⟩ := hv.sl
  subst hsl
  obtain ⟨ua, uc, hsl⟩ := rds_sl hu
  subst hsl
  clear hc hG hv hu hn hs hn2 hs2
  go_enter Tryz.func5, Tryz.ntmps5
  go_wp2_with fail
  refine (works11_c w HC.out).mono ?_
  rintro e w1 ⟨rfl, hE⟩
  have HE1 := Lib.hid hE
  clear hE
  go_wp2_with fail
  refine (few5_c w1 _ l (HV.out.ext HE1.out) HN.out.1 HN.out.2.1).mono ?_
  rintro e w2 ⟨rfl, hE⟩
  have HE2 := Lib.hid (HE1.out.trans hE)
  clear hE HE1
  obtain ⟨fl, hfl⟩ : ∃ fl, fl = fewB l := ⟨_, rfl⟩
  rw [← hfl]
  have HFL := Lib.hid hfl
  clear hfl
  have root : ∀ (w3 : World), Ext w w3 → Calls Tryz.prog 29 #[.slice va l.length vc] w3 fun e w' => ∃ (r : ByteArray) (c : Int), e = .returned (.tuple #[.string r, .int .i64 c]) ∧ Ext w3 w' ∧ c = checkN l ∧ (c = 0 → r = shaB (trieT l).text) := fun w3 hE => by
    by_cases h : checkN l = 0
    · refine (root_ok w3 _ l (HC.out.ext hE) (HV.out.ext hE) h).mono ?_
      rintro e w' ⟨rfl, hE⟩
      exact ⟨_, 0, rfl, hE, h.symm, fun _ => rfl⟩
    · refine (root_bad w3 _ l (HV.out.ext hE) HN.out.1 HN.out.2.1 h).mono ?_
      rintro e w' ⟨rfl, hE⟩
      exact ⟨_, checkN l, rfl, hE, rfl, fun h0 => absurd h0 h⟩
  have HRT := Lib.hid root
  clear root
  have fin : ∀ (fw : Bool) (w3 : World), fw = true → True := fun _ _ _ => trivial
  clear fin
  cases fl with
  | false =>
    go_wp2_with fail
    refine (HRT.out w2 HE2.out).mono ?_
    rintro e w3 ⟨r, c, rfl, hE, _, _⟩
    have HE3 := Lib.hid (HE2.out.trans hE)
    clear hE
    go_wp2_with fail
    go_ret
    exact ⟨rfl, HE3.out⟩
  | true =>
    go_wp2_with fail
    refine (few11_c w2 _ nodes (HU.out.ext HE2.out) HN.out.2.2.1 HN.out.2.2.2).mono ?_
    rintro e w3 ⟨rfl, hE⟩
    have HE3 := Lib.hid (HE2.out.trans hE)
    clear hE HE2
    obtain ⟨fn, hfn⟩ : ∃ fn, fn = few11B nodes := ⟨_, rfl⟩
    rw [← hfn]
    have HFN := Lib.hid hfn
    clear hfn
    cases fn with
    | false =>
      go_wp2_with fail
      refine (HRT.out w3 HE3.out).mono ?_
      rintro e w4 ⟨r, c, rfl, hE, _, _⟩
      have HE4 := Lib.hid (HE3.out.trans hE)
      clear hE
      go_wp2_with fail
      go_ret
      exact ⟨rfl, HE4.out⟩
    | true =>
      go_wp2_with fail
      refine (HRT.out w3 HE3.out).mono ?_
      rintro e w4 ⟨r, c, rfl, hE, hc, hr⟩
      have HE4 := Lib.hid (HE3.out.trans hE)
      clear hE HE3 HRT
      by_cases h0 : c = 0
      case neg =>
        have hne2 : (c != 0) = true := by simpa using h0
        clear hc hr
        go_wp2_with fail
        go_ret
        exact ⟨rfl, HE4.out⟩
      subst h0
      have HOK := Lib.hid (show checkN l = 0 from hc.symm)
      have HR := Lib.hid (hr rfl)
      clear hc hr
      by_cases h50 : 50 < key.size
      · have c1 : (50 : Int) < (key.size : Int) := by omega
        clear h50
        go_wp2_with fail
        go_ret
        exact ⟨rfl, HE4.out⟩
      have c1 : ¬ (50 : Int) < (key.size : Int) := by omega
      have HK := Lib.hid (show key.size ≤ 1000 by omega)
      clear h50
      go_wp2_with fail
      have hvf := verify_c w4 (HC.out.ext HE4.out) r key HK.out _ nodes (HU.out.ext HE4.out) (few11_get (HG.out.ext HE4.out) HFN.out.symm)
      obtain ⟨⟨o, b⟩, hpr⟩ : ∃ g, g = proveR r key nodes := ⟨_, rfl⟩
      rw [← hpr] at hvf
      have HPR := Lib.hid hpr
      refine hvf.mono ?_
      rintro e w5 ⟨rfl, hE⟩
      have HE5 := Lib.hid (HE4.out.trans hE)
      clear hvf hE HE4 hpr
      unfold verV
      have hext := fun w6 (h6 : Ext w w6) => extract_c w6 (HC.out.ext h6) (.slice va l.length vc) (.slice ua nodes.length uc) l key nodes (HV.out.ext h6) (HU.out.ext h6) HK.out HN.out.1 HN.out.2.1 (by have := (few11_all HFN.out.symm).2; omega) (few11_get (HG.out.ext h6) HFN.out.symm)
      obtain ⟨x, hx⟩ : ∃ x, x = extN l key nodes := ⟨_, rfl⟩
      rw [← hx] at hext
      have HX := Lib.hid hx
      have HEX := Lib.hid hext
      clear hext hx
      obtain ⟨o2, ho2⟩ : ∃ o2, o2 = if b = true then o else none := ⟨_, rfl⟩
      have HO2 := Lib.hid ho2
      have HHO := Lib.hid (fun w6 (h6 : Ext w w6) => holds_c w6 (.slice va l.length vc) l key o2 (HV.out.ext h6) (Nat.le_trans (check_ok HOK.out).len (by decide)))
      obtain ⟨hb, hhb⟩ : ∃ hb, hb = decide (o2 = findB l key) := ⟨_, rfl⟩
      rw [← hhb] at HHO
      have HHB := Lib.hid hhb
      clear ho2 hhb
      have he0 : ((⟨#[]⟩ : ByteArray).toList == (⟨#[]⟩ : ByteArray).toList) = true := by simp
      cases b with
      | false =>
        have e2 : o2 = none := HO2.out
        have HXN := Lib.hid (show x = none by
          rw [HX.out]; unfold extN
          rw [if_neg (fun h => h HOK.out), ← HR.out, ← HPR.out, if_neg (fun h => by cases h.1)])
        subst e2
        unfold clmV
        go_wp2_with (first | (refine wpList_new Tryz.allocClaim rfl rfl ?_; intro W6 hB6 hE6) | (refine wpList_fill (old := clmL none) (vs := clmL none) rfl rfl rfl rfl hB6 rfl (by rw [clm_len]; exact Tryz.szClaim) (clm_one _) ?_; intro W7 hB7 hE7))
        have HE7 := Lib.hid (HE5.out.trans (hE6.trans' hE7 (fun x hx e => by have e : x = w5.heap.size := e; omega)))
        have HB7 := Lib.hid hB7
        clear hB6 hE6 hB7 hE7 HE5
        refine (HEX.out W7 HE7.out).mono ?_
        rintro e w8 ⟨rfl, hE⟩
        have HE8 := Lib.hid (HE7.out.trans hE)
        have HB8 := Lib.hid (HB7.out.keeps hE (fun h => h))
        clear hE HE7 HB7 HEX
        rw [HXN.out]
        unfold clashV
        go_wp2_with (refine wpList_load_known 47 (.tmp 11) rfl rfl _ _ rfl (run_load_clm HB8.out) ?_)
        refine (HHO.out w8 HE8.out).mono ?_
        rintro e w9 ⟨rfl, hE⟩
        have HE9 := Lib.hid (HE8.out.trans hE)
        clear hE HE8 HB8 HHO
        go_wp2_with fail
        go_ret
        exact ⟨rfl, HE9.out⟩
      | true =>
        have e2 : o2 = o := HO2.out
        subst e2
        unfold clmV
        go_wp2_with (first | (refine wpList_new Tryz.allocClaim rfl rfl ?_; intro W6 hB6 hE6) | (refine wpList_fill (old := clmL none) (vs := clmL o2) rfl rfl rfl rfl hB6 ((clm_len none).trans (clm_len o2).symm) (by rw [clm_len]; exact Tryz.szClaim) (clm_one _) ?_; intro W7 hB7 hE7))
        have HE7 := Lib.hid (HE5.out.trans (hE6.trans' hE7 (fun x hx e => by have e : x = w5.heap.size := e; omega)))
        have HB7 := Lib.hid hB7
        clear hB6 hE6 hB7 hE7 HE5
        refine (HEX.out W7 HE7.out).mono ?_
        rintro e w8 ⟨rfl, hE⟩
        have HE8 := Lib.hid (HE7.out.trans hE)
        have HB8 := Lib.hid (HB7.out.keeps hE (fun h => h))
        clear hE HE7 HB7 HEX
        cases hb with
        | true =>
          have HXN := Lib.hid (show x = none by
            rw [HX.out]; unfold extN
            rw [if_neg (fun h => h HOK.out), ← HR.out, ← HPR.out, if_neg (fun h => h.2 (of_decide_eq_true HHB.out.symm))])
          rw [HXN.out]
          unfold clashV
          go_wp2_with (refine wpList_load_known 47 (.tmp 11) rfl rfl _ _ rfl (run_load_clm HB8.out) ?_)
          refine (HHO.out w8 HE8.out).mono ?_
          rintro e w9 ⟨rfl, hE⟩
          have HE9 := Lib.hid (HE8.out.trans hE)
          clear hE HE8 HB8 HHO
          go_wp2_with fail
          go_ret
          exact ⟨rfl, HE9.out⟩
        | false =>
          obtain ⟨xa, xb, hxx, hcol⟩ := sound w HOK.out (key := key) (ts := nodes) (by rw [← HR.out, ← HPR.out]) (by rw [← HR.out, ← HPR.out]; exact of_decide_eq_false HHB.out.symm)
          have HXN := Lib.hid (show x = some (xa, xb) from HX.out.trans hxx)
          have HCL := Lib.hid hcol
          clear hxx hcol
          rw [HXN.out]
          unfold clashV
          go_wp2_with (refine wpList_load_known 47 (.tmp 11) rfl rfl _ _ rfl (run_load_clm HB8.out) ?_)
          refine (HHO.out w8 HE8.out).mono ?_
          rintro e w9 ⟨rfl, hE⟩
          have HE9 := Lib.hid (HE8.out.trans hE)
          clear hE HE8 HB8 HHO
          go_wp2_with fail
          have hcl := collide_t w9 xa xb (HC.out.ext HE9.out)
          rw [show (decide (xa ≠ xb) && decide (shaB xa = shaB xb)) = true from HCL.out] at hcl
          refine hcl.mono ?_
          rintro e w10 ⟨rfl, hE⟩
          have HE10 := Lib.hid (HE9.out.trans hE)
          clear hE HE9 hcl
          go_wp2_with fail
          go_ret
          exact ⟨rfl, HE10.out⟩
end
end Go.Proofs.YtjogjmffkmfmbaaGreatDoor
/- reference 02: Same. -/
namespace Go.Proofs.YtjogjmffkmfmbaaGreatDoor
section
open Go Go.RowKit
set_option linter.unusedSimpArgs false
set_option linter.unusedVariables false
attribute [local go_sem] Oper.semAt_some
def SmRel (w : World) (n : Nat) (iv : Value) (W : World) (l m : List ByteArray) : Prop := ∃ i : Nat, i ≤ n ∧ iv = .int .i64 i ∧ l.take i = m.take i ∧ Ext w W
set_option maxRecDepth 100000 in
set_option maxHeartbeats 4000000 in
theorem same2_c (w : World) (v u : Value) (l m : List ByteArray) (hv : RdS w v l) (hu : RdS w u m) (hn : l.length ≤ 1000000) (hn2 : m.length ≤ 1000000) : Calls Tryz.prog 25 #[v, u] w fun e w' => e = .returned (.bool (decide (l = m))) ∧ Ext w w' := by
  obtain ⟨a, c, rfl, _⟩ := hv.slice
  obtain ⟨a2, c2, rfl, _⟩ := hu.slice
  have HV := Lib.hid hv
  have HU := Lib.hid hu
  clear hv hu
  by_cases hl : l.length = m.length
  · have hli : (l.length : Int) = (m.length : Int) := by omega
    obtain ⟨n, hn0⟩ : ∃ n, n = l.length := ⟨_, rfl⟩
    have hml : m.length = n := by omega
    have HML := Lib.hid hml
    have HNL := Lib.hid hn0
    rw [hml, ← hn0]
    rw [← hn0] at hn
    clear hli hl hml hn0 hn2
    go_enter Tryz.func25, Tryz.ntmps25
    go_wp2_with fail
    go_loopw [5] (fun iv wr => SmRel w n iv wr l m) (fun iv _ => n - (intOf iv).toNat)
    case atStart => exact ⟨0, Nat.zero_le _, rfl, rfl, ExtR w⟩
    case round =>
      obtain ⟨i, hi, rfl, htk, hE⟩ := hrel
      have HE := Lib.hid hE
      have HTK := Lib.hid htk
      clear hE htk
      by_cases hlt : i < n
      · have b1 : (i : Int) < (n : Int) := by omega
        have hl1 : i < l.length := by have := HNL.out; omega
        have hl2 : i < m.length := by have := HML.out; omega
        obtain ⟨x, hx⟩ : ∃ x, l[i]? = some x := ⟨_, List.getElem?_eq_getElem hl1⟩
        obtain ⟨y, hy⟩ : ∃ y, m[i]? = some y := ⟨_, List.getElem?_eq_getElem hl2⟩
        have hVn : RdS w (.slice a n c) l := by have := HV.out; rwa [← HNL.out] at this
        have hUn : RdS w (.slice a2 n c2) m := by have := HU.out; rwa [HML.out] at this
        have hq1 : ∃ ba oa, a = some ⟨ba, oa, none⟩ ∧ wr.cell? ⟨ba, oa + i, none⟩ = some (.string x) := by
          rcases HV.out with ⟨_, _, _, h0⟩ | ⟨bq, oq, cq, hh, _, _, hcell⟩
          · rw [h0] at hl1; cases hl1
          · exact ⟨bq, oq, (Value.slice.inj hh).1, cell_ext (hcell i x hx) HE.out⟩
        have hq2 : ∃ ba oa, a2 = some ⟨ba, oa, none⟩ ∧ wr.cell? ⟨ba, oa + i, none⟩ = some (.string y) := by
          rcases HU.out with ⟨_, _, _, h0⟩ | ⟨bq, oq, cq, hh, _, _, hcell⟩
          · rw [h0] at hl2; cases hl2
          · exact ⟨bq, oq, (Value.slice.inj hh).1, cell_ext (hcell i y hy) HE.out⟩
        obtain ⟨ba, oa, rfl, hq1⟩ := hq1
        obtain ⟨ba', oa', rfl, hq2⟩ := hq2
        have HX := Lib.hid hx
        have HY := Lib.hid hy
        have Q1 := Lib.hid hq1
        have Q2 := Lib.hid hq2
        clear hVn hUn hl1 hl2 hx hy hq1 hq2
        go_wp2_with fail
        refine wp_region_mixK [0,1,2,3,4,5,6,7,8] Ext ExtR ExtT (by kernel_rfl) (by kernel_rfl) (by kernel_rfl) ?_
        iterate 3 (refine mixk_pure _ rfl (by kernel_rfl) rfl rfl (fun K hK => ?_); go_big_quiet_op; refine hK _ ?_; clear hK K)
        refine mixk_load ⟨ba, oa + i, none⟩ _ rfl (by kernel_rfl) rfl rfl (fun w1 h1 => run_load_plain Tryz.underlying9 rfl (cell_ext Q1.out ((drewE wr).trans h1))) ?_
        simp only [Act.put, List.setIfInBounds_toArray, List.set_cons_zero, List.set_cons_succ]
        iterate 3 (refine mixk_pure _ rfl (by kernel_rfl) rfl rfl (fun K hK => ?_); go_big_quiet_op; refine hK _ ?_; clear hK K)
        refine mixk_load ⟨ba', oa' + i, none⟩ _ rfl (by kernel_rfl) rfl rfl (fun w1 h1 => run_load_plain Tryz.underlying9 rfl (cell_ext Q2.out ((drewE wr).trans h1))) ?_
        simp only [Act.put, List.setIfInBounds_toArray, List.set_cons_zero, List.set_cons_succ]
        iterate 1 (refine mixk_pure _ rfl (by kernel_rfl) rfl rfl (fun K hK => ?_); go_big_quiet_op; refine hK _ ?_; clear hK K)
        refine mixk_end (by kernel_rfl) (fun w3 he => ?_)
        have HE3 := Lib.hid (HE.out.trans ((drewE wr).trans he))
        clear he HE Q1 Q2
        by_cases hxy : x = y
        · subst hxy
          have hne : (!x.toList == x.toList) = false := by simp
          rw [hne]
          clear hne
          have HT := Lib.hid (show l.take (i + 1) = m.take (i + 1) by rw [List.take_add_one, List.take_add_one, HX.out, HY.out, HTK.out])
          go_wp2_with fail
          go_roundw
          case rel => exact ⟨i + 1, by omega, by go_num, HT.out, HE3.out⟩
          case measure => simp [intOf]; omega
        · have hne : (!x.toList == y.toList) = true := by
            have : ¬ x.toList = y.toList := fun e => hxy (toList_inj e)
            simpa using this
          rw [hne]
          clear hne
          have HN := Lib.hid (show decide (l = m) = false from decide_eq_false (fun e => by
            have h1 := HX.out; rw [e, HY.out] at h1; exact hxy (Option.some.inj h1).symm))
          go_wp2_with fail
          go_ret
          exact ⟨by rw [HN.out]; rfl, HE3.out⟩
      · have hie : i = n := by omega
        have HD := Lib.hid (show decide (l = m) = true from decide_eq_true (by
          have h1 := HTK.out
          rw [hie, List.take_of_length_le (by rw [← HNL.out]; exact Nat.le_refl _), List.take_of_length_le (by rw [HML.out]; exact Nat.le_refl _)] at h1
          exact h1))
        go_wp2_with fail
        go_ret
        exact ⟨by rw [HD.out]; rfl, HE.out⟩
  · have HL := Lib.hid (show decide (l = m) = false from decide_eq_false (fun e => hl (by rw [e])))
    have hb : ((l.length : Int) == (m.length : Int)) = false := by simp; omega
    have hb2 : ¬ (l.length : Int) = (m.length : Int) := by omega
    rw [HL.out]
    go_enter Tryz.func25, Tryz.ntmps25
    go_wp2_with fail
    go_ret
    exact ⟨rfl, ExtR w⟩
end
end Go.Proofs.YtjogjmffkmfmbaaGreatDoor
/- store: a map is added to one that is held. -/
namespace Go.Proofs.YtjogjmffkmfmbaaGreatDoor
section
open Go Go.RowKit
set_option linter.unusedSimpArgs false
set_option linter.unusedVariables false
structure MoreP (S : List Nd5) (l : List Pair) (s bm : Nat) (W w' : World) (e : Ending) (S' : List Nd5) : Prop where
  st : StoreAt w' s bm 2000 S'
  hasM : HasM S' l
  kp : Keeps (fun x => x = bm ∨ x ∈ S.map (·.2.1)) W w'
  res : ∃ r c, e = .returned (.tuple #[.string r, .int .i64 c])
theorem add_more {W w' : World} {z s bm : Nat} {l m : List Pair} {S : List Nd5} {U : List ByteArray} (h : Held1 z 2000 l s bm S W) (hU : InjL U) (hl : ∀ t ∈ textsL l, t ∈ U) (hm : checkN m = 0) (hmU : ∀ t ∈ textsL m, t ∈ U) {e : Ending} (hp : AddPost W s bm 2000 S (textsL m) (trieT m).text e w') :
    ∃ S', MoreP S l s bm W w' e S' := by
  obtain ⟨G, M, hG, hnew, hP, hcase⟩ := hp
  have h3 := textsL_len hm
  have hlen := h.len
  have hmem : (trieT m).text ∈ textsL m := List.mem_of_getElem? (texts hm).head
  obtain ⟨l1, l2⟩ := addS_len S G M (trieT m).text (textsL m) hG hP.inG
  rcases hcase with ⟨h1, _⟩ | ⟨_, he, hS, hK⟩
  · omega
  · have hS : StoreAt w' s bm 2000 (addS S G M (trieT m).text) := hS
    obtain ⟨hI, hk⟩ := add_inv hU (h.inv U hU hl) hmU hG hP (root_all W hm) hmem
    refine ⟨_, hS, ⟨h.hasM.ok, fun x hx => ?_⟩, hK, _, _, he⟩
    have hx' : x ∈ textsL l := (firsts_mem _ _).2 hx
    obtain ⟨y, y1, _, y3, _⟩ := hI.text hU (hl x hx') ((hk _).2 (.inl ((h.key _).2 ⟨x, hx', rfl⟩)))
    exact ⟨y, y1, y3⟩
end
end Go.Proofs.YtjogjmffkmfmbaaGreatDoor
/- rows of texts of one's own: Nodes, append, what they outlive (as in StoreQ, without the law 06's bodies). -/
namespace Go.Proofs.YtjogjmffkmfmbaaGreatDoor
section
open Go Go.RowKit
set_option linter.unusedSimpArgs false
set_option linter.unusedVariables false
attribute [local go_sem] Oper.semAt_some
/-- Nodes, of any entries: a row of one's own. -/
def NodesR (l : List Pair) (w : World) (e : Ending) (w' : World) : Prop := ∃ a n c k L, e = .returned (.tuple #[.slice a n c, .int .i64 k]) ∧ SRow w w' (.slice a n c) n L ∧ n = L.length ∧ n ≤ 121 ∧ k = checkN l ∧ (checkN l = 0 → L = textsL l)
theorem nodes_row (w : World) (hc : Cubes w) (v : Value) (l : List Pair) (hv : RdP w v l) (hn : l.length ≤ 9223372036854775807) (hs : SmallP l) :
    Calls Tryz.prog 33 #[v] w (NodesR l w) := by
  by_cases h : checkN l = 0
  · refine (nodes_ok w v l hc hv h).mono ?_
    rintro e w' ⟨u, n, rfl, hR⟩
    have hR : SRow w w' u n (textsL l) := hR
    have hln : (textsL l).length = n := by have := hR.len; simpa using this
    obtain ⟨a, c, rfl⟩ := hR.sl
    exact ⟨a, n, c, 0, _, rfl, hR, hln.symm, by rw [← hln]; exact textsL_len h, h.symm, fun _ => rfl⟩
  · refine (nodes_bad w v l hv hn hs h).mono ?_
    rintro e w' ⟨rfl, hE⟩
    exact ⟨none, 0, 0, checkN l, [], rfl, ORow.nil _ _ hE, rfl, by omega, rfl, fun h0 => absurd h0 h⟩
/-- append of a row of texts of one's own, though it be empty. -/
theorem wpList_appS {ops : Array Oper} {rest : List Oper} {d : Option Tmp} {ty : TypeId} {pos : String} {af : Array Edge} {a : Act} {w0 w1 w : World} {Q : Exit → Act → World → Prop} {s x : Operand} {v pv : Value} {n m N : Nat} {xs : List Value} {ys : List ByteArray}
    (hR : ORow 9 1 w0 w v n xs) (hP : SRow w1 w pv m ys) (hN : n + m = N) (hs : a.eval s = v) (hx : a.eval x = pv) (h63 : N ≤ 1000000)
    (h : ∀ v' w', ORow 9 1 w0 w' v' N (xs ++ ys.map Value.string) → wpList Tryz.prog ops Q rest (a.put d v') w') :
    wpList Tryz.prog ops Q (⟨d, .call { callee := .builtin .append, args := #[s, x], argTypes := #[22, 22] }, ty, pos, af, none⟩ :: rest) a w := by
  subst hN
  obtain ⟨h1, ⟨rfl, h3⟩ | ⟨g, cap, cur, rfl, h3, h4, h5, h6, h7⟩⟩ := hP.own
  · have hys : ys = [] := by
      have := hP.len
      rw [h3] at this
      exact List.eq_nil_of_length_eq_zero (by simpa using this)
    subst hys
    obtain ⟨ad, c, rfl⟩ := hR.sl
    have hle : n ≤ c := by
      obtain ⟨_, ⟨e, e2⟩ | ⟨g, cap, cur, e, _, _, k5, _⟩⟩ := hR.own
      · omega
      · obtain ⟨_, _, e⟩ := Value.slice.inj e; omega
    refine wpList_app0 Tryz.sStrs hs hx hle (h _ _ ?_)
    subst h3
    simpa using hR
  · exact wpList_app Tryz.sStrs hR s x rfl hs hx (fun j u hj => hP.own.cells (g := g) rfl j u hj) (fun u hu => by obtain ⟨y, _, rfl⟩ := List.mem_map.1 hu; rfl) (by have := hP.len; simpa using this) rfl (by unfold maxLen; omega) (by omega) (fun v' w' r1 _ _ => h v' w' r1)
end
end Go.Proofs.YtjogjmffkmfmbaaGreatDoor
/- reference 05: In. -/
namespace Go.Proofs.YtjogjmffkmfmbaaGreatDoor
section
open Go Go.RowKit
set_option linter.unusedSimpArgs false
set_option linter.unusedVariables false
/-! In: is a text one of some? -/
def inB (l : List ByteArray) (s : ByteArray) : Bool := memB l s
theorem inB_yes {l : List ByteArray} {s : ByteArray} (h : s ∈ l) : inB l s = true := (memB_iff l s).2 h
theorem inB_no {l : List ByteArray} {s : ByteArray} (h : s ∉ l) : inB l s = false := by
  rw [Bool.eq_false_iff]; exact fun e => h ((memB_iff l s).1 e)
def InRel (w : World) (l : List ByteArray) (s : ByteArray) (iv : Value) (wr : World) : Prop := ∃ i : Nat, i ≤ l.length ∧ iv = .int .i64 i ∧ Ext w wr ∧ s ∉ l.take i
set_option maxRecDepth 100000 in
set_option maxHeartbeats 4000000 in
theorem in_c (w : World) (v : Value) (l : List ByteArray) (s : ByteArray) (hv : RdS w v l) (hn : l.length ≤ 1000000) :
    Calls Tryz.prog 35 #[v, .string s] w fun e w' => e = .returned (.bool (inB l s)) ∧ Ext w w' := by
  obtain ⟨a, c, hsl, hcl⟩ := hv.slice
  have HV := Lib.hid hv
  subst hsl
  clear hv hcl
  obtain ⟨R, hR⟩ : ∃ R, R = inB l s := ⟨_, rfl⟩
  rw [← hR]
  have HR := Lib.hid hR
  clear hR
  go_enter Tryz.func35, Tryz.ntmps35
  go_wp2_with fail
  go_loopw [5] (fun iv wr => InRel w l s iv wr) (fun iv _ => l.length - (intOf iv).toNat)
  case atStart => exact ⟨0, by omega, rfl, ExtR w, by simp⟩
  case round =>
    obtain ⟨i, hi, rfl, hE, hno⟩ := hrel
    have HE := Lib.hid hE
    have HNO := Lib.hid hno
    clear hE hno
    by_cases hlt : i < l.length
    · have b1 : (i : Int) < (l.length : Int) := by omega
      obtain ⟨x, hx⟩ : ∃ x, l[i]? = some x := ⟨_, List.getElem?_eq_getElem hlt⟩
      rcases HV.out with ⟨_, _, _, h0⟩ | ⟨b, o, c1, hh, hb, hc, hcell⟩
      · rw [h0] at hlt; cases hlt
      cases hh
      have q1 := cell_ext (hcell i x hx) HE.out
      have HX := Lib.hid hx
      clear hcell hb hc hx
      have hkb := nbeq_sha x s
      by_cases hxs : x = s
      · rw [decide_eq_true hxs] at hkb
        have HF := Lib.hid (show R = true by rw [HR.out]; exact inB_yes (by rw [← hxs]; exact List.mem_of_getElem? HX.out))
        clear hxs
        go_wp2_with fail
        go_ret
        exact ⟨by rw [HF.out]; rfl, HE.out⟩
      · rw [decide_eq_false hxs] at hkb
        have HG := Lib.hid (show s ∉ l.take (i + 1) by
          rw [List.take_add_one, HX.out]
          intro hm
          rcases List.mem_append.1 hm with hm | hm
          · exact HNO.out hm
          · simp at hm; exact hxs hm.symm)
        clear hxs
        go_wp2_with fail
        go_roundw
        case rel => exact ⟨i + 1, by omega, by go_num, HE.out, HG.out⟩
        case measure => simp [intOf]; omega
    · have b1 : ¬ (i : Int) < (l.length : Int) := by omega
      have HF := Lib.hid (show R = false by rw [HR.out]; refine inB_no ?_; have := HNO.out; rwa [List.take_of_length_le (by omega)] at this)
      go_wp2_with fail
      go_ret
      exact ⟨by rw [HF.out]; rfl, HE.out⟩
theorem Tryz.enterIn : ∀ args w, (callFunc 35 args).run Tryz.prog w = .ok (.enter 35 args) w := fun _ _ => by kernel_rfl
end
end Go.Proofs.YtjogjmffkmfmbaaGreatDoor
