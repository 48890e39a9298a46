/- Parts of the proof, one behind the other: PrfN, PrfO, ShortP. Each is under no condition but those that it states. -/
import Derived.Test.YtjogjmffkmfmbaaGreatDoorPa39
import Derived.Test.YtjogjmffkmfmbaaGreatDoorPa41
import Derived.Test.YtjogjmffkmfmbaaGreatDoorPa42
import Derived.Test.YtjogjmffkmfmbaaGreatDoorPa43
import Derived.WalkKit
import Derived.ProofKit
import Derived.OpenShut
import Derived.Lib.SmallJoins
import Derived.Deep.DeepHandedRow
import Derived.Lay
import Derived.Carry
import Derived.ChangeMaps5
/- law 11: ProofOne. -/
namespace Go.Proofs.YtjogjmffkmfmbaaGreatDoor
section
open Go Go.RowKit
set_option linter.unusedSimpArgs false
set_option linter.unusedVariables false
attribute [local go_sem] Oper.semAt_some
def OneRel (w5 : World) (N nodes : List ByteArray) (v : Value) (wr : World) : Prop := ∃ i : Nat, i ≤ N.length ∧ v = .int .i64 i ∧ Ext w5 wr ∧ ∀ (j : Nat) t x, j < i → nodes[j]? = some t → N[j]? = some x → collB x t = false
theorem Tryz.enterCollide : ∀ args w, (callFunc 31 args).run Tryz.prog w = .ok (.enter 31 args) w := fun _ _ => by kernel_rfl
theorem one_all (w : World) {l : List Pair} (h : checkN l = 0) {key : ByteArray} {ts : List ByteArray} (hok : (proveR (shaB (trieT l).text) key ts).2 = true) (hne : wayN l key ≠ ts)
    {i : Nat} (hi : ¬ (i < (wayN l key).length ∧ i < ts.length)) (hall : ∀ (j : Nat) t x, j < i → ts[j]? = some t → (wayN l key)[j]? = some x → collB x t = false) : False := by
  refine hne (prove_only w h hok fun j t x ht hx hs => ?_).symm
  have hjt := (List.getElem?_eq_some_iff.1 ht).1
  have hjx := (List.getElem?_eq_some_iff.1 hx).1
  have := hall j t x (by omega) ht hx
  unfold collB at this
  rw [hs, decide_eq_true rfl, Bool.and_true] at this
  have := of_decide_eq_false this
  exact (Decidable.not_not.1 this).symm
set_option maxRecDepth 100000 in
set_option maxHeartbeats 16000000 in
theorem one11_c (w : World) (hc : Cubes w) (hG : ErrT w) (v u : Value) (l : List Pair) (key : ByteArray) (nodes : List ByteArray) (hv : RdP w v l) (hn : l.length ≤ 9223372036854775807) (hs : SmallP l) (hu : RdS w u nodes) (hn2 : nodes.length ≤ 9223372036854775807) (hs2 : ∀ t ∈ nodes, t.size ≤ 9223372036854775807) :
    Calls Tryz.prog 6 #[v, .string key, u] w fun e w' => e = .returned (.bool true) ∧ Ext w w' := by
  have HC := Lib.hid hc
  have HG := Lib.hid hG
  have HV := Lib.hid hv
  have HU := Lib.hid hu
  have HN := Lib.hid (And.intro hn (And.intro hs (And.intro hn2 hs2)))
  obtain ⟨va, vc, hsl⟩ := hv.sl
  subst hsl
  obtain ⟨ua, uc, hsl⟩ := rds_sl hu
  subst hsl
  clear hc hG hv hu hn hs hn2 hs2
  go_enter Tryz.func6, Tryz.ntmps6
  go_wp2_with fail
  refine (works11_c w HC.out).mono ?_
  rintro e w1 ⟨rfl, hE⟩
  have HE1 := Lib.hid hE
  clear hE
  go_wp2_with fail
  refine (hold08x_c w1 (HC.out.ext HE1.out) _ l (HV.out.ext HE1.out) HN.out.1 HN.out.2.1).mono ?_
  rintro e w2 (⟨rfl, hE, _⟩ | ⟨s, bm, S, rfl, hE, hH, _, _⟩)
  · have HE2 := Lib.hid (HE1.out.trans hE)
    clear hE HE1
    go_wp2_with fail
    refine (few11_c w2 _ nodes (HU.out.ext HE2.out) HN.out.2.2.1 HN.out.2.2.2).mono ?_
    rintro e w3 ⟨rfl, hE⟩
    have HE3 := Lib.hid (HE2.out.trans hE)
    clear hE HE2
    go_wp2_with fail
    go_ret
    exact ⟨rfl, HE3.out⟩
  have HE2 := Lib.hid (HE1.out.trans hE)
  have HS2 := Lib.hid hH.st
  have HM := Lib.hid hH.hasM
  obtain ⟨rt, hrt⟩ : ∃ rt, rt = shaB (trieT l).text := ⟨_, rfl⟩
  have HRT := Lib.hid hrt
  rw [← hrt]
  clear hE hH HE1 hrt
  go_wp2_with fail
  refine (few11_c w2 _ nodes (HU.out.ext HE2.out) HN.out.2.2.1 HN.out.2.2.2).mono ?_
  rintro e w3 ⟨rfl, hE⟩
  have HE3 := Lib.hid (HE2.out.trans hE)
  have HS3 := Lib.hid (HS2.out.ext hE)
  clear hE HE2 HS2
  obtain ⟨fn, hfn⟩ : ∃ fn, fn = few11B nodes := ⟨_, rfl⟩
  rw [← hfn]
  have HFN := Lib.hid hfn
  clear hfn
  cases fn with
  | false =>
    go_wp2_with fail
    go_ret
    exact ⟨rfl, HE3.out⟩
  | true =>
    by_cases h50 : 50 < key.size
    · have c1 : (50 : Int) < (key.size : Int) := by omega
      clear h50
      go_wp2_with fail
      go_ret
      exact ⟨rfl, HE3.out⟩
    have c1 : ¬ (50 : Int) < (key.size : Int) := by omega
    have HK := Lib.hid (show key.size ≤ 1000 by omega)
    clear h50
    go_wp2_with fail
    have hbd := build11_c w3 s bm 2000 S HS3.out l HM.out key HK.out
    rw [← HRT.out] at hbd
    refine hbd.mono ?_
    rintro e w4 ⟨pa, pc, rfl, hP⟩
    obtain ⟨N, hN⟩ : ∃ N, N = wayN l key := ⟨_, rfl⟩
    rw [← hN] at hP ⊢
    have HNN := Lib.hid hN
    have HP4 := Lib.hid hP.rd
    have HE4 := Lib.hid (HE3.out.trans hP.ext)
    clear hbd hP HE3 HS3 hN
    go_wp2_with fail
    have hvf := verify_c w4 (HC.out.ext HE4.out) rt key HK.out _ nodes (HU.out.ext HE4.out) (few11_get (HG.out.ext HE4.out) HFN.out.symm)
    obtain ⟨⟨o, b⟩, hpr⟩ : ∃ g, g = proveR rt key nodes := ⟨_, rfl⟩
    rw [← hpr] at hvf
    have HPR := Lib.hid hpr
    refine hvf.mono ?_
    rintro e w5 ⟨rfl, hE⟩
    have HE5 := Lib.hid (HE4.out.trans hE)
    have HP5 := Lib.hid (HP4.out.ext hE)
    clear hvf hE HE4 HP4 hpr
    unfold verV
    have hNl : N.length ≤ 13 := by rw [HNN.out]; exact (wayN_len l key).2
    have hnl : nodes.length ≤ 45 := (few11_all HFN.out.symm).2
    cases b with
    | false =>
      unfold clmV
      go_wp2_with (first | (refine wpList_new Tryz.allocClaim rfl rfl ?_; intro W6 hB6 hE6) | (refine wpList_fill (old := clmL none) (vs := clmL none) rfl rfl rfl rfl hB6 rfl (by rw [clm_len]; exact Tryz.szClaim) (clm_one _) ?_; intro W7 hB7 hE7))
      have HE7 := Lib.hid (HE5.out.trans (hE6.trans' hE7 (fun x hx e => by have e : x = w5.heap.size := e; omega)))
      clear hB6 hE6 hB7 hE7 HE5
      go_ret
      exact ⟨rfl, HE7.out⟩
    | true =>
      unfold clmV
      go_wp2_with (first | (refine wpList_new Tryz.allocClaim rfl rfl ?_; intro W6 hB6 hE6) | (refine wpList_fill (old := clmL none) (vs := clmL o) rfl rfl rfl rfl hB6 ((clm_len none).trans (clm_len o).symm) (by rw [clm_len]; exact Tryz.szClaim) (clm_one _) ?_; intro W7 hB7 hE7))
      have hX7 : Ext w5 W7 := hE6.trans' hE7 (fun x hx e => by have e : x = w5.heap.size := e; omega)
      have HE7 := Lib.hid (HE5.out.trans hX7)
      have HP7 := Lib.hid (HP5.out.ext hX7)
      clear hB6 hE6 hB7 hE7 HE5 hX7 HP5
      refine (same2_c W7 _ _ N nodes HP7.out (HU.out.ext HE7.out) (by omega) (by omega)).mono ?_
      rintro e w8 ⟨rfl, hE⟩
      have HE8 := Lib.hid (HE7.out.trans hE)
      have HP8 := Lib.hid (HP7.out.ext hE)
      clear hE HE7 HP7
      by_cases hsm : N = nodes
      · have hd : decide (N = nodes) = true := decide_eq_true hsm
        rw [hd]
        clear hd hsm
        go_wp2_with fail
        go_ret
        exact ⟨rfl, HE8.out⟩
      have hd : decide (N = nodes) = false := decide_eq_false hsm
      rw [hd]
      have HNE := Lib.hid hsm
      clear hd hsm
      go_wp2_with fail
      go_loopw [15] (fun i wr => OneRel w8 N nodes i wr) (fun i _ => N.length - (intOf i).toNat)
      case atStart => exact ⟨0, by omega, rfl, ExtR w8, fun j t x hj => by omega⟩
      case round =>
        obtain ⟨i, hi, rfl, hE, hall⟩ := hrel
        have HE := Lib.hid hE
        have HALL := Lib.hid hall
        clear hE hall
        have HEND := Lib.hid (fun (hx : ¬ (i < N.length ∧ i < nodes.length)) => one_all w (l := l) (key := key) (ts := nodes) HM.out.ok (by rw [← HRT.out, ← HPR.out]) (by rw [← HNN.out]; exact HNE.out) (i := i) (by rw [← HNN.out]; exact hx) (by rw [← HNN.out]; exact HALL.out))
        by_cases hlt : i < N.length
        · by_cases hlt2 : i < nodes.length
          · obtain ⟨x, hx⟩ : ∃ x, N[i]? = some x := ⟨_, List.getElem?_eq_getElem hlt⟩
            obtain ⟨t, ht⟩ : ∃ t, nodes[i]? = some t := ⟨_, List.getElem?_eq_getElem hlt2⟩
            obtain ⟨a7, c7, hh, hcx⟩ := HP8.out.slice
            obtain ⟨bx, ox, hax, hcx0⟩ := hcx i x hx
            obtain ⟨e1, _, e3⟩ := Value.slice.inj hh
            rw [hax] at e1
            subst e1
            subst e3
            have QX := Lib.hid (cell_ext hcx0 HE.out)
            clear hh hcx hcx0 hax
            obtain ⟨a7, c7, hh, hcx⟩ := (HU.out.ext (HE8.out.trans HE.out)).slice
            obtain ⟨by', oy, hax, hcx0⟩ := hcx i t ht
            obtain ⟨e1, _, e3⟩ := Value.slice.inj hh
            rw [hax] at e1
            subst e1
            subst e3
            have QY := Lib.hid hcx0
            have HX := Lib.hid hx
            have HT := Lib.hid ht
            clear hh hcx hcx0 hax hx ht
            have b1 : (i : Int) < (N.length : Int) := by omega
            have b2 : (i : Int) < (nodes.length : Int) := by omega
            obtain ⟨cb, hcb⟩ : ∃ cb, cb = collB x t := ⟨_, rfl⟩
            have hcol := fun w9 (h9 : Ext wr w9) => collide_t w9 x t (HC.out.ext ((HE8.out.trans HE.out).trans h9))
            rw [show (decide (x ≠ t) && decide (shaB x = shaB t)) = cb from hcb.symm] at hcol
            have HCB := Lib.hid hcb
            have HCOL := Lib.hid hcol
            clear hcb hcol
            go_wp2_with fail
            refine wp_region_mixK [0,1,2,3,4,5,6,7,8] Ext ExtR ExtT (by kernel_rfl) (by kernel_rfl) (by kernel_rfl) ?_
            iterate 3 (refine mixk_pure _ rfl (by kernel_rfl) rfl rfl (fun K hK => ?_); go_big_quiet_op; refine hK _ ?_; clear hK K)
            refine mixk_load ⟨bx, ox + i, none⟩ (.string x) rfl (by kernel_rfl) rfl rfl (fun w2 h2 => run_load_plain Tryz.uStr rfl (cell_ext (by exact QX.out) ((drewE wr).trans h2))) ?_
            simp only [Act.put, List.setIfInBounds_toArray, List.set_cons_zero, List.set_cons_succ]
            iterate 3 (refine mixk_pure _ rfl (by kernel_rfl) rfl rfl (fun K hK => ?_); go_big_quiet_op; refine hK _ ?_; clear hK K)
            refine mixk_load ⟨by', oy + i, none⟩ (.string t) rfl (by kernel_rfl) rfl rfl (fun w2 h2 => run_load_plain Tryz.uStr rfl (cell_ext (by exact QY.out) ((drewE wr).trans h2))) ?_
            simp only [Act.put, List.setIfInBounds_toArray, List.set_cons_zero, List.set_cons_succ]
            refine mixk_call _ 31 #[.string x, .string t] (.bool cb) rfl (by kernel_rfl) rfl (fun w1 => exec_call Tryz.enterCollide (by kernel_rfl)) (fun w1 h1 => HCOL.out w1 ((drewE wr).trans h1)) ?_
            simp only [Act.put, List.setIfInBounds_toArray, List.set_cons_zero, List.set_cons_succ]
            refine mixk_end (by kernel_rfl) (fun w9 he => ?_)
            have HE9 := Lib.hid (HE.out.trans ((drewE wr).trans he))
            clear he QX QY
            cases cb with
            | true =>
              go_wp2_with fail
              go_ret
              exact ⟨rfl, HE8.out.trans HE9.out⟩
            | false =>
              have HST := Lib.hid (show ∀ (j : Nat) t x, j < i + 1 → nodes[j]? = some t → N[j]? = some x → collB x t = false from fun j t' x' hj ht' hx' => by
                by_cases hji : j < i
                · exact HALL.out j t' x' hji ht' hx'
                · have : j = i := by omega
                  subst this
                  obtain rfl := Option.some.inj (HT.out.symm.trans ht')
                  obtain rfl := Option.some.inj (HX.out.symm.trans hx')
                  exact HCB.out.symm)
              go_wp2_with fail
              go_roundw
              case rel => exact ⟨i + 1, by omega, by go_num, HE9.out, HST.out⟩
              case measure => simp [intOf]; omega
          · exact (HEND.out (fun h => hlt2 h.2)).elim
        · exact (HEND.out (fun h => hlt h.1)).elim
end
end Go.Proofs.YtjogjmffkmfmbaaGreatDoor
/- law 11: ProofShort. -/
namespace Go.Proofs.YtjogjmffkmfmbaaGreatDoor
section
open Go Go.RowKit
set_option linter.unusedSimpArgs false
set_option linter.unusedVariables false
attribute [local go_sem] Oper.semAt_some
theorem st_lts {W : World} {s bm : Nat} {room : Int} {S : List Nd5} (h : StoreAt W s bm room S) : ∀ b, (b = bm ∨ b ∈ S.map (·.2.1)) → b < W.heap.size := fun b hb => by
  rcases hb with rfl | hb
  · obtain ⟨es, ck, h1, _⟩ := h.mp.mp
    exact h1.lt
  · obtain ⟨y, hy, rfl⟩ := List.mem_map.1 hb
    obtain ⟨rv, h1, _⟩ := (h.mp.items y hy).cells
    exact h1.lt
theorem SRow.overS {F : BSet} {w0 w w' : World} {v : Value} {n : Nat} {xs : List ByteArray} (h : SRow w0 w v n xs) (k : Keeps F w w') (hF : ∀ b, F b → b < w0.heap.size) : RdS w' v xs :=
  own_rd (own_keeps h.own k fun b hb hf => by have := h.new b hb; have := hF b hf; omega)
theorem way_distinct (w : World) {l : List Pair} (h : checkN l = 0) (key : ByteArray) (hi : InjL (textsL l)) : (wayN l key).Nodup := by
  have hr := rows_ok (check_ok h)
  have hp := path_nib key
  have hF : ∀ x ∈ flatT (buildT (12 + 1) (rowsL l)), 32 ≤ x.size → x ∈ textsL l := fun x hx _ => (firsts_mem _ _).2 hx
  unfold wayN
  rw [List.nodup_cons]
  exact ⟨way_new w (U := textsL l) hi hr hp hF, way_nodup w (U := textsL l) hi 12 _ _ hr hp hF⟩
theorem nodup_takeB {N : List ByteArray} (h : N.Nodup) {i : Nat} {x : ByteArray} (hx : N[i]? = some x) : x ∉ N.take i := fun hm => by
  obtain ⟨j, hj⟩ := List.getElem?_of_mem hm
  have hjl := (List.getElem?_eq_some_iff.1 hj).1
  rw [List.length_take] at hjl
  rw [List.getElem?_take_of_lt (by omega)] at hj
  have := (List.getElem?_inj (by omega) h).1 (hj.trans hx.symm)
  omega
def ShRel11 (w5 : World) (N : List ByteArray) (v : Value) (wr : World) : Prop := ∃ i : Nat, i ≤ N.length ∧ v = .int .i64 i ∧ Ext w5 wr
set_option maxRecDepth 100000 in
set_option maxHeartbeats 16000000 in
theorem short_c (w : World) (hc : Cubes w) (v u : Value) (l m : List Pair) (key : ByteArray) (hv : RdP w v l) (hn : l.length ≤ 9223372036854775807) (hs : SmallP l) (hu : RdP w u m) (hn2 : m.length ≤ 9223372036854775807) (hs2 : SmallP m) :
    Calls Tryz.prog 8 #[v, u, .string key] w fun e w' => e = .returned (.bool true) ∧ Ext w w' := by
  have HC := Lib.hid hc
  have HV := Lib.hid hv
  have HU := Lib.hid hu
  have HN := Lib.hid (And.intro hn (And.intro hs (And.intro hn2 hs2)))
  obtain ⟨va, vc, hsl⟩ := hv.sl
  subst hsl
  obtain ⟨ua, uc, hsl⟩ := hu.sl
  subst hsl
  clear hc hv hu hn hs hn2 hs2
  go_enter Tryz.func8, Tryz.ntmps8
  go_wp2_with fail
  refine (works11_c w HC.out).mono ?_
  rintro e w1 ⟨rfl, hE⟩
  have HE1 := Lib.hid hE
  clear hE
  go_wp2_with fail
  have hh : Calls Tryz.prog 20 #[.slice va l.length vc] w1 fun e w' => ∃ (ps : Option Addr) (rt : ByteArray), e = .returned (.tuple #[.pointer ps, .string rt]) ∧ Ext w1 w' ∧ (ps = none ∨ ∃ s bm S, ps = some ⟨s, 0, none⟩ ∧ rt = shaB (trieT l).text ∧ Held1 w1.heap.size 2000 l s bm S w' ∧ InjL (textsL l)) := by
    refine (hold08x_c w1 (HC.out.ext HE1.out) _ l (HV.out.ext HE1.out) HN.out.1 HN.out.2.1).mono ?_
    rintro e w2 (⟨rfl, hE, _⟩ | ⟨s, bm, S, rfl, hE, hH, _, hi⟩)
    · exact ⟨none, _, rfl, hE, .inl rfl⟩
    · exact ⟨_, _, rfl, hE, .inr ⟨s, bm, S, rfl, rfl, hH, hi⟩⟩
  refine hh.mono ?_
  rintro e w2 ⟨ps, rt, rfl, hE, hcase⟩
  have HE2 := Lib.hid (HE1.out.trans hE)
  have HCS := Lib.hid hcase
  clear hh hE hcase
  go_wp2_with fail
  refine (few5_c w2 _ m (HU.out.ext HE2.out) HN.out.2.2.1 HN.out.2.2.2).mono ?_
  rintro e w3 ⟨rfl, hE⟩
  have HX3 := Lib.hid hE
  have HE3 := Lib.hid (HE2.out.trans hE)
  clear hE
  obtain ⟨fm, hfm⟩ : ∃ fm, fm = fewB m := ⟨_, rfl⟩
  rw [← hfm]
  clear hfm
  go_wp2_with fail
  refine (nodes_row w3 (HC.out.ext HE3.out) _ l (HV.out.ext HE3.out) HN.out.1 HN.out.2.1).mono ?_
  rintro e w4 ⟨xa, xn, xc, k1, X, rfl, hX, hxn, hx121, hk1, hxl⟩
  have HX4 := Lib.hid hX
  have HE4 := Lib.hid (HE3.out.trans hX.ext)
  have HXI := Lib.hid (And.intro hxn (And.intro hk1 hxl))
  clear hX hxn hk1 hxl
  go_wp2_with fail
  refine (nodes_row w4 (HC.out.ext HE4.out) _ m (HU.out.ext HE4.out) HN.out.2.2.1 HN.out.2.2.2).mono ?_
  rintro e w5 ⟨ya, yn, yc, k2, Y, rfl, hY, hyn, hy121, hk2, hyl⟩
  have HE5 := Lib.hid (HE4.out.trans hY.ext)
  have HX5 := Lib.hid (HX4.out.mono hY.ext)
  have HY5 := Lib.hid hY
  have HYI := Lib.hid (And.intro hyn (And.intro hk2 hyl))
  have HZ := Lib.hid (And.intro HX4.out.ext.size hY.ext.size)
  clear hY HX4 hyn hk2 hyl
  obtain ⟨NN, hNN⟩ : ∃ NN, xn + yn = NN := ⟨_, rfl⟩
  have hN63 : NN ≤ 1000000 := by omega
  have HNE := Lib.hid hNN
  have HW0 := Lib.hid (show ORow 9 1 w5 (w5.alloc (.cells #[] 9)) (.slice (some ⟨w5.heap.size, 0, none⟩) 0 0) 0 [] from ORow.lit #[] (ExtR w5) (by decide) rfl)
  have HX0 := Lib.hid (HX5.out.mono ((ExtR w5).alloc (.cells #[] 9)))
  have hx63 : xn ≤ 1000000 := by omega
  clear hNN
  go_wp2_with (first | (at_builtin; (refine wpList_appS HW0.out HX0.out (Nat.zero_add xn) rfl rfl hx63 ?_; intro v6 w6 r1; have HR1 := Lib.hid r1; have HY6 := Lib.hid (HY5.out.mono r1.ext); clear r1)) | (at_builtin; (refine wpList_appS HR1.out HY6.out HNE.out rfl rfl hN63 ?_; intro v7 w7 r2; have HR2 := Lib.hid r2; obtain ⟨aa, ac, hv7⟩ := r2.sl; subst hv7; clear r2)))
  have HA7 := Lib.hid (show SRow w5 w7 (.slice aa NN ac) NN (X ++ Y) from by have h := HR2.out; rw [List.nil_append, ← List.map_append] at h; exact h)
  have HX7 := Lib.hid (HX5.out.mono HA7.out.ext)
  have HY7 := Lib.hid (HY5.out.mono HA7.out.ext)
  have HE7 := Lib.hid (HE5.out.trans HA7.out.ext)
  have HXYL := Lib.hid (show (X ++ Y).length = NN from by have := HA7.out.len; simpa using this)
  clear HR1 HR2 HY6 HW0 HX0 HX5 HY5
  refine (apart_c w7 (HC.out.ext HE7.out) _ (X ++ Y) (SRow.rd HA7.out) (by rw [HXYL.out]; exact hN63)).mono ?_
  rintro e w8 ⟨b, rfl, hb, hE⟩
  have HE8 := Lib.hid (HE7.out.trans hE)
  have HX8 := Lib.hid (HX7.out.mono hE)
  have HY8 := Lib.hid (HY7.out.mono hE)
  have HX28 := Lib.hid (((((HX3.out.trans HX7.out.ext)).trans hE)))
  have HBI := Lib.hid hb
  clear hE hb HX7 HY7 HA7 HE7 HE5 HE4 HE3
  rcases HCS.out with rfl | ⟨s, bm, S, rfl, hrt, hH, hinj⟩
  · go_wp2_with fail
    go_ret
    exact ⟨rfl, HE8.out⟩
  have HRT := Lib.hid hrt
  have HH := Lib.hid hH
  have HIN := Lib.hid hinj
  have HOK := Lib.hid (show checkN l = 0 from hH.hasM.ok)
  clear hrt hH hinj
  cases fm with
  | false =>
    go_wp2_with fail
    go_ret
    exact ⟨rfl, HE8.out⟩
  | true =>
  have hk1 : k1 = 0 := HXI.out.2.1.trans HOK.out
  subst hk1
  by_cases h2 : k2 = 0
  case neg =>
    have hne2 : (k2 != 0) = true := by simpa using h2
    go_wp2_with fail
    go_ret
    exact ⟨rfl, HE8.out⟩
  subst h2
  have HOK2 := Lib.hid (show checkN m = 0 from HYI.out.2.1.symm)
  cases b with
  | false =>
    go_wp2_with fail
    go_ret
    exact ⟨rfl, HE8.out⟩
  | true =>
  by_cases h50 : 50 < key.size
  · have c1 : (50 : Int) < (key.size : Int) := by omega
    clear h50
    go_wp2_with fail
    go_ret
    exact ⟨rfl, HE8.out⟩
  have c1 : ¬ (50 : Int) < (key.size : Int) := by omega
  have HK := Lib.hid (show key.size ≤ 1000 by omega)
  have HXL := Lib.hid (HXI.out.2.2 HOK.out)
  have HYL := Lib.hid (HYI.out.2.2 HOK2.out)
  have HUI := Lib.hid (HBI.out.1 rfl)
  clear h50
  go_wp2_with fail
  have hS8 := HH.out.st.ext HX28.out
  have hbd := build11_c w8 s bm 2000 S hS8 l HH.out.hasM key HK.out
  rw [← HRT.out] at hbd
  refine hbd.mono ?_
  rintro e w9 ⟨pa, pc, rfl, hP⟩
  obtain ⟨N, hN⟩ : ∃ N, N = wayN l key := ⟨_, rfl⟩
  rw [← hN] at hP ⊢
  have HNN := Lib.hid hN
  have hln := wayN_len l key
  rw [← hN] at hln
  have HLN := Lib.hid hln
  have HP9 := Lib.hid hP
  have HE9 := Lib.hid (HE8.out.trans hP.ext)
  have HX29 := Lib.hid (HX28.out.trans hP.ext)
  have HX9 := Lib.hid (HX8.out.mono hP.ext)
  have HY9 := Lib.hid (HY8.out.mono hP.ext)
  have HB2 := Lib.hid (show bm < w2.heap.size ∧ ∀ b, (b = bm ∨ b ∈ S.map (·.2.1)) → b < w2.heap.size from ⟨st_lts HH.out.st _ (.inl rfl), st_lts HH.out.st⟩)
  have HSZ := Lib.hid (show w2.heap.size ≤ w3.heap.size ∧ w3.heap.size ≤ w4.heap.size ∧ w2.heap.size ≤ w8.heap.size from ⟨HX3.out.size, HZ.out.1, HX28.out.size⟩)
  clear hbd hP hS8 hN hln HX8 HY8 HX28 HE8
  go_wp2_with fail
  refine (add_c w9 (HC.out.ext HE9.out) s bm 2000 S (HH.out.st.ext HX29.out) _ Y (SRow.rd HY9.out) (by rw [HYL.out]; exact texts_shut w HOK2.out (Nat.le_trans (textsL_len HOK2.out) (by decide))) (trieT m).text (by rw [HYL.out]; exact (texts HOK2.out).head) (by decide) (by decide) (by have := HH.out.len; omega) (fun x hx => by have := HH.out.bd x hx; omega) (fun x hx => by have := HH.out.bd x hx; omega)).mono ?_
  rintro e w10 hAP
  rw [HYL.out] at hAP
  have hH9 : Held1 w1.heap.size 2000 l s bm S w9 := ⟨HH.out.st.ext HX29.out, HH.out.hasM, HH.out.key, HH.out.bnew, HH.out.snew, HH.out.new, HH.out.bd, HH.out.len, HH.out.inv⟩
  obtain ⟨S', hM'⟩ := add_more hH9 HUI.out (fun t ht => List.mem_append_left _ (by rw [HXL.out]; exact ht)) HOK2.out (fun t ht => List.mem_append_right _ (by rw [HYL.out]; exact ht)) hAP
  obtain ⟨ar, ac2, rfl⟩ := hM'.res
  have HM' := Lib.hid hM'
  have HE10 := Lib.hid (HE9.out.trans' hM'.kp (fun x hx hf => by
    rcases hf with rfl | hf
    · have := HH.out.bnew; have := HE1.out.size; omega
    · obtain ⟨y, hy, rfl⟩ := List.mem_map.1 hf
      have := HH.out.new y hy; have := HE1.out.size; omega))
  have HP10 := Lib.hid (SRow.overS HP9.out hM'.kp (fun b hf => by have := HB2.out.2 b hf; have := HSZ.out; omega))
  have HX10 := Lib.hid (SRow.overS HX9.out hM'.kp (fun b hf => by have := HB2.out.2 b hf; have := HSZ.out; omega))
  clear hAP hH9 hM' HP9 HX9 HY9 HE9
  go_wp2_with fail
  have hbd := build11_c w10 s bm 2000 S' HM'.out.st l HM'.out.hasM key HK.out
  rw [← HRT.out, ← HNN.out] at hbd
  refine hbd.mono ?_
  rintro e w11 ⟨qa, qc, rfl, hQ⟩
  have HE11 := Lib.hid (HE10.out.trans hQ.ext)
  have HP11 := Lib.hid (HP10.out.ext hQ.ext)
  have HX11 := Lib.hid (HX10.out.ext hQ.ext)
  have HQ11 := Lib.hid hQ.rd
  clear hbd hQ HP10 HX10 HE10
  have HXN := Lib.hid (show X.length = xn from HXI.out.1.symm)
  have HX11 := Lib.hid (show RdS w11 (.slice xa xn xc) X from HX11.out)
  go_wp2_with fail
  go_loopw [20] (fun i wr => ShRel11 w11 N i wr) (fun i _ => N.length - (intOf i).toNat)
  case atStart => exact ⟨0, by omega, rfl, ExtR w11⟩
  case round =>
    obtain ⟨i, hi, rfl, hE⟩ := hrel
    have HE := Lib.hid hE
    have hi13 : i ≤ 13 := by have := HLN.out; omega
    clear hE
    by_cases hlt : i < N.length
    · obtain ⟨x, hx⟩ : ∃ x, N[i]? = some x := ⟨_, List.getElem?_eq_getElem hlt⟩
      obtain ⟨a7, c7, hhh, hcx⟩ := HP11.out.slice
      obtain ⟨bx, ox, hax, hcx0⟩ := hcx i x hx
      obtain ⟨e1, _, e3⟩ := Value.slice.inj hhh
      rw [hax] at e1
      subst e1
      subst e3
      have QX := Lib.hid (cell_ext hcx0 HE.out)
      have hcap := HP11.out.cap
      have HXX := Lib.hid hx
      have HI1 := Lib.hid (fun w9 (h9 : Ext wr w9) => in_c w9 (.slice xa xn xc) X x (HX11.out.ext (HE.out.trans h9)) (by rw [HXN.out]; omega))
      have HI2 := Lib.hid (fun w9 (h9 : Ext wr w9) => in_c w9 (.slice (some ⟨bx, ox, none⟩) i pc) (N.take i) x ((RdS.take HP11.out hi).ext (HE.out.trans h9)) (by have := HLN.out; rw [List.length_take]; omega))
      rw [inB_yes (show x ∈ X by rw [HXL.out]; exact way_in w HOK.out (by rw [← HNN.out]; exact List.mem_of_getElem? hx))] at HI1
      rw [inB_no (nodup_takeB (by rw [HNN.out]; exact way_distinct w HOK.out key HIN.out) hx)] at HI2
      clear hhh hcx hcx0 hax hx
      have b1 : (i : Int) < (N.length : Int) := by omega
      have b2 : (i : Int) ≤ (pc : Int) := by omega
      go_wp2_with fail
      refine wp_region_mixK [0,1,2,3,4,5,6,7,8,9,10,11,12,13,14,15,16] Ext ExtR ExtT (by kernel_rfl) (by kernel_rfl) (by kernel_rfl) ?_
      iterate 4 (refine mixk_pure _ rfl (by kernel_rfl) rfl rfl (fun K hK => ?_); go_big_quiet_op; refine hK _ ?_; clear hK K)
      refine mixk_load ⟨bx, ox + i, none⟩ (.string x) rfl (by kernel_rfl) rfl rfl (fun w2 h2 => run_load_plain Tryz.uStr rfl (cell_ext (by exact QX.out) ((drewE wr).trans h2))) ?_
      simp only [Act.put, List.setIfInBounds_toArray, List.set_cons_zero, List.set_cons_succ]
      refine mixk_call _ 35 #[.slice xa xn xc, .string x] (.bool true) rfl (by kernel_rfl) rfl (fun w1 => exec_call Tryz.enterIn (by kernel_rfl)) (fun w1 h1 => HI1.out w1 ((drewE wr).trans h1)) ?_
      simp only [Act.put, List.setIfInBounds_toArray, List.set_cons_zero, List.set_cons_succ]
      iterate 8 (refine mixk_pure _ rfl (by kernel_rfl) rfl rfl (fun K hK => ?_); go_big_quiet_op; refine hK _ ?_; clear hK K)
      refine mixk_load ⟨bx, ox + i, none⟩ (.string x) rfl (by kernel_rfl) rfl rfl (fun w2 h2 => run_load_plain Tryz.uStr rfl (cell_ext (by exact QX.out) ((drewE wr).trans h2))) ?_
      simp only [Act.put, List.setIfInBounds_toArray, List.set_cons_zero, List.set_cons_succ]
      refine mixk_call _ 35 #[.slice (some ⟨bx, ox, none⟩) i pc, .string x] (.bool false) rfl (by kernel_rfl) rfl (fun w1 => exec_call Tryz.enterIn (by kernel_rfl)) (fun w1 h1 => HI2.out w1 ((drewE wr).trans h1)) ?_
      simp only [Act.put, List.setIfInBounds_toArray, List.set_cons_zero, List.set_cons_succ]
      iterate 1 (refine mixk_pure _ rfl (by kernel_rfl) rfl rfl (fun K hK => ?_); go_big_quiet_op; refine hK _ ?_; clear hK K)
      refine mixk_end (by kernel_rfl) (fun w12 he => ?_)
      have HE12 := Lib.hid (HE.out.trans ((drewE wr).trans he))
      clear he QX
      go_wp2_with fail
      go_roundw
      case rel => exact ⟨i + 1, by omega, by go_num, HE12.out⟩
      case measure => simp [intOf]; omega
    · have d1 : (1 : Int) ≤ (N.length : Int) := by have := HLN.out; omega
      have d2 : (N.length : Int) ≤ 13 := by have := HLN.out; omega
      go_wp2_with fail
      have hsm := same2_c wr _ _ N N (HP11.out.ext HE.out) (HQ11.out.ext HE.out) (by have := HLN.out; omega) (by have := HLN.out; omega)
      rw [decide_eq_true rfl] at hsm
      refine hsm.mono ?_
      rintro e w12 ⟨rfl, hE⟩
      have HE12 := Lib.hid (HE11.out.trans (HE.out.trans hE))
      clear hE hsm
      go_wp2_with fail
      go_ret
      exact ⟨rfl, HE12.out⟩
end
end Go.Proofs.YtjogjmffkmfmbaaGreatDoor
/- ProofShort, the card: the law is true for every input. -/
namespace Go.Proofs.YtjogjmffkmfmbaaGreatDoor
section
open Go Go.ChangeShapes Go.WideShapes Go.ChangeAt Go.RowKit Go.ChangeMaps
set_option linter.unusedSimpArgs false
set_option linter.unusedVariables false
set_option maxRecDepth 100000 in
theorem proofShort_contract (H : Type) (enc : TypeId × Value → H) (W : World) (base : Nat) (args : Array Value) (ds gs : List (DataW H)) (before : List MemPlace)
    (hval : ∀ (j : Nat) t v, Tryz.f8.params[j]? = some t → args[j]? = some v → Value.okWide Tryz.prog W .any base t v)
    (hW : DataW.Whole enc Tryz.prog Tryz.f8.params.toList Rows.proofShortSpec.vars false W args.toList ds gs before) (hL : laidMetH Tryz.prog Rows.proofShortRow.laid W) :
    Calls Tryz.prog 8 args W fun e W' => ∃ v, e = .returned v ∧ Rows.proofShortSpec.post enc Tryz.prog Tryz.f8 false true false false W args v W' := by
  have hW' := hW
  obtain ⟨p, q, hA0, hV, rfl, hfz, hnd⟩ := hW
  have hA : DataW.TrodAll enc Tryz.prog W 0 (fun _ => true) true Tryz.f8.params.toList args.toList ds p := hA0
  rw [Tryz.params8] at hA hval
  obtain ⟨v0, v1, v2, d0, d1, d2, p0, p1, p2, rfl, rfl, rfl, h0, h1, h2⟩ := trodAll_three hA
  obtain ⟨rfl, rfl⟩ := trodVars_none hV
  obtain ⟨l0, hl0, hn0, hs0⟩ := open_entries (okWide_slice Tryz.underlying29 (hval 0 29 v0 rfl rfl)) h0
  obtain ⟨l1, hl1, hn1, hs1⟩ := open_entries (okWide_slice Tryz.underlying29 (hval 1 29 v1 rfl rfl)) h1
  obtain ⟨s2, rfl, rfl, rfl, ws2⟩ := open_string Tryz.underlying9 (hval 2 9 v2 rfl rfl) h2
  have hk2 := Nat.le_trans ws2 maxLen_big
  clear hA0
  simp only [List.append_nil, List.nil_append] at hW'
  have hlt : ∀ x ∈ p0 ++ p1, x.block < W.heap.size := fun x hx => by simpa using hW'.lt x (by simpa using hx)
  refine (short_c W (cubes_of hL) v0 v1 l0 l1 s2 hl0 hn0 hs0 hl1 hn1 hs1).mono fun e W' ⟨he, hE⟩ => ?_
  subst he
  have hb : Below W.heap.size W W' := ⟨hE.os, hE.tape, hE.output, hE.size, fun k hk => hE.block k hk (fun h => h)⟩
  have hres : DataW.TrodAll enc Tryz.prog W' 0 (fun b => decide (b < W.heap.size)) true [29, 29, 9] [v0, v1, .string s2] [d0, d1, .lit (.string s2.data.toList)] (p0 ++ p1) := by
    simpa using trodAll_mk3 (Below.trod Tryz.laidOutK (by kernel_rfl) (of_decide_eq_true (by kernel_rfl)) h0 hb (fun x hx => hlt x (by simp [hx]))) (Below.trod Tryz.laidOutK (by kernel_rfl) (of_decide_eq_true (by kernel_rfl)) h1 hb (fun x hx => hlt x (by simp [hx]))) (shut_string Tryz.underlying9 ws2)
  refine ⟨_, rfl, _, _, _, [], p0 ++ p1, [], hW', trodAll_mk1 (shut_bool Tryz.underlying4 _), ?_, rfl, hb.frame _, fun h => by cases h⟩
  exact hres
set_option maxRecDepth 100000 in
theorem proofShort_reads (os : Os) {H : Type} (enc : TypeId × Value → H) : ∃ places, DataW.whole enc Tryz.prog ((laidWorld os).forCall (fun _ _ => 0) ⟨#[], #[.slice none 0 0, .slice none 0 0, .string ⟨#[]⟩], []⟩).memory Tryz.f8.params.toList Rows.proofShortSpec.vars false #[.slice none 0 0, .slice none 0 0, .string ⟨#[]⟩].toList 8 = some ([.nil, .nil, .lit (.string [])], [], places) :=
  ⟨[], by kernel_rfl⟩
set_option maxRecDepth 100000 in
theorem proofShort_lifted (os : Os) (started : os.Started) (H : Type) (enc : TypeId × Value → H) (F : Stop.Interp) :
    ReturnsInHanded {} Tryz.checked os 8 .any ((OpenSpec.ofChange Rows.proofShortSpec).preRow enc Tryz.prog Tryz.f8 Rows.proofShortRow.domain false Rows.proofShortRow.laid) (((OpenSpec.ofChange Rows.proofShortSpec).at F).post enc Tryz.prog Tryz.f8 false true false false) := by
  obtain ⟨places, hx⟩ := proofShort_reads os enc
  refine returnsInHanded_of_row (C := Tryz.checked) (s := OpenSpec.ofChange Rows.proofShortSpec) Tryz.ownK started (by kernel_rfl) Tryz.func8
    (witness_row_at (enc := enc) (C := Tryz.checked) false (laidWorld os) #[.slice none 0 0, .slice none 0 0, .string ⟨#[]⟩] rfl (by kernel_rfl) (by kernel_rfl) (by kernel_rfl)
      (OpenSpec.preRow_of_cond 8 hx (by kernel_rfl) (fun k hk => by cases hk) (by kernel_rfl) (laid_met os _))) ?_
  intro W base args ds gs before hval hW _ _ _ hL _ _
  exact proofShort_contract H enc W base args ds gs before hval hW hL
theorem proofShort_said : Rows.ProofShortSaid :=
  OpenClaim.holds_of_cond 8 Tryz.f8 rfl rfl rfl rfl rfl rfl rfl ⟨rfl, rfl, rfl, rfl, rfl⟩ rfl rfl rfl rfl rfl (by kernel_rfl) Tryz.func8 (by kernel_rfl)
    (of_decide_eq_true (by kernel_rfl)) (by unfold Func.isWrapper; first | (rw [if_pos (by decide +kernel)]; kernel_rfl) | (rw [if_neg (by decide +kernel)]; exact ⟨rfl, rfl⟩))
    (fun os started H enc _ F => by rw [OpenClaim.pre_eq_preRow]; exact proofShort_lifted os started H enc F)
theorem proofShortCard_holds : Rows.ProofShortCardSaid :=
  Claim7.holds_tied_plain_at .later [] [.handle, .data] true (true, "b7bd1e2e29b688aa281167e6180871ca34643c5c354714fdb60332ef6a4a105a") true
    proofShort_said (fun _ h => by cases h) (by kernel_rfl) (fun _ h => by cases h) proofShort_row_tie rfl ⟨rfl, rfl⟩ (by kernel_rfl) rfl
    (fun f fn hf hfn => by
      obtain rfl : f = 8 := Option.some.inj ((show Tryz.prog.funcNamed "guilloche/guillochelaw11.ProofShort" = some 8 by kernel_rfl).symm.trans hf) |>.symm
      obtain rfl : fn = Tryz.f8 := (Option.some.inj (Tryz.func8.symm.trans hfn)).symm
      exact ⟨by kernel_rfl, fun j t ht => by
        rw [Tryz.params8] at ht
        have hm : t ∈ [29, 29, 9] := by simpa using Array.mem_of_getElem? ht
        have hall : ([29, 29, 9].all fun u => !Tryz.prog.wantsStandIn u) = true := by kernel_rfl
        exact (show Tryz.prog.wantsStandIn t = false by simpa using List.all_eq_true.1 hall t hm)⟩)
    (by kernel_rfl)
end
end Go.Proofs.YtjogjmffkmfmbaaGreatDoor
