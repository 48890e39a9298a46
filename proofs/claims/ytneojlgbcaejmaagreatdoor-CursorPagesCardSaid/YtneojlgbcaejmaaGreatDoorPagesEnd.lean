/- Parts of the proof, one behind the other: CurO, CurR, CurS, PagesP. Each is under no condition but those that it states. -/
import Derived.Test.YtneojlgbcaejmaaGreatDoorBa39
import Derived.Test.YtneojlgbcaejmaaGreatDoorBa35
import Derived.Test.YtneojlgbcaejmaaGreatDoorBa41
import Derived.Test.YtneojlgbcaejmaaGreatDoorBa42
import Derived.WalkKit
import Derived.ProofKit
import Derived.OpenShut
import Derived.Lib.SmallJoins
import Derived.Deep.DeepHandedRow
import Derived.Lay
import Derived.Carry
import Derived.ChangeMaps5
/- reference 09: From, Between. -/
namespace Go.Proofs.YtneojlgbcaejmaaGreatDoor
section
open Go Go.RowKit
set_option linter.unusedSimpArgs false
set_option linter.unusedVariables false
theorem Tryz.enterAhead9 : ∀ args w, (callFunc 43 args).run Tryz.prog w = .ok (.enter 43 args) w := fun _ _ => by kernel_rfl
/-- Picking entries of a row, one after another. -/
structure PkR (w : World) (l : List Pair) (P : Pair → Bool) (ov iv : Value) (wr : World) (i : Nat) : Prop where
  le : i ≤ l.length
  at' : iv = .int .i64 i
  ext : Ext w wr
  row : NRow w wr ov ((l.take i).filter P)
def PkRel (w : World) (l : List Pair) (P : Pair → Bool) (ov iv : Value) (wr : World) : Prop := ∃ i, PkR w l P ov iv wr i
theorem filter_next {l : List Pair} {P : Pair → Bool} {i : Nat} {p : Pair} (hp : l[i]? = some p) : (l.take (i + 1)).filter P = (l.take i).filter P ++ if P p = true then [p] else [] := by
  rw [List.take_add_one, hp, List.filter_append]
  congr 1
  show [p].filter P = _
  rw [List.filter_cons]; rfl
def PickP (w : World) (xs : List Pair) (e : Ending) (w' : World) : Prop := ∃ lv, e = .returned lv ∧ NRow w w' lv xs ∧ Ext w w'
theorem PkR.app {w0 w wr W5 w' : World} {l : List Pair} {P : Pair → Bool} {ov iv lv : Value} {i n : Nat} {x y : ByteArray} (h : PkR w l P ov iv wr i) (hp : l[i]? = some (x, y)) (hP : P (x, y) = true) (hn : ((l.take i).filter P).length = n) (h5 : Ext wr W5) (r1 : ORow 45 2 w0 w' lv (n + 1) (cellsP ((l.take i).filter P) ++ [.string x, .string y])) (r2 : Keeps (fun b => ov.ownBlock = some b) W5 w') (r3 : lv.ownBlock = ov.ownBlock ∨ ∀ b, lv.ownBlock = some b → W5.heap.size ≤ b) : PkR w l P lv (.int .i64 ((i + 1 : Nat) : Int)) w' (i + 1) := by
  have e := filter_next (P := P) hp
  rw [if_pos hP] at e
  refine ⟨(List.getElem?_eq_some_iff.1 hp).1, rfl, (h.ext.trans h5).trans' r2 (fun b hb e => by have := h.row.new b e; omega), ⟨?_, fun b hb => ?_⟩⟩
  · rw [e, cellsP_append, List.length_append, hn]
    exact r1.own
  · rcases r3 with r3 | r3
    · exact h.row.new b (r3 ▸ hb)
    · have := r3 b hb; have := (h.ext.trans h5).size; omega
theorem PkR.skip {w wr wr' : World} {l : List Pair} {P : Pair → Bool} {ov iv : Value} {i : Nat} {p : Pair} (h : PkR w l P ov iv wr i) (hp : l[i]? = some p) (hP : P p = false) (k : Ext wr wr') : PkR w l P ov (.int .i64 ((i + 1 : Nat) : Int)) wr' (i + 1) := by
  refine ⟨(List.getElem?_eq_some_iff.1 hp).1, rfl, h.ext.trans k, ?_⟩
  have e := filter_next (P := P) hp
  rw [hP] at e
  rw [e]; simp only [Bool.false_eq_true, if_false, List.append_nil]
  exact h.row.ext k
theorem PkR.keep {w wr wr' : World} {l : List Pair} {P : Pair → Bool} {ov iv : Value} {i : Nat} (h : PkR w l P ov iv wr i) (k : Ext wr wr') : PkR w l P ov iv wr' i := ⟨h.le, h.at', h.ext.trans k, h.row.ext k⟩
set_option maxRecDepth 100000 in
set_option maxHeartbeats 8000000 in
theorem from_c (w : World) (v : Value) (l : List Pair) (fr : ByteArray) (hv : RdP w v l) (hn : l.length ≤ 1000) (hs : SmallP l) (hfr : fr.size ≤ 9223372036854775807) :
    Calls Tryz.prog 20 #[v, .string fr] w (PickP w (fromL fr l)) := by
  have HV := Lib.hid hv
  have HS := Lib.hid hs
  obtain ⟨a, c, hsl⟩ := hv.sl
  subst hsl
  clear hv hs
  obtain ⟨P, hP⟩ : ∃ P : Pair → Bool, P = fun p => !lessB p.1 fr := ⟨_, rfl⟩
  have HP := Lib.hid (show ∀ p, P p = !lessB p.1 fr from fun p => by rw [hP])
  rw [show fromL fr l = l.filter P by rw [hP]; rfl]
  clear hP
  go_enter Tryz.func20, Tryz.ntmps20
  go_wp2_with fail
  go_loopw [5, 6] (fun ov iv wr => PkRel w l P ov iv wr) (fun ov iv _ => l.length - (intOf iv).toNat)
  case atStart => exact ⟨0, by omega, rfl, ExtR w, World.ownsRow_nil _ _ _ _, fun b hb => by cases hb⟩
  case round =>
    obtain ⟨i, hR⟩ := hrel
    have hi := hR.le
    obtain rfl := hR.at'
    obtain ⟨n, hnn⟩ : ∃ n, n = ((l.take i).filter P).length := ⟨_, rfl⟩
    have hni : n ≤ i := by rw [hnn]; refine Nat.le_trans (List.length_filter_le _ _) ?_; rw [List.length_take]; omega
    obtain ⟨ad, cp, hsl⟩ := row_slice hR.row.own
    rw [← hnn] at hsl
    subst hsl
    have HN := Lib.hid hnn
    have HR := Lib.hid hR
    clear hnn hR
    by_cases hlt : i < l.length
    · have b1 : (i : Int) < (l.length : Int) := by omega
      rcases HV.out with ⟨_, _, _, h0⟩ | ⟨b, o, c1, hh, hb, hcc, hcell⟩
      · rw [h0] at hlt; cases hlt
      cases hh
      obtain ⟨⟨x, y⟩, hp⟩ : ∃ p, l[i]? = some p := ⟨_, List.getElem?_eq_getElem hlt⟩
      obtain ⟨q1, q2⟩ := hcell i _ hp
      have hsz := HS.out _ (List.mem_of_getElem? hp)
      simp only at hsz q1 q2
      have Q := Lib.hid (And.intro q1 q2)
      have q1 := cell_ext q1 HR.out.ext
      have HPX := Lib.hid hp
      clear q2 hcell hb hcc hp
      go_wp2_with fail
      refine (ahead_c wr x fr hsz.1 hfr).mono ?_
      rintro e w2 ⟨rfl, hE⟩
      have HE2 := Lib.hid hE
      clear hE q1
      cases hl : lessB x fr with
      | true =>
        have HPF := Lib.hid (show P (x, y) = false by rw [HP.out]; show (!lessB x fr) = false; rw [hl]; rfl)
        clear hl
        go_wp2_with fail
        go_roundw
        case rel => exact ⟨i + 1, by have := HR.out.skip HPX.out HPF.out HE2.out; simpa using this⟩
        case measure => simp [intOf]; omega
      | false =>
        have HPF := Lib.hid (show P (x, y) = true by rw [HP.out]; show (!lessB x fr) = true; rw [hl]; rfl)
        have hld : (Instr.loadAt 45 (.pointer (some ⟨b, o + i * 2, none⟩))).run Tryz.prog w2 = .ok (.agg #[.string x, .string y]) w2 := load_pair (cell_ext Q.out.1 (HR.out.ext.trans HE2.out)) (cell_ext Q.out.2 (HR.out.ext.trans HE2.out))
        have hm1 : n + 1 ≤ maxLen := by unfold maxLen; omega
        have hm2 : (n + 1) * 32 ≤ 140737488355328 := by omega
        have hown := HR.out.row.own
        rw [← HN.out] at hown
        have HOWN := Lib.hid (own_ext hown HE2.out)
        have hnb : Blk (w2.alloc (.cells #[.string x, .string y] 45)) w2.heap.size (.cells [Value.string x, .string y].toArray 45) := Blk.new w2 _
        have hxx : Ext w2 (w2.alloc (.cells #[.string x, .string y] 45)) := (ExtR w2).alloc _
        clear hown hl
        go_wp2_with (first | (refine wpList_load_known 45 (.tmp 24) rfl rfl _ _ rfl hld ?_) | (at_builtin; (refine wpList_app Tryz.sEnts (ORow.any (own_ext HOWN.out hxx)) (.tmp 21) (.tmp 26) rfl rfl rfl (news_blk hnb) (news := [.string x, .string y]) (two_one _ _) rfl rfl hm1 hm2 ?_; intro lv' w' r1 r2 r3)))
        have HAP := Lib.hid (HR.out.app HPX.out HPF.out HN.out.symm (HE2.out.trans hxx) r1 r2 r3)
        obtain ⟨ad', cp', rfl⟩ := r1.sl
        clear r1 r2 r3 hxx hnb hld
        go_wp2_with fail
        go_roundw
        case rel => exact ⟨i + 1, by simpa using HAP.out⟩
        case measure => simp [intOf]; omega
    · have b1 : ¬ (i : Int) < (l.length : Int) := by omega
      have HF := Lib.hid (show (l.take i).filter P = l.filter P by rw [List.take_of_length_le (by omega)])
      go_wp2_with fail
      go_ret
      exact ⟨_, rfl, by rw [← HF.out]; exact HR.out.row, HR.out.ext⟩
set_option maxRecDepth 100000 in
set_option maxHeartbeats 8000000 in
theorem between_c (w : World) (v : Value) (l : List Pair) (fr to : ByteArray) (hv : RdP w v l) (hn : l.length ≤ 1000) (hs : SmallP l) (hfr : fr.size ≤ 9223372036854775807) (hto : to.size ≤ 9223372036854775807) :
    Calls Tryz.prog 39 #[v, .string fr, .string to] w (PickP w (uptoL to (fromL fr l))) := by
  have HFR := Lib.hid (from_c w v l fr hv hn hs hfr)
  clear hv
  obtain ⟨E, hE⟩ : ∃ E, E = fromL fr l := ⟨_, rfl⟩
  have hEn : E.length ≤ 1000 := by rw [hE]; exact Nat.le_trans (List.length_filter_le _ _) hn
  have hEs : SmallP E := fun p hp => hs p (by rw [hE] at hp; exact (List.mem_filter.1 hp).1)
  rw [← hE] at HFR ⊢
  have HS := Lib.hid hEs
  clear hs hEs hE hn
  obtain ⟨P, hP⟩ : ∃ P : Pair → Bool, P = fun p => !lessB to p.1 := ⟨_, rfl⟩
  have HP := Lib.hid (show ∀ p, P p = !lessB to p.1 from fun p => by rw [hP])
  rw [show uptoL to E = E.filter P by rw [hP]; rfl]
  clear hP
  go_enter Tryz.func39, Tryz.ntmps39
  go_wp2_with fail
  refine HFR.out.mono ?_
  rintro e w1 ⟨fv, rfl, hF, hE1⟩
  have HV := Lib.hid hF.rd
  obtain ⟨a, c, hsl⟩ := hF.rd.sl
  subst hsl
  have HE1 := Lib.hid hE1
  clear hF hE1 HFR
  go_wp2_with fail
  go_loopw [7, 8] (fun ov iv wr => PkRel w1 E P ov iv wr) (fun ov iv _ => E.length - (intOf iv).toNat)
  case atStart => exact ⟨0, by omega, rfl, ExtR w1, World.ownsRow_nil _ _ _ _, fun b hb => by cases hb⟩
  case round =>
    obtain ⟨i, hR⟩ := hrel
    have hi := hR.le
    obtain rfl := hR.at'
    obtain ⟨n, hnn⟩ : ∃ n, n = ((E.take i).filter P).length := ⟨_, rfl⟩
    have hni : n ≤ i := by rw [hnn]; refine Nat.le_trans (List.length_filter_le _ _) ?_; rw [List.length_take]; omega
    obtain ⟨ad, cp, hsl⟩ := row_slice hR.row.own
    rw [← hnn] at hsl
    subst hsl
    have HN := Lib.hid hnn
    have HR := Lib.hid hR
    clear hnn hR
    by_cases hlt : i < E.length
    · have b1 : (i : Int) < (E.length : Int) := by omega
      rcases HV.out with ⟨_, _, _, h0⟩ | ⟨b, o, c1, hh, hb, hcc, hcell⟩
      · rw [h0] at hlt; cases hlt
      cases hh
      obtain ⟨⟨x, y⟩, hp⟩ : ∃ p, E[i]? = some p := ⟨_, List.getElem?_eq_getElem hlt⟩
      obtain ⟨q1, q2⟩ := hcell i _ hp
      have hsz := HS.out _ (List.mem_of_getElem? hp)
      simp only at hsz q1 q2
      have Q := Lib.hid (And.intro q1 q2)
      have q1 := cell_ext q1 HR.out.ext
      have HPX := Lib.hid hp
      clear q2 hcell hb hcc hp
      go_wp2_with fail
      refine (ahead_c wr to x hto hsz.1).mono ?_
      rintro e w2 ⟨rfl, hE⟩
      have HE2 := Lib.hid hE
      clear hE q1
      cases hl : lessB to x with
      | true =>
        have HPF := Lib.hid (show P (x, y) = false by rw [HP.out]; show (!lessB to x) = false; rw [hl]; rfl)
        clear hl
        go_wp2_with fail
        go_roundw
        case rel => exact ⟨i + 1, by have := HR.out.skip HPX.out HPF.out HE2.out; simpa using this⟩
        case measure => simp [intOf]; omega
      | false =>
        have HPF := Lib.hid (show P (x, y) = true by rw [HP.out]; show (!lessB to x) = true; rw [hl]; rfl)
        have hld : (Instr.loadAt 45 (.pointer (some ⟨b, o + i * 2, none⟩))).run Tryz.prog w2 = .ok (.agg #[.string x, .string y]) w2 := load_pair (cell_ext Q.out.1 (HR.out.ext.trans HE2.out)) (cell_ext Q.out.2 (HR.out.ext.trans HE2.out))
        have hm1 : n + 1 ≤ maxLen := by unfold maxLen; omega
        have hm2 : (n + 1) * 32 ≤ 140737488355328 := by omega
        have hown := HR.out.row.own
        rw [← HN.out] at hown
        have HOWN := Lib.hid (own_ext hown HE2.out)
        have hnb : Blk (w2.alloc (.cells #[.string x, .string y] 45)) w2.heap.size (.cells [Value.string x, .string y].toArray 45) := Blk.new w2 _
        have hxx : Ext w2 (w2.alloc (.cells #[.string x, .string y] 45)) := (ExtR w2).alloc _
        clear hown hl
        go_wp2_with (first | (refine wpList_load_known 45 (.tmp 29) rfl rfl _ _ rfl hld ?_) | (at_builtin; (refine wpList_app Tryz.sEnts (ORow.any (own_ext HOWN.out hxx)) (.tmp 26) (.tmp 31) rfl rfl rfl (news_blk hnb) (news := [.string x, .string y]) (two_one _ _) rfl rfl hm1 hm2 ?_; intro lv' w' r1 r2 r3)))
        have HAP := Lib.hid (HR.out.app HPX.out HPF.out HN.out.symm (HE2.out.trans hxx) r1 r2 r3)
        obtain ⟨ad', cp', rfl⟩ := r1.sl
        clear r1 r2 r3 hxx hnb hld
        go_wp2_with fail
        go_roundw
        case rel => exact ⟨i + 1, by simpa using HAP.out⟩
        case measure => simp [intOf]; omega
    · have b1 : ¬ (i : Int) < (E.length : Int) := by omega
      have HF := Lib.hid (show (E.take i).filter P = E.filter P by rw [List.take_of_length_le (by omega)])
      go_wp2_with fail
      go_ret
      exact ⟨_, rfl, by have h := HR.out.row; rw [HF.out] at h; exact ⟨h.own, fun b hb => Nat.le_trans HE1.out.size (h.new b hb)⟩, HE1.out.trans HR.out.ext⟩
end
end Go.Proofs.YtneojlgbcaejmaaGreatDoor
/- reference 09: Page, Range. -/
namespace Go.Proofs.YtneojlgbcaejmaaGreatDoor
section
open Go Go.RowKit
set_option linter.unusedSimpArgs false
set_option linter.unusedVariables false
attribute [local go_sem] Oper.semAt_some
theorem RdP.pre {w : World} {b o c : Nat} {xs : List Pair} {k : Nat} (h1 : b < w.heap.size) (h2 : xs.length ≤ c) (h3 : ∀ (j : Nat) x, xs[j]? = some x → w.cell? ⟨b, o + j * 2, none⟩ = some (.string x.1) ∧ w.cell? ⟨b, o + j * 2 + 1, none⟩ = some (.string x.2)) (hk : k ≤ xs.length) : RdP w (.slice (some ⟨b, o, none⟩) k c) (xs.take k) := by
  have hl : (xs.take k).length = k := by rw [List.length_take]; omega
  refine .inr ⟨b, o, c, by rw [hl], h1, by omega, fun j x hx => h3 j x ?_⟩
  rw [List.getElem?_take] at hx
  split at hx
  · exact hx
  · cases hx
set_option maxRecDepth 100000 in
set_option maxHeartbeats 8000000 in
theorem rpage_c (w : World) (v : Value) (l : List Pair) (fr : ByteArray) (limit : Int) (hv : RdP w v l) (hn : l.length ≤ 1000) (hs : SmallP l) (hfr : fr.size ≤ 9223372036854775807) :
    Calls Tryz.prog 14 #[v, .string fr, .int .i64 limit] w (PgA (fromL fr l) limit w) := by
  have HFR := Lib.hid (from_c w v l fr hv hn hs hfr)
  clear hv
  obtain ⟨E, hE⟩ : ∃ E, E = fromL fr l := ⟨_, rfl⟩
  have hEn : E.length ≤ 1000 := by rw [hE]; exact Nat.le_trans (List.length_filter_le _ _) hn
  rw [← hE] at HFR ⊢
  clear hs hE hn
  go_enter Tryz.func14, Tryz.ntmps14
  by_cases h1 : limit < 1
  · have hno : ¬ (1 ≤ limit ∧ limit ≤ 8) := by omega
    go_wp2_with fail
    go_ret3
    unfold PgA xsA nxA erA
    rw [if_neg hno, if_neg hno, if_neg hno]
    exact ⟨_, rfl, ExtR w, rdp_nil _⟩
  by_cases h2 : 8 < limit
  · have hno : ¬ (1 ≤ limit ∧ limit ≤ 8) := by omega
    go_wp2_with fail
    go_ret3
    unfold PgA xsA nxA erA
    rw [if_neg hno, if_neg hno, if_neg hno]
    exact ⟨_, rfl, ExtR w, rdp_nil _⟩
  obtain ⟨n, rfl⟩ : ∃ n : Nat, limit = (n : Int) := ⟨limit.toNat, by omega⟩
  have HYES := Lib.hid (show 1 ≤ (n : Int) ∧ (n : Int) ≤ 8 by omega)
  go_wp2_with fail
  refine HFR.out.mono ?_
  rintro e w1 ⟨fv, rfl, hF, hE1⟩
  have HE1 := Lib.hid hE1
  have HF := Lib.hid hF.rd
  clear HFR hF hE1
  by_cases hle : E.length ≤ n
  · obtain ⟨a, c, hsl⟩ := HF.out.sl
    subst hsl
    have b1 : (E.length : Int) ≤ (n : Int) := by omega
    go_wp2_with fail
    go_ret3
    unfold PgA xsA nxA erA
    rw [if_pos HYES.out, if_pos HYES.out, if_pos HYES.out, Int.toNat_natCast, List.take_of_length_le hle, List.drop_of_length_le hle]
    exact ⟨_, rfl, HE1.out, HF.out⟩
  rcases HF.out with ⟨_, _, _, h0⟩ | ⟨b, o, c, rfl, hb, hc, hcell⟩
  · rw [h0] at hle; exact absurd (Nat.zero_le _) hle
  have b1 : ¬ (E.length : Int) ≤ (n : Int) := by omega
  have b2 : (n : Int) ≤ (c : Int) := by omega
  have b3 : (n : Int) < (E.length : Int) := by omega
  obtain ⟨⟨x, y⟩, hq⟩ : ∃ q, E[n]? = some q := ⟨_, List.getElem?_eq_getElem (by omega)⟩
  have HQ1 := Lib.hid (show ∀ w2, Ext w1 w2 → (Instr.loadAt 9 (.pointer (some ⟨b, o + n * 2, none⟩))).run Tryz.prog w2 = .ok (.string x) w2 from fun w2 h2 => run_load_plain Tryz.uStr rfl (cell_ext (hcell n _ hq).1 h2))
  have HQ := Lib.hid hq
  have HP := Lib.hid (show RdP w1 (.slice (some ⟨b, o, none⟩) n c) (E.take n) from RdP.pre hb hc hcell (by omega))
  clear hq hcell HF
  go_wp2_with fail
  refine wp_region_mixK [0,1,2,3,4,5,6,7,8,9,10] Ext ExtR ExtT (by kernel_rfl) (by kernel_rfl) (by kernel_rfl) ?_
  iterate 7 (refine mixk_pure _ rfl (by kernel_rfl) rfl rfl (fun K hK => ?_); go_big_quiet_op; refine hK _ ?_; clear hK K)
  refine mixk_load ⟨b, o + n * 2, none⟩ _ rfl (by kernel_rfl) rfl rfl (fun w2 h2 => HQ1.out w2 ((drewE w1).trans h2)) ?_
  simp only [Act.put, List.setIfInBounds_toArray, List.set_cons_zero, List.set_cons_succ]
  iterate 3 (refine mixk_pure _ rfl (by kernel_rfl) rfl rfl (fun K hK => ?_); go_big_quiet_op; refine hK _ ?_; clear hK K)
  refine mixk_end (by kernel_rfl) (fun w3 he => ?_)
  have HX3 := Lib.hid ((drewE w1).trans he)
  clear he
  go_wp2_with fail
  go_ret3
  unfold PgA xsA nxA erA
  rw [if_pos HYES.out, if_pos HYES.out, if_pos HYES.out, Int.toNat_natCast, keyHd_drop, HQ.out]
  exact ⟨_, rfl, HE1.out.trans HX3.out, HP.out.ext HX3.out⟩
set_option maxRecDepth 100000 in
set_option maxHeartbeats 8000000 in
theorem rrange_c (w : World) (v : Value) (l : List Pair) (fr to : ByteArray) (limit : Int) (hv : RdP w v l) (hn : l.length ≤ 1000) (hs : SmallP l) (hfr : fr.size ≤ 9223372036854775807) (hto : to.size ≤ 9223372036854775807) :
    Calls Tryz.prog 16 #[v, .string fr, .string to, .int .i64 limit] w (RgP (uptoL to (fromL fr l)) limit w) := by
  have HFR := Lib.hid (between_c w v l fr to hv hn hs hfr hto)
  clear hv
  obtain ⟨E, hE⟩ : ∃ E, E = uptoL to (fromL fr l) := ⟨_, rfl⟩
  have hEn : E.length ≤ 1000 := by rw [hE]; exact Nat.le_trans (List.length_filter_le _ _) (Nat.le_trans (List.length_filter_le _ _) hn)
  rw [← hE] at HFR ⊢
  clear hs hE hn
  go_enter Tryz.func16, Tryz.ntmps16
  by_cases h1 : limit < 1
  · have hno : ¬ (1 ≤ limit ∧ limit ≤ 8) := by omega
    go_wp2_with fail
    go_ret3
    unfold RgP xsA moA erA
    rw [if_neg hno, if_neg hno, if_neg hno]
    exact ⟨_, rfl, ExtR w, rdp_nil _⟩
  by_cases h2 : 8 < limit
  · have hno : ¬ (1 ≤ limit ∧ limit ≤ 8) := by omega
    go_wp2_with fail
    go_ret3
    unfold RgP xsA moA erA
    rw [if_neg hno, if_neg hno, if_neg hno]
    exact ⟨_, rfl, ExtR w, rdp_nil _⟩
  obtain ⟨n, rfl⟩ : ∃ n : Nat, limit = (n : Int) := ⟨limit.toNat, by omega⟩
  have HYES := Lib.hid (show 1 ≤ (n : Int) ∧ (n : Int) ≤ 8 by omega)
  go_wp2_with fail
  refine HFR.out.mono ?_
  rintro e w1 ⟨fv, rfl, hF, hE1⟩
  have HE1 := Lib.hid hE1
  have HF := Lib.hid hF.rd
  clear HFR hF hE1
  by_cases hle : E.length ≤ n
  · obtain ⟨a, c, hsl⟩ := HF.out.sl
    subst hsl
    have b1 : (E.length : Int) ≤ (n : Int) := by omega
    go_wp2_with fail
    go_ret3
    unfold RgP xsA moA erA
    rw [if_pos HYES.out, if_pos HYES.out, if_pos HYES.out, Int.toNat_natCast, List.take_of_length_le hle, decide_eq_false (by omega)]
    exact ⟨_, rfl, HE1.out, HF.out⟩
  rcases HF.out with ⟨_, _, _, h0⟩ | ⟨b, o, c, rfl, hb, hc, hcell⟩
  · rw [h0] at hle; exact absurd (Nat.zero_le _) hle
  have b1 : ¬ (E.length : Int) ≤ (n : Int) := by omega
  have b2 : (n : Int) ≤ (c : Int) := by omega
  have HP := Lib.hid (show RdP w1 (.slice (some ⟨b, o, none⟩) n c) (E.take n) from RdP.pre hb hc hcell (by omega))
  clear hcell HF
  go_wp2_with fail
  go_ret3
  unfold RgP xsA moA erA
  rw [if_pos HYES.out, if_pos HYES.out, if_pos HYES.out, Int.toNat_natCast, decide_eq_true (by omega)]
  exact ⟨_, rfl, HE1.out, HP.out⟩
end
end Go.Proofs.YtneojlgbcaejmaaGreatDoor
/- law 09: CursorPages, its walk. -/
namespace Go.Proofs.YtneojlgbcaejmaaGreatDoor
section
open Go Go.RowKit
set_option linter.unusedSimpArgs false
set_option linter.unusedVariables false
attribute [local go_sem] Oper.semAt_some
theorem str_self (x : ByteArray) : (x == x) = true := by rw [ba_beq]; exact decide_eq_true rfl
set_option maxRecDepth 100000 in
set_option maxHeartbeats 8000000 in
theorem pages_c (w : World) (hc : Cubes w) (v : Value) (l : List Pair) (hv : RdP w v l) (hn : l.length ≤ 9223372036854775807) (hs : SmallP l) (fr : ByteArray) (hfr : fr.size ≤ 9223372036854775807) (to : ByteArray) (hto : to.size ≤ 9223372036854775807) (limit : Int) :
    Calls Tryz.prog 3 #[v, .string fr, .string to, .int .i64 limit] w fun e w' => e = .returned (.bool true) ∧ Ext w w' := by
  have HC := Lib.hid hc
  have HV := Lib.hid hv
  have HS := Lib.hid hs
  have HN := Lib.hid hn
  obtain ⟨ad, c, hsl⟩ := hv.sl
  subst hsl
  clear hc hv hs hn
  go_enter Tryz.func3, Tryz.ntmps3
  go_wp2_with fail
  refine (works9_c w HC.out).mono ?_
  rintro e w1 ⟨rfl, hE⟩
  have HE1 := Lib.hid hE
  clear hE
  go_wp2_with fail
  refine (hold08_c w1 (HC.out.ext HE1.out) _ l (HV.out.ext HE1.out) HN.out HS.out).mono ?_
  rintro e w2 (⟨rfl, hE, hno⟩ | ⟨s, bm, S, rfl, hE, hS, hM, hk, _, _⟩)
  · have HE2 := Lib.hid (HE1.out.trans hE)
    clear hE hno
    go_wp2_with fail
    go_ret
    exact ⟨rfl, HE2.out⟩
  have HE2 := Lib.hid (HE1.out.trans hE)
  have HS2 := Lib.hid hS
  have HM := Lib.hid hM
  obtain ⟨rt, hrt⟩ : ∃ rt, rt = shaB (trieT l).text := ⟨_, rfl⟩
  have HRT := Lib.hid hrt
  rw [← hrt]
  clear hE hS hM hk hrt
  by_cases hf50 : fr.size ≤ 50
  case neg =>
    have b0 : (50 : Int) < (fr.size : Int) := by omega
    go_wp2_with fail
    go_ret
    exact ⟨rfl, HE2.out⟩
  have b0 : ¬ (50 : Int) < (fr.size : Int) := by omega
  by_cases ht50 : to.size ≤ 50
  case neg =>
    have b1 : (50 : Int) < (to.size : Int) := by omega
    go_wp2_with fail
    go_ret
    exact ⟨rfl, HE2.out⟩
  have b1 : ¬ (50 : Int) < (to.size : Int) := by omega
  have HL := Lib.hid (show l.length ≤ 40 from (check_ok HM.out.ok).len)
  go_wp2_with fail
  obtain ⟨E, hEd⟩ : ∃ E, E = fromL fr l := ⟨_, rfl⟩
  have HED := Lib.hid hEd
  have hpg := page_c w2 s bm 2000 S fr l limit (by omega) HM.out HS2.out
  rw [← HRT.out, ← hEd] at hpg
  refine hpg.mono ?_
  rintro e w3 hP
  obtain ⟨pv, rfl, hE, hR⟩ := hP.any
  have HE3 := Lib.hid (HE2.out.trans hE)
  have HS3 := Lib.hid (HS2.out.ext hE)
  have HP3 := Lib.hid hR
  obtain ⟨nx, hnx⟩ : ∃ nx, nx = nxA E limit := ⟨_, rfl⟩
  obtain ⟨er, her⟩ : ∃ er, er = erA limit := ⟨_, rfl⟩
  have HNX := Lib.hid hnx
  have HER := Lib.hid her
  rw [← hnx, ← her]
  clear hpg hE hR hEd hnx her HE2 HS2 hP
  go_wp2_with fail
  have hpg := rpage_c w3 _ l fr limit (HV.out.ext HE3.out) (by have := HL.out; omega) HS.out hfr
  rw [← HED.out] at hpg
  refine hpg.mono ?_
  rintro e w4 ⟨qv, rfl, hE, hR⟩
  have HE4 := Lib.hid (HE3.out.trans hE)
  have HS4 := Lib.hid (HS3.out.ext hE)
  have HP4 := Lib.hid (HP3.out.ext hE)
  have HQ4 := Lib.hid hR
  rw [← HNX.out, ← HER.out]
  clear hpg hE hR HE3 HS3 HP3
  go_wp2_with fail
  obtain ⟨F, hFd⟩ : ∃ F, F = uptoL to E := ⟨_, rfl⟩
  have HFD := Lib.hid hFd
  have hrg := range_c w4 s bm 2000 S fr to l limit (by omega) HM.out HS4.out
  rw [← HRT.out, ← HED.out] at hrg
  refine hrg.mono ?_
  rintro e w5 hP
  have hP := hP.any
  rw [← hFd] at hP
  obtain ⟨rv, rfl, hE, hR⟩ := hP
  have HE5 := Lib.hid (HE4.out.trans hE)
  have HS5 := Lib.hid (HS4.out.ext hE)
  have HP5 := Lib.hid (HP4.out.ext hE)
  have HQ5 := Lib.hid (HQ4.out.ext hE)
  have HR5 := Lib.hid hR
  obtain ⟨mo, hmo⟩ : ∃ mo, mo = moA F limit := ⟨_, rfl⟩
  have HMO := Lib.hid hmo
  rw [← hmo, ← HER.out]
  clear hrg hE hR hmo hFd HE4 HS4 HP4 HQ4
  go_wp2_with fail
  have hrg := rrange_c w5 _ l fr to limit (HV.out.ext HE5.out) (by have := HL.out; omega) HS.out hfr hto
  rw [← HED.out, ← HFD.out] at hrg
  refine hrg.mono ?_
  rintro e w6 ⟨tv, rfl, hE, hR⟩
  have HE6 := Lib.hid (HE5.out.trans hE)
  have HS6 := Lib.hid (HS5.out.ext hE)
  have HP6 := Lib.hid (HP5.out.ext hE)
  have HQ6 := Lib.hid (HQ5.out.ext hE)
  have HR6 := Lib.hid (HR5.out.ext hE)
  have HT6 := Lib.hid hR
  rw [← HMO.out, ← HER.out]
  clear hrg hE hR HE5 HS5 HP5 HQ5 HR5
  go_wp2_with fail
  have hct := count_c w6 s bm 2000 S l HM.out HS6.out
  rw [← HRT.out] at hct
  refine hct.mono ?_
  rintro e w7 ⟨rfl, hE⟩
  have HE7 := Lib.hid (HE6.out.trans hE)
  have HP7 := Lib.hid (HP6.out.ext hE)
  have HQ7 := Lib.hid (HQ6.out.ext hE)
  have HR7 := Lib.hid (HR6.out.ext hE)
  have HT7 := Lib.hid (HT6.out.ext hE)
  clear hct hE HE6 HP6 HQ6 HR6 HT6 HS6
  go_wp2_with fail
  refine (same_c w7 pv qv _ _ HP7.out HQ7.out (by have := xsA_len E limit; omega) (by have := xsA_len E limit; omega)).mono ?_
  rintro e w8 ⟨rfl, hE⟩
  rw [(sameL_iff _ _).2 rfl]
  have HE8 := Lib.hid (HE7.out.trans hE)
  have HR8 := Lib.hid (HR7.out.ext hE)
  have HT8 := Lib.hid (HT7.out.ext hE)
  have hnn := str_self nx
  clear hE HE7 HP7 HQ7 HR7 HT7
  go_wp2_with fail
  refine (same_c w8 rv tv _ _ HR8.out HT8.out (by have := xsA_len F limit; omega) (by have := xsA_len F limit; omega)).mono ?_
  rintro e w9 ⟨rfl, hE⟩
  rw [(sameL_iff _ _).2 rfl]
  have HE9 := Lib.hid (HE8.out.trans hE)
  clear hE HE8
  cases mo with
  | true =>
    go_wp2_with fail
    go_ret
    exact ⟨rfl, HE9.out⟩
  | false =>
    go_wp2_with fail
    go_ret
    exact ⟨rfl, HE9.out⟩
end
end Go.Proofs.YtneojlgbcaejmaaGreatDoor
/- CursorPages, the card: the law is true for every input. -/
namespace Go.Proofs.YtneojlgbcaejmaaGreatDoor
section
open Go Go.ChangeShapes Go.WideShapes Go.ChangeAt Go.RowKit Go.ChangeMaps
set_option linter.unusedSimpArgs false
set_option linter.unusedVariables false
set_option maxRecDepth 100000 in
theorem cursorPages_contract (H : Type) (enc : TypeId × Value → H) (W : World) (base : Nat) (args : Array Value) (ds gs : List (DataW H)) (before : List MemPlace)
    (hval : ∀ (j : Nat) t v, Tryz.f3.params[j]? = some t → args[j]? = some v → Value.okWide Tryz.prog W .any base t v)
    (hW : DataW.Whole enc Tryz.prog Tryz.f3.params.toList Rows.cursorPagesSpec.vars false W args.toList ds gs before) (hL : laidMetH Tryz.prog Rows.cursorPagesRow.laid W) :
    Calls Tryz.prog 3 args W fun e W' => ∃ v, e = .returned v ∧ Rows.cursorPagesSpec.post enc Tryz.prog Tryz.f3 false true false false W args v W' := by
  have hW' := hW
  obtain ⟨p, q, hA0, hV, rfl, hfz, hnd⟩ := hW
  have hA : DataW.TrodAll enc Tryz.prog W 0 (fun _ => true) true Tryz.f3.params.toList args.toList ds p := hA0
  rw [Tryz.params3] at hA hval
  obtain ⟨v0, v1, v2, v3, d0, d1, d2, d3, p0, p1, p2, p3, rfl, rfl, rfl, h0, h1, h2, h3⟩ := trodAll_four hA
  obtain ⟨rfl, rfl⟩ := trodVars_none hV
  obtain ⟨l0, hl0, hn0, hs0⟩ := open_entries (okWide_slice Tryz.underlying22 (hval 0 22 v0 rfl rfl)) h0
  obtain ⟨s1, rfl, rfl, rfl, ws1⟩ := open_string Tryz.underlying9 (hval 1 9 v1 rfl rfl) h1
  have hk1 := Nat.le_trans ws1 maxLen_big
  obtain ⟨s2, rfl, rfl, rfl, ws2⟩ := open_string Tryz.underlying9 (hval 2 9 v2 rfl rfl) h2
  have hk2 := Nat.le_trans ws2 maxLen_big
  obtain ⟨s3, rfl, rfl, rfl, ws3⟩ := open_int Tryz.underlying3 (hval 3 3 v3 rfl rfl) h3
  clear hA0
  simp only [List.append_nil, List.nil_append] at hW'
  have hlt : ∀ x ∈ p0, x.block < W.heap.size := fun x hx => by simpa using hW'.lt x (by simpa using hx)
  refine (pages_c W (cubes_of hL) v0 l0 hl0 hn0 hs0 s1 hk1 s2 hk2 s3).mono fun e W' ⟨he, hE⟩ => ?_
  subst he
  have hb : Below W.heap.size W W' := ⟨hE.os, hE.tape, hE.output, hE.size, fun k hk => hE.block k hk (fun h => h)⟩
  have hres : DataW.TrodAll enc Tryz.prog W' 0 (fun b => decide (b < W.heap.size)) true [22, 9, 9, 3] [v0, .string s1, .string s2, .int .i64 s3] [d0, .lit (.string s1.data.toList), .lit (.string s2.data.toList), .lit (.int .i64 s3)] (p0) := by
    simpa using trodAll_mk4 (Below.trod Tryz.laidOutK (by kernel_rfl) (of_decide_eq_true (by kernel_rfl)) h0 hb (fun x hx => hlt x (by simp [hx]))) (shut_string Tryz.underlying9 ws1) (shut_string Tryz.underlying9 ws2) (shut_int Tryz.underlying3 ws3)
  refine ⟨_, rfl, _, _, _, [], p0, [], hW', trodAll_mk1 (shut_bool Tryz.underlying4 _), ?_, rfl, hb.frame _, fun h => by cases h⟩
  exact hres
set_option maxRecDepth 100000 in
theorem cursorPages_reads (os : Os) {H : Type} (enc : TypeId × Value → H) : ∃ places, DataW.whole enc Tryz.prog ((laidWorld os).forCall (fun _ _ => 0) ⟨#[], #[.slice none 0 0, .string ⟨#[]⟩, .string ⟨#[]⟩, .int .i64 0], []⟩).memory Tryz.f3.params.toList Rows.cursorPagesSpec.vars false #[.slice none 0 0, .string ⟨#[]⟩, .string ⟨#[]⟩, .int .i64 0].toList 8 = some ([.nil, .lit (.string []), .lit (.string []), .lit (.int .i64 0)], [], places) :=
  ⟨[], by kernel_rfl⟩
set_option maxRecDepth 100000 in
theorem cursorPages_lifted (os : Os) (started : os.Started) (H : Type) (enc : TypeId × Value → H) (F : Stop.Interp) :
    ReturnsInHanded {} Tryz.checked os 3 .any ((OpenSpec.ofChange Rows.cursorPagesSpec).preRow enc Tryz.prog Tryz.f3 Rows.cursorPagesRow.domain false Rows.cursorPagesRow.laid) (((OpenSpec.ofChange Rows.cursorPagesSpec).at F).post enc Tryz.prog Tryz.f3 false true false false) := by
  obtain ⟨places, hx⟩ := cursorPages_reads os enc
  refine returnsInHanded_of_row (C := Tryz.checked) (s := OpenSpec.ofChange Rows.cursorPagesSpec) Tryz.ownK started (by kernel_rfl) Tryz.func3
    (witness_row_at (enc := enc) (C := Tryz.checked) false (laidWorld os) #[.slice none 0 0, .string ⟨#[]⟩, .string ⟨#[]⟩, .int .i64 0] rfl (by kernel_rfl) (by kernel_rfl) (by kernel_rfl)
      (OpenSpec.preRow_of_cond 8 hx (by kernel_rfl) (fun k hk => by cases hk) (by kernel_rfl) (laid_met os _))) ?_
  intro W base args ds gs before hval hW _ _ _ hL _ _
  exact cursorPages_contract H enc W base args ds gs before hval hW hL
theorem cursorPages_said : Rows.CursorPagesSaid :=
  OpenClaim.holds_of_cond 3 Tryz.f3 rfl rfl rfl rfl rfl rfl rfl ⟨rfl, rfl, rfl, rfl, rfl⟩ rfl rfl rfl rfl rfl (by kernel_rfl) Tryz.func3 (by kernel_rfl)
    (of_decide_eq_true (by kernel_rfl)) (by unfold Func.isWrapper; first | (rw [if_pos (by decide +kernel)]; kernel_rfl) | (rw [if_neg (by decide +kernel)]; exact ⟨rfl, rfl⟩))
    (fun os started H enc _ F => by rw [OpenClaim.pre_eq_preRow]; exact cursorPages_lifted os started H enc F)
theorem cursorPagesCard_holds : Rows.CursorPagesCardSaid :=
  Claim7.holds_tied_plain_at .later [] [.handle, .data] true (true, "d2c66192a8206f233295009093e67126f72cb59b0c21e1b9761392474d37febc") true
    cursorPages_said (fun _ h => by cases h) (by kernel_rfl) (fun _ h => by cases h) cursorPages_row_tie rfl ⟨rfl, rfl⟩ (by kernel_rfl) rfl
    (fun f fn hf hfn => by
      obtain rfl : f = 3 := Option.some.inj ((show Tryz.prog.funcNamed "guilloche/guillochelaw09.CursorPages" = some 3 by kernel_rfl).symm.trans hf) |>.symm
      obtain rfl : fn = Tryz.f3 := (Option.some.inj (Tryz.func3.symm.trans hfn)).symm
      exact ⟨by kernel_rfl, fun j t ht => by
        rw [Tryz.params3] at ht
        have hm : t ∈ [22, 9, 9, 3] := by simpa using Array.mem_of_getElem? ht
        have hall : ([22, 9, 9, 3].all fun u => !Tryz.prog.wantsStandIn u) = true := by kernel_rfl
        exact (show Tryz.prog.wantsStandIn t = false by simpa using List.all_eq_true.1 hall t hm)⟩)
    (by kernel_rfl)
end
end Go.Proofs.YtneojlgbcaejmaaGreatDoor
