/- Parts of the proof, one behind the other: CurO, CurQ, StepsP. Each is under no condition but those that it states. -/
import Derived.Test.YtneojlgbcaejmaaGreatDoorBa39
import Derived.Test.YtneojlgbcaejmaaGreatDoorBa18
import Derived.Test.YtneojlgbcaejmaaGreatDoorBa41
import Derived.Test.YtneojlgbcaejmaaGreatDoorBa42
import Derived.WalkKit
import Derived.ProofKit
import Derived.OpenShut
import Derived.Lib.SmallJoins
import Derived.Deep.DeepHandedRow
import Derived.Lay
import Derived.Carry
import Derived.ChangeMaps5
/- reference 09: From, Between. -/
namespace Go.Proofs.YtneojlgbcaejmaaGreatDoor
section
open Go Go.RowKit
set_option linter.unusedSimpArgs false
set_option linter.unusedVariables false
theorem Tryz.enterAhead9 : ∀ args w, (callFunc 43 args).run Tryz.prog w = .ok (.enter 43 args) w := fun _ _ => by kernel_rfl
/-- Picking entries of a row, one after another. -/
structure PkR (w : World) (l : List Pair) (P : Pair → Bool) (ov iv : Value) (wr : World) (i : Nat) : Prop where
  le : i ≤ l.length
  at' : iv = .int .i64 i
  ext : Ext w wr
  row : NRow w wr ov ((l.take i).filter P)
def PkRel (w : World) (l : List Pair) (P : Pair → Bool) (ov iv : Value) (wr : World) : Prop := ∃ i, PkR w l P ov iv wr i
theorem filter_next {l : List Pair} {P : Pair → Bool} {i : Nat} {p : Pair} (hp : l[i]? = some p) : (l.take (i + 1)).filter P = (l.take i).filter P ++ if P p = true then [p] else [] := by
  rw [List.take_add_one, hp, List.filter_append]
  congr 1
  show [p].filter P = _
  rw [List.filter_cons]; rfl
def PickP (w : World) (xs : List Pair) (e : Ending) (w' : World) : Prop := ∃ lv, e = .returned lv ∧ NRow w w' lv xs ∧ Ext w w'
theorem PkR.app {w0 w wr W5 w' : World} {l : List Pair} {P : Pair → Bool} {ov iv lv : Value} {i n : Nat} {x y : ByteArray} (h : PkR w l P ov iv wr i) (hp : l[i]? = some (x, y)) (hP : P (x, y) = true) (hn : ((l.take i).filter P).length = n) (h5 : Ext wr W5) (r1 : ORow 45 2 w0 w' lv (n + 1) (cellsP ((l.take i).filter P) ++ [.string x, .string y])) (r2 : Keeps (fun b => ov.ownBlock = some b) W5 w') (r3 : lv.ownBlock = ov.ownBlock ∨ ∀ b, lv.ownBlock = some b → W5.heap.size ≤ b) : PkR w l P lv (.int .i64 ((i + 1 : Nat) : Int)) w' (i + 1) := by
  have e := filter_next (P := P) hp
  rw [if_pos hP] at e
  refine ⟨(List.getElem?_eq_some_iff.1 hp).1, rfl, (h.ext.trans h5).trans' r2 (fun b hb e => by have := h.row.new b e; omega), ⟨?_, fun b hb => ?_⟩⟩
  · rw [e, cellsP_append, List.length_append, hn]
    exact r1.own
  · rcases r3 with r3 | r3
    · exact h.row.new b (r3 ▸ hb)
    · have := r3 b hb; have := (h.ext.trans h5).size; omega
theorem PkR.skip {w wr wr' : World} {l : List Pair} {P : Pair → Bool} {ov iv : Value} {i : Nat} {p : Pair} (h : PkR w l P ov iv wr i) (hp : l[i]? = some p) (hP : P p = false) (k : Ext wr wr') : PkR w l P ov (.int .i64 ((i + 1 : Nat) : Int)) wr' (i + 1) := by
  refine ⟨(List.getElem?_eq_some_iff.1 hp).1, rfl, h.ext.trans k, ?_⟩
  have e := filter_next (P := P) hp
  rw [hP] at e
  rw [e]; simp only [Bool.false_eq_true, if_false, List.append_nil]
  exact h.row.ext k
theorem PkR.keep {w wr wr' : World} {l : List Pair} {P : Pair → Bool} {ov iv : Value} {i : Nat} (h : PkR w l P ov iv wr i) (k : Ext wr wr') : PkR w l P ov iv wr' i := ⟨h.le, h.at', h.ext.trans k, h.row.ext k⟩
set_option maxRecDepth 100000 in
set_option maxHeartbeats 8000000 in
theorem from_c (w : World) (v : Value) (l : List Pair) (fr : ByteArray) (hv : RdP w v l) (hn : l.length ≤ 1000) (hs : SmallP l) (hfr : fr.size ≤ 9223372036854775807) :
    Calls Tryz.prog 20 #[v, .string fr] w (PickP w (fromL fr l)) := by
  have HV := Lib.hid hv
  have HS := Lib.hid hs
  obtain ⟨a, c, hsl⟩ := hv.sl
  subst hsl
  clear hv hs
  obtain ⟨P, hP⟩ : ∃ P : Pair → Bool, P = fun p => !lessB p.1 fr := ⟨_, rfl⟩
  have HP := Lib.hid (show ∀ p, P p = !lessB p.1 fr from fun p => by rw [hP])
  rw [show fromL fr l = l.filter P by rw [hP]; rfl]
  clear hP
  go_enter Tryz.func20, Tryz.ntmps20
  go_wp2_with fail
  go_loopw [5, 6] (fun ov iv wr => PkRel w l P ov iv wr) (fun ov iv _ => l.length - (intOf iv).toNat)
  case atStart => exact ⟨0, by omega, rfl, ExtR w, World.ownsRow_nil _ _ _ _, fun b hb => by cases hb⟩
  case round =>
    obtain ⟨i, hR⟩ := hrel
    have hi := hR.le
    obtain rfl := hR.at'
    obtain ⟨n, hnn⟩ : ∃ n, n = ((l.take i).filter P).length := ⟨_, rfl⟩
    have hni : n ≤ i := by rw [hnn]; refine Nat.le_trans (List.length_filter_le _ _) ?_; rw [List.length_take]; omega
    obtain ⟨ad, cp, hsl⟩ := row_slice hR.row.own
    rw [← hnn] at hsl
    subst hsl
    have HN := Lib.hid hnn
    have HR := Lib.hid hR
    clear hnn hR
    by_cases hlt : i < l.length
    · have b1 : (i : Int) < (l.length : Int) := by omega
      rcases HV.out with ⟨_, _, _, h0⟩ | ⟨b, o, c1, hh, hb, hcc, hcell⟩
      · rw [h0] at hlt; cases hlt
      cases hh
      obtain ⟨⟨x, y⟩, hp⟩ : ∃ p, l[i]? = some p := ⟨_, List.getElem?_eq_getElem hlt⟩
      obtain ⟨q1, q2⟩ := hcell i _ hp
      have hsz := HS.out _ (List.mem_of_getElem? hp)
      simp only at hsz q1 q2
      have Q := Lib.hid (And.intro q1 q2)
      have q1 := cell_ext q1 HR.out.ext
      have HPX := Lib.hid hp
      clear q2 hcell hb hcc hp
      go_wp2_with fail
      refine (ahead_c wr x fr hsz.1 hfr).mono ?_
      rintro e w2 ⟨rfl, hE⟩
      have HE2 := Lib.hid hE
      clear hE q1
      cases hl : lessB x fr with
      | true =>
        have HPF := Lib.hid (show P (x, y) = false by rw [HP.out]; show (!lessB x fr) = false; rw [hl]; rfl)
        clear hl
        go_wp2_with fail
        go_roundw
        case rel => exact ⟨i + 1, by have := HR.out.skip HPX.out HPF.out HE2.out; simpa using this⟩
        case measure => simp [intOf]; omega
      | false =>
        have HPF := Lib.hid (show P (x, y) = true by rw [HP.out]; show (!lessB x fr) = true; rw [hl]; rfl)
        have hld : (Instr.loadAt 45 (.pointer (some ⟨b, o + i * 2, none⟩))).run Tryz.prog w2 = .ok (.agg #[.string x, .string y]) w2 := load_pair (cell_ext Q.out.1 (HR.out.ext.trans HE2.out)) (cell_ext Q.out.2 (HR.out.ext.trans HE2.out))
        have hm1 : n + 1 ≤ maxLen := by unfold maxLen; omega
        have hm2 : (n + 1) * 32 ≤ 140737488355328 := by omega
        have hown := HR.out.row.own
        rw [← HN.out] at hown
        have HOWN := Lib.hid (own_ext hown HE2.out)
        have hnb : Blk (w2.alloc (.cells #[.string x, .string y] 45)) w2.heap.size (.cells [Value.string x, .string y].toArray 45) := Blk.new w2 _
        have hxx : Ext w2 (w2.alloc (.cells #[.string x, .string y] 45)) := (ExtR w2).alloc _
        clear hown hl
        go_wp2_with (first | (refine wpList_load_known 45 (.tmp 24) rfl rfl _ _ rfl hld ?_) | (at_builtin; (refine wpList_app Tryz.sEnts (ORow.any (own_ext HOWN.out hxx)) (.tmp 21) (.tmp 26) rfl rfl rfl (news_blk hnb) (news := [.string x, .string y]) (two_one _ _) rfl rfl hm1 hm2 ?_; intro lv' w' r1 r2 r3)))
        have HAP := Lib.hid (HR.out.app HPX.out HPF.out HN.out.symm (HE2.out.trans hxx) r1 r2 r3)
        obtain ⟨ad', cp', rfl⟩ := r1.sl
        clear r1 r2 r3 hxx hnb hld
        go_wp2_with fail
        go_roundw
        case rel => exact ⟨i + 1, by simpa using HAP.out⟩
        case measure => simp [intOf]; omega
    · have b1 : ¬ (i : Int) < (l.length : Int) := by omega
      have HF := Lib.hid (show (l.take i).filter P = l.filter P by rw [List.take_of_length_le (by omega)])
      go_wp2_with fail
      go_ret
      exact ⟨_, rfl, by rw [← HF.out]; exact HR.out.row, HR.out.ext⟩
set_option maxRecDepth 100000 in
set_option maxHeartbeats 8000000 in
theorem between_c (w : World) (v : Value) (l : List Pair) (fr to : ByteArray) (hv : RdP w v l) (hn : l.length ≤ 1000) (hs : SmallP l) (hfr : fr.size ≤ 9223372036854775807) (hto : to.size ≤ 9223372036854775807) :
    Calls Tryz.prog 39 #[v, .string fr, .string to] w (PickP w (uptoL to (fromL fr l))) := by
  have HFR := Lib.hid (from_c w v l fr hv hn hs hfr)
  clear hv
  obtain ⟨E, hE⟩ : ∃ E, E = fromL fr l := ⟨_, rfl⟩
  have hEn : E.length ≤ 1000 := by rw [hE]; exact Nat.le_trans (List.length_filter_le _ _) hn
  have hEs : SmallP E := fun p hp => hs p (by rw [hE] at hp; exact (List.mem_filter.1 hp).1)
  rw [← hE] at HFR ⊢
  have HS := Lib.hid hEs
  clear hs hEs hE hn
  obtain ⟨P, hP⟩ : ∃ P : Pair → Bool, P = fun p => !lessB to p.1 := ⟨_, rfl⟩
  have HP := Lib.hid (show ∀ p, P p = !lessB to p.1 from fun p => by rw [hP])
  rw [show uptoL to E = E.filter P by rw [hP]; rfl]
  clear hP
  go_enter Tryz.func39, Tryz.ntmps39
  go_wp2_with fail
  refine HFR.out.mono ?_
  rintro e w1 ⟨fv, rfl, hF, hE1⟩
  have HV := Lib.hid hF.rd
  obtain ⟨a, c, hsl⟩ := hF.rd.sl
  subst hsl
  have HE1 := Lib.hid hE1
  clear hF hE1 HFR
  go_wp2_with fail
  go_loopw [7, 8] (fun ov iv wr => PkRel w1 E P ov iv wr) (fun ov iv _ => E.length - (intOf iv).toNat)
  case atStart => exact ⟨0, by omega, rfl, ExtR w1, World.ownsRow_nil _ _ _ _, fun b hb => by cases hb⟩
  case round =>
    obtain ⟨i, hR⟩ := hrel
    have hi := hR.le
    obtain rfl := hR.at'
    obtain ⟨n, hnn⟩ : ∃ n, n = ((E.take i).filter P).length := ⟨_, rfl⟩
    have hni : n ≤ i := by rw [hnn]; refine Nat.le_trans (List.length_filter_le _ _) ?_; rw [List.length_take]; omega
    obtain ⟨ad, cp, hsl⟩ := row_slice hR.row.own
    rw [← hnn] at hsl
    subst hsl
    have HN := Lib.hid hnn
    have HR := Lib.hid hR
    clear hnn hR
    by_cases hlt : i < E.length
    · have b1 : (i : Int) < (E.length : Int) := by omega
      rcases HV.out with ⟨_, _, _, h0⟩ | ⟨b, o, c1, hh, hb, hcc, hcell⟩
      · rw [h0] at hlt; cases hlt
      cases hh
      obtain ⟨⟨x, y⟩, hp⟩ : ∃ p, E[i]? = some p := ⟨_, List.getElem?_eq_getElem hlt⟩
      obtain ⟨q1, q2⟩ := hcell i _ hp
      have hsz := HS.out _ (List.mem_of_getElem? hp)
      simp only at hsz q1 q2
      have Q := Lib.hid (And.intro q1 q2)
      have q1 := cell_ext q1 HR.out.ext
      have HPX := Lib.hid hp
      clear q2 hcell hb hcc hp
      go_wp2_with fail
      refine (ahead_c wr to x hto hsz.1).mono ?_
      rintro e w2 ⟨rfl, hE⟩
      have HE2 := Lib.hid hE
      clear hE q1
      cases hl : lessB to x with
      | true =>
        have HPF := Lib.hid (show P (x, y) = false by rw [HP.out]; show (!lessB to x) = false; rw [hl]; rfl)
        clear hl
        go_wp2_with fail
        go_roundw
        case rel => exact ⟨i + 1, by have := HR.out.skip HPX.out HPF.out HE2.out; simpa using this⟩
        case measure => simp [intOf]; omega
      | false =>
        have HPF := Lib.hid (show P (x, y) = true by rw [HP.out]; show (!lessB to x) = true; rw [hl]; rfl)
        have hld : (Instr.loadAt 45 (.pointer (some ⟨b, o + i * 2, none⟩))).run Tryz.prog w2 = .ok (.agg #[.string x, .string y]) w2 := load_pair (cell_ext Q.out.1 (HR.out.ext.trans HE2.out)) (cell_ext Q.out.2 (HR.out.ext.trans HE2.out))
        have hm1 : n + 1 ≤ maxLen := by unfold maxLen; omega
        have hm2 : (n + 1) * 32 ≤ 140737488355328 := by omega
        have hown := HR.out.row.own
        rw [← HN.out] at hown
        have HOWN := Lib.hid (own_ext hown HE2.out)
        have hnb : Blk (w2.alloc (.cells #[.string x, .string y] 45)) w2.heap.size (.cells [Value.string x, .string y].toArray 45) := Blk.new w2 _
        have hxx : Ext w2 (w2.alloc (.cells #[.string x, .string y] 45)) := (ExtR w2).alloc _
        clear hown hl
        go_wp2_with (first | (refine wpList_load_known 45 (.tmp 29) rfl rfl _ _ rfl hld ?_) | (at_builtin; (refine wpList_app Tryz.sEnts (ORow.any (own_ext HOWN.out hxx)) (.tmp 26) (.tmp 31) rfl rfl rfl (news_blk hnb) (news := [.string x, .string y]) (two_one _ _) rfl rfl hm1 hm2 ?_; intro lv' w' r1 r2 r3)))
        have HAP := Lib.hid (HR.out.app HPX.out HPF.out HN.out.symm (HE2.out.trans hxx) r1 r2 r3)
        obtain ⟨ad', cp', rfl⟩ := r1.sl
        clear r1 r2 r3 hxx hnb hld
        go_wp2_with fail
        go_roundw
        case rel => exact ⟨i + 1, by simpa using HAP.out⟩
        case measure => simp [intOf]; omega
    · have b1 : ¬ (i : Int) < (E.length : Int) := by omega
      have HF := Lib.hid (show (E.take i).filter P = E.filter P by rw [List.take_of_length_le (by omega)])
      go_wp2_with fail
      go_ret
      exact ⟨_, rfl, by have h := HR.out.row; rw [HF.out] at h; exact ⟨h.own, fun b hb => Nat.le_trans HE1.out.size (h.new b hb)⟩, HE1.out.trans HR.out.ext⟩
end
end Go.Proofs.YtneojlgbcaejmaaGreatDoor
/- law 09: CursorSteps, its walk. -/
namespace Go.Proofs.YtneojlgbcaejmaaGreatDoor
section
open Go Go.RowKit
set_option linter.unusedSimpArgs false
set_option linter.unusedVariables false
attribute [local go_sem] Oper.semAt_some
theorem wpList_bin_w {P : Program} {w : World} {ops : Array Oper} {rest : List Oper} {o : Oper} {a : Act} {Q : Exit → Act → World → Prop} {b : BinOp} {T T' : TypeId} (x y : Operand) (ho : o.op = .binOp b T x y T') (hw : Region.wanted o (yielded ops a.tmps) = true) (vx vy v : Value) (hx : a.eval x = vx) (hy : a.eval y = vy)
    (hg : (eqGuard b T x y vx vy).run P w = .ok () w) (hr : (binOp b T vx vy).run P w = .ok v w) (h : wpList P ops Q rest (a.put o.dst v) w) : wpList P ops Q (o :: rest) a w := by
  unfold wpList
  rw [if_pos hw]
  refine .inl (wp_value (v := v) (w' := w) ?_ h)
  simp only [execOp, ho, hx, hy, Sem.run_bind, hg, hr, Result.andThen, Sem.run_pure]
theorem eql_pair (x y x' y' : ByteArray) (w : World) : (binOp .eql 45 (.agg #[.string x, .string y]) (.agg #[.string x', .string y'])).run Tryz.prog w = .ok (.bool (x == x' && y == y')) w := by
  obtain ⟨f, g, h0, h1, h2, h3, h4, h5, h6⟩ := fields2 Tryz.entFields
  have hp1 : ∀ (u v : Value) w, (part 9 #[u, v] 0).run Tryz.prog w = .ok u w := fun u v w => by
    simp [part, Sem.run_bind, Tryz.strAgg, Result.andThen, Sem.run_pure]
  have hp2 : ∀ (u v : Value) w, (part 9 #[u, v] 1).run Tryz.prog w = .ok v w := fun u v w => by
    simp [part, Sem.run_bind, Tryz.strAgg, Result.andThen, Sem.run_pure]
  have he : ∀ d, (Op.equalIn (d + 2) 45 (.agg #[.string x, .string y]) (.agg #[.string x', .string y'])).run Tryz.prog w = .ok (x == x' && y == y') w := fun d => by
    rw [Op.equalIn]
    simp only [Sem.run_bind, run_underlying h0, Result.andThen]
    simp [Sem.run_bind, Result.andThen, Sem.run, Tryz.entHeld, h1, h2, h3, h4, h5, h6, hp1, hp2, eqStr]
    cases (x == x') with
    | false => simp [Sem.run_pure]
    | true =>
      simp [Sem.run_bind, Result.andThen, Sem.run, Tryz.entHeld, h1, h2, h3, h4, h5, h6, hp1, hp2, eqStr]
      cases (y == y') <;> simp [Sem.run_pure]
  have he' : (Op.equal 45 (.agg #[.string x, .string y]) (.agg #[.string x', .string y'])).run Tryz.prog w = .ok (x == x' && y == y') w := he 9998
  simp only [binOp, Sem.run_bind, he', Result.andThen, Sem.run_pure]
def StepR (S : List Nd5) (c s : Nat) (fr : ByteArray) (W : World) (v : Value) (E : List Pair) (iv : Value) (wr : World) : Prop := ∃ i v', i ≤ E.length ∧ iv = .int .i64 ((i : Nat) : Int) ∧ CurTo S c s fr W v wr v' (rowsL (E.drop i))
set_option maxRecDepth 100000 in
set_option maxHeartbeats 8000000 in
theorem steps_c (w : World) (hc : Cubes w) (v : Value) (l : List Pair) (hv : RdP w v l) (hn : l.length ≤ 9223372036854775807) (hs : SmallP l) (fr : ByteArray) (hfr : fr.size ≤ 9223372036854775807) :
    Calls Tryz.prog 4 #[v, .string fr] w fun e w' => e = .returned (.bool true) ∧ Ext w w' := by
  have HC := Lib.hid hc
  have HV := Lib.hid hv
  have HS := Lib.hid hs
  have HN := Lib.hid hn
  obtain ⟨ad, c, hsl⟩ := hv.sl
  subst hsl
  clear hc hv hs hn
  go_enter Tryz.func4, Tryz.ntmps4
  go_wp2_with fail
  refine (works9_c w HC.out).mono ?_
  rintro e w1 ⟨rfl, hE⟩
  have HE1 := Lib.hid hE
  clear hE
  go_wp2_with fail
  refine (hold08_c w1 (HC.out.ext HE1.out) _ l (HV.out.ext HE1.out) HN.out HS.out).mono ?_
  rintro e w2 (⟨rfl, hE, hno⟩ | ⟨s, bm, S, rfl, hE, hS, hM, hk, _, _⟩)
  · have HE2 := Lib.hid (HE1.out.trans hE)
    clear hE hno
    go_wp2_with fail
    go_ret
    exact ⟨rfl, HE2.out⟩
  have HE2 := Lib.hid (HE1.out.trans hE)
  have HS2 := Lib.hid hS
  have HM := Lib.hid hM
  obtain ⟨rt, hrt⟩ : ∃ rt, rt = shaB (trieT l).text := ⟨_, rfl⟩
  have HRT := Lib.hid hrt
  rw [← hrt]
  clear hE hS hM hk hrt
  by_cases hf50 : fr.size ≤ 50
  case neg =>
    have b0 : (50 : Int) < (fr.size : Int) := by omega
    go_wp2_with fail
    go_ret
    exact ⟨rfl, HE2.out⟩
  have b0 : ¬ (50 : Int) < (fr.size : Int) := by omega
  go_wp2_with fail
  obtain ⟨E, hEd⟩ : ∃ E, E = fromL fr l := ⟨_, rfl⟩
  have HED := Lib.hid hEd
  have hEl : E.length ≤ 40 := by
    rw [hEd]; unfold fromL
    exact Nat.le_trans (List.length_filter_le _ _) (check_ok HM.out.ok).len
  have HPS := Lib.hid (path_size fr)
  have hsk := seek_c w2 s bm 2000 S fr l (by omega) HM.out HS2.out
  rw [← HRT.out] at hsk
  refine hsk.mono ?_
  rintro e w3 ⟨c, vc, rfl, hc1, hc2, hE, hC⟩
  rw [rest_from, ← HED.out] at hC
  have HX23 := Lib.hid hE
  have HE3 := Lib.hid (HE2.out.trans hE)
  have HS3 := Lib.hid (HS2.out.ext hE)
  have HCN := Lib.hid (And.intro hc1 hc2)
  have HC3 := Lib.hid hC
  clear hsk hE hC hc1 hc2 hEd
  go_wp2_with fail
  have hfm := from_c w3 _ l fr (HV.out.ext HE3.out) (by have := (check_ok HM.out.ok).len; omega) HS.out (by omega)
  rw [← HED.out] at hfm
  refine hfm.mono ?_
  rintro e w4 ⟨wv, rfl, hW, hE⟩
  obtain ⟨wa, wc, hsl⟩ := row_slice hW.own
  subst hsl
  have HW4 := Lib.hid hW
  have HX24 := Lib.hid (HX23.out.trans hE)
  have HC4 := Lib.hid (HC3.out.ext hE)
  have HS4 := Lib.hid (HS3.out.ext hE)
  have HLT := Lib.hid HC3.out.lt
  clear hfm hE hW HS3 HC3 HX23 HE3
  go_wp2_with fail
  go_loopw [11] (fun iv wr => StepR S c s (pathB fr) w4 vc E iv wr) (fun iv _ => E.length - (intOf iv).toNat)
  case atStart => exact ⟨0, vc, by omega, rfl, CurTo.refl HC4.out⟩
  case round =>
    obtain ⟨i, v', hi, rfl, hT⟩ := hrel
    have HT := Lib.hid hT
    clear hT
    by_cases hlt : i < E.length
    · have b1 : (i : Int) < (E.length : Int) := by omega
      obtain ⟨D, hD⟩ : ∃ D, D = E.drop i := ⟨_, rfl⟩
      obtain ⟨⟨x, y⟩, hq⟩ : ∃ q, E[i]? = some q := ⟨_, List.getElem?_eq_getElem hlt⟩
      obtain ⟨D', hDD⟩ : ∃ D', D = (x, y) :: D' := ⟨E.drop (i + 1), by
        obtain ⟨h1, e1⟩ := List.getElem?_eq_some_iff.1 hq
        rw [hD, List.drop_eq_getElem_cons h1, e1]⟩
      have HD := Lib.hid (show E.drop (i + 1) = D' by
        have e := congrArg List.tail (hD.symm.trans hDD)
        simpa using e)
      have HT' := HT.out
      rw [← hD, hDD] at HT'
      have HT5 := Lib.hid HT'
      have HQ := Lib.hid hq
      clear hD hDD HT' hq
      go_wp2_with fail
      refine (cPeek_c wr c s bm 2000 S (pathB fr) (rowsL ((x, y) :: D')) v' (by have := HPS.out; omega) HT5.out.at' (HC4.out.store HS4.out HT5.out.kp.1)).mono ?_
      rintro e w5 ⟨rfl, v5, hT5⟩
      rw [peekV_rows]
      unfold peekE
      have HT6 := Lib.hid (HT5.out.trans hT5)
      clear hT5 HT5
      go_wp2_with fail
      refine (cNext_c w5 c s bm 2000 S (pathB fr) (rowsL ((x, y) :: D')) v5 (by have := HPS.out; omega) HT6.out.at' (HC4.out.store HS4.out HT6.out.kp.1)).mono ?_
      rintro e w6 ⟨rfl, v6, hT6⟩
      rw [nextV_rows]
      unfold nextE
      rw [rowsL_tail] at hT6
      have HT7 := Lib.hid (HT6.out.trans hT6)
      clear hT6 HT6
      go_wp2_with fail
      obtain ⟨w7, hw7⟩ : ∃ w7, w7 = w6.alloc (.cells #[.string x, .string y] 45) := ⟨_, rfl⟩
      have hX7 : Ext w6 w7 := by rw [hw7]; exact (ExtR w6).alloc _
      have hB7 : Blk w7 w6.heap.size (.cells #[.string x, .string y] 45) := by rw [hw7]; exact Blk.new w6 _
      rw [← hw7]
      have HT8 := Lib.hid (HT7.out.other hX7 (fun x h => h.elim))
      have hW7 := HW4.out.keeps HT8.out.kp.1 (fun b hb e => by
        have h1 := HW4.out.new b hb
        have h2 := HLT.out
        rcases e with e | e
        · omega
        · have := h2.2 b e; omega)
      obtain ⟨g, cap, hsl, _, _, hcell⟩ := hW7.open (fun e => by rw [e] at hlt; simp at hlt)
      cases hsl
      obtain ⟨e1, e2⟩ := cellsP_get E i (x, y) HQ.out
      have q1 := hcell _ _ e1
      have q2 := hcell _ _ e2
      rw [Addr.add_lit, Nat.zero_add] at q1 q2
      have HLA := Lib.hid (show ∀ w1, Ext w7 w1 → (Instr.loadAt 45 (.pointer (some ⟨w6.heap.size, 0, none⟩))).run Tryz.prog w1 = .ok (.agg #[.string x, .string y]) w1 from fun w1 h1 => load_pair (cell_ext (hB7.cell (i := 0) (by rfl)) h1) (cell_ext (hB7.cell (i := 1) (by rfl)) h1))
      have HLB := Lib.hid (show ∀ w1, Ext w7 w1 → (Instr.loadAt 45 (.pointer (some ⟨g, i * 2, none⟩))).run Tryz.prog w1 = .ok (.agg #[.string x, .string y]) w1 from fun w1 h1 => load_pair (cell_ext q1 h1) (cell_ext q2 h1))
      have HQ1 := Lib.hid (show ∀ w1, Ext w7 w1 → (Instr.loadAt 9 (.pointer (some ⟨g, i * 2, none⟩))).run Tryz.prog w1 = .ok (.string x) w1 from fun w1 h1 => run_load_plain Tryz.uStr rfl (cell_ext q1 h1))
      have hnp := fun w => neq_pair x y x y w
      rw [show (x == x && y == y) = true from (eqP_iff (x, y) (x, y)).2 rfl] at hnp
      have HNP := Lib.hid hnp
      have hxx : (x == x) = true := by rw [ba_beq]; exact decide_eq_true rfl
      have hxn : (x != x) = false := by unfold bne; rw [hxx]; rfl
      clear hX7 hB7 hW7 hcell e1 e2 q1 q2 hnp hw7 HT7
      refine wp_region_mixK [0,1,2,3,4,5,6,7,8,9,10,11,12,13,14,15,16,17,18,19,20,21,22] Ext ExtR ExtT (by kernel_rfl) (by kernel_rfl) (by kernel_rfl) ?_
      iterate 5 (refine mixk_pure _ rfl (by kernel_rfl) rfl rfl (fun K hK => ?_); go_big_quiet_op; refine hK _ ?_; clear hK K)
      refine mixk_load ⟨g, i * 2, none⟩ _ rfl (by kernel_rfl) rfl rfl (fun w1 h1 => HQ1.out w1 ((drewE w7).trans h1)) ?_
      simp only [Act.put, List.setIfInBounds_toArray, List.set_cons_zero, List.set_cons_succ]
      iterate 6 (refine mixk_pure _ rfl (by kernel_rfl) rfl rfl (fun K hK => ?_); go_big_quiet_op; refine hK _ ?_; clear hK K)
      refine mixk_load ⟨w6.heap.size, 0, none⟩ _ rfl (by kernel_rfl) rfl rfl (fun w1 h1 => HLA.out w1 ((drewE w7).trans h1)) ?_
      simp only [Act.put, List.setIfInBounds_toArray, List.set_cons_zero, List.set_cons_succ]
      iterate 3 (refine mixk_pure _ rfl (by kernel_rfl) rfl rfl (fun K hK => ?_); go_big_quiet_op; refine hK _ ?_; clear hK K)
      refine mixk_load ⟨g, i * 2, none⟩ _ rfl (by kernel_rfl) rfl rfl (fun w1 h1 => HLB.out w1 ((drewE w7).trans h1)) ?_
      simp only [Act.put, List.setIfInBounds_toArray, List.set_cons_zero, List.set_cons_succ]
      refine mixk_val _ (.bool false) rfl (by kernel_rfl) rfl (fun w1 h1 => exec_bin rfl rfl (by kernel_rfl) (HNP.out w1)) ?_
      simp only [Act.put, List.setIfInBounds_toArray, List.set_cons_zero, List.set_cons_succ]
      iterate 5 (refine mixk_pure _ rfl (by kernel_rfl) rfl rfl (fun K hK => ?_); go_big_quiet_op; refine hK _ ?_; clear hK K)
      refine mixk_end (by kernel_rfl) (fun w8 he => ?_)
      have HT9 := Lib.hid (HT8.out.other ((drewE w7).trans he) (fun x h => h.elim))
      clear he HT8 HLA HLB HQ1
      go_wp2_with fail
      go_roundw
      case rel => exact ⟨i + 1, v6, by omega, by go_num, by rw [HD.out]; exact HT9.out⟩
      case measure => simp [intOf]; omega
    · have b1 : ¬ (i : Int) < (E.length : Int) := by omega
      have HT5 := Lib.hid (show CurTo S c s (pathB fr) w4 vc wr v' (rowsL []) by have h := HT.out; rwa [List.drop_of_length_le (by omega)] at h)
      clear HT
      go_wp2_with fail
      refine (cPeek_c wr c s bm 2000 S (pathB fr) (rowsL []) v' (by have := HPS.out; omega) HT5.out.at' (HC4.out.store HS4.out HT5.out.kp.1)).mono ?_
      rintro e w5 ⟨rfl, v5, hT5⟩
      rw [peekV_rows]
      unfold peekE
      have HT6 := Lib.hid (HT5.out.trans hT5)
      clear hT5 HT5
      go_wp2_with fail
      refine (cNext_c w5 c s bm 2000 S (pathB fr) (rowsL []) v5 (by have := HPS.out; omega) HT6.out.at' (HC4.out.store HS4.out HT6.out.kp.1)).mono ?_
      rintro e w6 ⟨rfl, v6, hT6⟩
      rw [nextV_rows]
      unfold nextE
      rw [rowsL_tail] at hT6
      have HT7 := Lib.hid (HT6.out.trans hT6)
      clear hT6 HT6
      go_wp2_with fail
      obtain ⟨w7, hw7⟩ : ∃ w7, w7 = w6.alloc (.cells #[.string ⟨#[]⟩, .string ⟨#[]⟩] 45) := ⟨_, rfl⟩
      have hX7 : Ext w6 w7 := by rw [hw7]; exact (ExtR w6).alloc _
      have HB7 := Lib.hid (show Blk w7 w6.heap.size (.cells #[.string ⟨#[]⟩, .string ⟨#[]⟩] 45) by rw [hw7]; exact Blk.new w6 _)
      rw [← hw7]
      have HT8 := Lib.hid (HT7.out.other hX7 (fun x h => h.elim))
      clear hX7 hw7
      refine (cNext_c w7 c s bm 2000 S (pathB fr) (rowsL []) v6 (by have := HPS.out; omega) HT8.out.at' (HC4.out.store HS4.out HT8.out.kp.1)).mono ?_
      rintro e w8 ⟨rfl, v8, hT8⟩
      rw [nextV_rows]
      unfold nextE
      have hlt6 := HT7.out.at'.lt
      have hB8 := HB7.out.keeps hT8.kp.1 (fun e => by
        rcases e with e | e
        · have := hlt6.1; omega
        · have := hlt6.2 _ e; omega)
      have hX9 : Ext w8 (w8.alloc (.cells #[.string ⟨#[]⟩, .string ⟨#[]⟩] 45)) := (ExtR w8).alloc _
      have hB9 := hB8.keeps hX9 (fun h => h)
      have hB10 : Blk (w8.alloc (.cells #[.string ⟨#[]⟩, .string ⟨#[]⟩] 45)) w8.heap.size (.cells #[.string ⟨#[]⟩, .string ⟨#[]⟩] 45) := Blk.new w8 _
      have hld1 := load_pair (b := w6.heap.size) (o := 0) (hB9.cell (i := 0) (by rfl)) (hB9.cell (i := 1) (by rfl))
      have hld2 := load_pair (b := w8.heap.size) (o := 0) (hB10.cell (i := 0) (by rfl)) (hB10.cell (i := 1) (by rfl))
      have heq := eql_pair ⟨#[]⟩ ⟨#[]⟩ ⟨#[]⟩ ⟨#[]⟩ (w8.alloc (.cells #[.string ⟨#[]⟩, .string ⟨#[]⟩] 45))
      have HT9 := Lib.hid ((HT8.out.trans hT8).other hX9 (fun x h => h.elim))
      clear hT8 HT8 hlt6 HB7 hB8 hB9 hB10 hX9 HT7
      go_wp2_with (first | (refine wpList_load_known 45 (.tmp 18) rfl rfl _ _ rfl hld1 ?_) | (refine wpList_load_known 45 (.tmp 20) rfl rfl _ _ rfl hld2 ?_) | (refine wpList_bin_w (.tmp 118) (.tmp 119) rfl rfl _ _ _ rfl rfl (by kernel_rfl) heq ?_) | (refine wpList_bin_w (.tmp 127) (.tmp 128) rfl rfl _ _ _ rfl rfl (by kernel_rfl) heq ?_))
      go_ret
      refine ⟨rfl, HE2.out.trans (SeekP.ext HCN.out.1 HCN.out.2 HX24.out HT9.out)⟩
end
end Go.Proofs.YtneojlgbcaejmaaGreatDoor
/- CursorSteps, the card: the law is true for every input. -/
namespace Go.Proofs.YtneojlgbcaejmaaGreatDoor
section
open Go Go.ChangeShapes Go.WideShapes Go.ChangeAt Go.RowKit Go.ChangeMaps
set_option linter.unusedSimpArgs false
set_option linter.unusedVariables false
set_option maxRecDepth 100000 in
theorem cursorSteps_contract (H : Type) (enc : TypeId × Value → H) (W : World) (base : Nat) (args : Array Value) (ds gs : List (DataW H)) (before : List MemPlace)
    (hval : ∀ (j : Nat) t v, Tryz.f4.params[j]? = some t → args[j]? = some v → Value.okWide Tryz.prog W .any base t v)
    (hW : DataW.Whole enc Tryz.prog Tryz.f4.params.toList Rows.cursorStepsSpec.vars false W args.toList ds gs before) (hL : laidMetH Tryz.prog Rows.cursorStepsRow.laid W) :
    Calls Tryz.prog 4 args W fun e W' => ∃ v, e = .returned v ∧ Rows.cursorStepsSpec.post enc Tryz.prog Tryz.f4 false true false false W args v W' := by
  have hW' := hW
  obtain ⟨p, q, hA0, hV, rfl, hfz, hnd⟩ := hW
  have hA : DataW.TrodAll enc Tryz.prog W 0 (fun _ => true) true Tryz.f4.params.toList args.toList ds p := hA0
  rw [Tryz.params4] at hA hval
  obtain ⟨v0, v1, d0, d1, p0, p1, rfl, rfl, rfl, h0, h1⟩ := trodAll_two hA
  obtain ⟨rfl, rfl⟩ := trodVars_none hV
  obtain ⟨l0, hl0, hn0, hs0⟩ := open_entries (okWide_slice Tryz.underlying22 (hval 0 22 v0 rfl rfl)) h0
  obtain ⟨s1, rfl, rfl, rfl, ws1⟩ := open_string Tryz.underlying9 (hval 1 9 v1 rfl rfl) h1
  have hk1 := Nat.le_trans ws1 maxLen_big
  clear hA0
  simp only [List.append_nil, List.nil_append] at hW'
  have hlt : ∀ x ∈ p0, x.block < W.heap.size := fun x hx => by simpa using hW'.lt x (by simpa using hx)
  refine (steps_c W (cubes_of hL) v0 l0 hl0 hn0 hs0 s1 hk1).mono fun e W' ⟨he, hE⟩ => ?_
  subst he
  have hb : Below W.heap.size W W' := ⟨hE.os, hE.tape, hE.output, hE.size, fun k hk => hE.block k hk (fun h => h)⟩
  have hres : DataW.TrodAll enc Tryz.prog W' 0 (fun b => decide (b < W.heap.size)) true [22, 9] [v0, .string s1] [d0, .lit (.string s1.data.toList)] (p0) := by
    simpa using trodAll_mk2 (Below.trod Tryz.laidOutK (by kernel_rfl) (of_decide_eq_true (by kernel_rfl)) h0 hb (fun x hx => hlt x (by simp [hx]))) (shut_string Tryz.underlying9 ws1)
  refine ⟨_, rfl, _, _, _, [], p0, [], hW', trodAll_mk1 (shut_bool Tryz.underlying4 _), ?_, rfl, hb.frame _, fun h => by cases h⟩
  exact hres
set_option maxRecDepth 100000 in
theorem cursorSteps_reads (os : Os) {H : Type} (enc : TypeId × Value → H) : ∃ places, DataW.whole enc Tryz.prog ((laidWorld os).forCall (fun _ _ => 0) ⟨#[], #[.slice none 0 0, .string ⟨#[]⟩], []⟩).memory Tryz.f4.params.toList Rows.cursorStepsSpec.vars false #[.slice none 0 0, .string ⟨#[]⟩].toList 8 = some ([.nil, .lit (.string [])], [], places) :=
  ⟨[], by kernel_rfl⟩
set_option maxRecDepth 100000 in
theorem cursorSteps_lifted (os : Os) (started : os.Started) (H : Type) (enc : TypeId × Value → H) (F : Stop.Interp) :
    ReturnsInHanded {} Tryz.checked os 4 .any ((OpenSpec.ofChange Rows.cursorStepsSpec).preRow enc Tryz.prog Tryz.f4 Rows.cursorStepsRow.domain false Rows.cursorStepsRow.laid) (((OpenSpec.ofChange Rows.cursorStepsSpec).at F).post enc Tryz.prog Tryz.f4 false true false false) := by
  obtain ⟨places, hx⟩ := cursorSteps_reads os enc
  refine returnsInHanded_of_row (C := Tryz.checked) (s := OpenSpec.ofChange Rows.cursorStepsSpec) Tryz.ownK started (by kernel_rfl) Tryz.func4
    (witness_row_at (enc := enc) (C := Tryz.checked) false (laidWorld os) #[.slice none 0 0, .string ⟨#[]⟩] rfl (by kernel_rfl) (by kernel_rfl) (by kernel_rfl)
      (OpenSpec.preRow_of_cond 8 hx (by kernel_rfl) (fun k hk => by cases hk) (by kernel_rfl) (laid_met os _))) ?_
  intro W base args ds gs before hval hW _ _ _ hL _ _
  exact cursorSteps_contract H enc W base args ds gs before hval hW hL
theorem cursorSteps_said : Rows.CursorStepsSaid :=
  OpenClaim.holds_of_cond 4 Tryz.f4 rfl rfl rfl rfl rfl rfl rfl ⟨rfl, rfl, rfl, rfl, rfl⟩ rfl rfl rfl rfl rfl (by kernel_rfl) Tryz.func4 (by kernel_rfl)
    (of_decide_eq_true (by kernel_rfl)) (by unfold Func.isWrapper; first | (rw [if_pos (by decide +kernel)]; kernel_rfl) | (rw [if_neg (by decide +kernel)]; exact ⟨rfl, rfl⟩))
    (fun os started H enc _ F => by rw [OpenClaim.pre_eq_preRow]; exact cursorSteps_lifted os started H enc F)
theorem cursorStepsCard_holds : Rows.CursorStepsCardSaid :=
  Claim7.holds_tied_plain_at .later [] [.handle, .data] true (true, "d2c66192a8206f233295009093e67126f72cb59b0c21e1b9761392474d37febc") true
    cursorSteps_said (fun _ h => by cases h) (by kernel_rfl) (fun _ h => by cases h) cursorSteps_row_tie rfl ⟨rfl, rfl⟩ (by kernel_rfl) rfl
    (fun f fn hf hfn => by
      obtain rfl : f = 4 := Option.some.inj ((show Tryz.prog.funcNamed "guilloche/guillochelaw09.CursorSteps" = some 4 by kernel_rfl).symm.trans hf) |>.symm
      obtain rfl : fn = Tryz.f4 := (Option.some.inj (Tryz.func4.symm.trans hfn)).symm
      exact ⟨by kernel_rfl, fun j t ht => by
        rw [Tryz.params4] at ht
        have hm : t ∈ [22, 9] := by simpa using Array.mem_of_getElem? ht
        have hall : ([22, 9].all fun u => !Tryz.prog.wantsStandIn u) = true := by kernel_rfl
        exact (show Tryz.prog.wantsStandIn t = false by simpa using List.all_eq_true.1 hall t hm)⟩)
    (by kernel_rfl)
end
end Go.Proofs.YtneojlgbcaejmaaGreatDoor
