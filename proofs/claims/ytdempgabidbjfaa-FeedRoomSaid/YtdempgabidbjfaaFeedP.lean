/- The feed's laws: the arguments, and FeedForgets. -/
import Derived.Test.YtdempgabidbjfaaRows
import Derived.Test.YtdempgabidbjfaaFeedN
import Derived.WalkKit
import Derived.ProofKit
import Derived.OpenShut
import Derived.JoinedCond
import Derived.Deep.Slices
namespace Go.Proofs.Ytdempgabidbjfaa
open Go Go.ChangeShapes Go.WideShapes Go.ChangeAt Go.RowKit Go.Deep
set_option linter.unusedSimpArgs false
set_option linter.unusedVariables false

theorem Try.ownK : ownKnob Try.prog.godebug = none := by kernel_rfl
theorem Try.laidOutK : laidOutB Try.prog = true := by kernel_rfl
theorem Try.cellsAct : Try.prog.cellsOf 36 = 4 := by kernel_rfl
theorem Try.cellsInt : Try.prog.cellsOf 3 = 1 := by kernel_rfl
theorem Try.cellsStr : Try.prog.cellsOf 9 = 1 := by kernel_rfl

theorem str_of (s : ByteArray) : Value.string s = str s.data.toList := by
  unfold str; congr 1

theorem wf_range {x : Int} (h : (Lit.int .i64 x).wf = true) : -9223372036854775808 ≤ x ∧ x ≤ 9223372036854775807 := by
  simpa [Lit.wf, IntKind.min, IntKind.max, IntKind.signed, IntKind.bits] using h

section
variable {H : Type} {enc : TypeId × Value → H} {w : World} {base : Nat} {spare : Nat → Bool} {held : Bool}
/-- One act's cells. -/
theorem open_act {n : Nat} {a : Addr} {cs : List Value} {x : DataW H × List MemPlace} (hc : w.cells? base a 4 = some cs) (h : DataW.trod enc Try.prog w base spare held n 36 cs = some x) :
    ∃ act : Int × Int × Int × List UInt8, w.cell? (a.add 0) = some (.int .i64 act.1) ∧ w.cell? (a.add 1) = some (.int .i64 act.2.1) ∧ w.cell? (a.add 2) = some (.int .i64 act.2.2.1) ∧ w.cell? (a.add 3) = some (str act.2.2.2) ∧
      (-9223372036854775808 ≤ act.2.1 ∧ act.2.1 ≤ 9223372036854775807) := by
  obtain ⟨_, hl, hg⟩ := World.cells?_some hc
  obtain ⟨xs, m, _, _, _, hxl, hf⟩ := DataW.trod_struct Try.underlying36 h
  match cs, hl with
  | [c0, c1, c2, c3], _ =>
    have f0 : DataW.trod enc Try.prog w base spare held m 3 (([c0, c1, c2, c3].drop 0).take (Try.prog.cellsOf 3)) = xs[0]? := hf 0 _ rfl
    have f1 : DataW.trod enc Try.prog w base spare held m 3 (([c0, c1, c2, c3].drop 1).take (Try.prog.cellsOf 3)) = xs[1]? := hf 1 _ rfl
    have f2 : DataW.trod enc Try.prog w base spare held m 3 (([c0, c1, c2, c3].drop 2).take (Try.prog.cellsOf 3)) = xs[2]? := hf 2 _ rfl
    have f3 : DataW.trod enc Try.prog w base spare held m 9 (([c0, c1, c2, c3].drop 3).take (Try.prog.cellsOf 9)) = xs[3]? := hf 3 _ rfl
    rw [Try.cellsInt] at f0 f1 f2
    rw [Try.cellsStr] at f3
    dsimp only [List.drop, List.take] at f0 f1 f2 f3
    have hx : ∀ i, i < 4 → ∃ y, xs[i]? = some y := fun i hi => ⟨_, List.getElem?_eq_getElem (by rw [hxl]; exact hi)⟩
    obtain ⟨y0, e0⟩ := hx 0 (by omega)
    obtain ⟨y1, e1⟩ := hx 1 (by omega)
    obtain ⟨y2, e2⟩ := hx 2 (by omega)
    obtain ⟨y3, e3⟩ := hx 3 (by omega)
    rw [e0] at f0
    rw [e1] at f1
    rw [e2] at f2
    rw [e3] at f3
    obtain ⟨k, q0, _, _⟩ := DataW.trod_int Try.underlying3 f0
    obtain ⟨s, q1, _, ws⟩ := DataW.trod_int Try.underlying3 f1
    obtain ⟨b, q2, _, _⟩ := DataW.trod_int Try.underlying3 f2
    obtain ⟨r, q3, _, _⟩ := DataW.trod_string Try.underlying9 f3
    simp only [List.cons.injEq, and_true] at q0 q1 q2 q3
    subst q0 q1 q2 q3
    exact ⟨(k, s, b, r.data.toList), hg 0 (by omega), hg 1 (by omega), hg 2 (by omega), by rw [hg 3 (by omega), ← str_of]; rfl, wf_range ws⟩

theorem open_acts {v : Value} {d : DataW H} {p : List MemPlace} (hv : ∃ a n c, v = .slice a n c) (h : DataW.Trod enc Try.prog w 0 spare held 22 v d p) : ∃ n acts, ActsAt w v n acts := by
  obtain ⟨a0, n0, c0, rfl⟩ := hv
  obtain ⟨fuel, hf⟩ := h
  rcases open_slice Try.underlying22 hf with ⟨hcs, _⟩ | ⟨a, len, cap, m, n, D, Pl, hcs, _, hl, hm, hmm, _, hi⟩
  · simp only [Value.cells] at hcs
    have hcs' : Value.slice a0 n0 c0 = .slice none 0 0 := by simpa using hcs
    rw [hcs']
    exact ⟨0, fun _ => (0, 0, 0, []), none, 0, rfl, by unfold maxLen; omega, fun i h => by omega⟩
  · have hcs' : Value.slice a0 n0 c0 = .slice (some a) len cap := by simpa [Value.cells] using hcs
    rw [hcs']
    have hlm : len ≤ m := by rw [hmm]; split <;> omega
    have hact : ∀ i, i < len → ∃ act : Int × Int × Int × List UInt8, w.cell? ((a.add (i * 4)).add 0) = some (.int .i64 act.1) ∧ w.cell? ((a.add (i * 4)).add 1) = some (.int .i64 act.2.1) ∧ w.cell? ((a.add (i * 4)).add 2) = some (.int .i64 act.2.2.1) ∧ w.cell? ((a.add (i * 4)).add 3) = some (str act.2.2.2) ∧
      (-9223372036854775808 ≤ act.2.1 ∧ act.2.1 ≤ 9223372036854775807) := fun i hi' => by
      obtain ⟨cs', h1, h2⟩ := hi i (by omega)
      rw [Try.cellsAct] at h1
      exact open_act h1 h2
    obtain ⟨acts, hacts⟩ : ∃ acts : Nat → Int × Int × Int × List UInt8, ∀ i, i < len → w.cell? ((a.add (i * 4)).add 0) = some (.int .i64 (acts i).1) ∧ w.cell? ((a.add (i * 4)).add 1) = some (.int .i64 (acts i).2.1) ∧ w.cell? ((a.add (i * 4)).add 2) = some (.int .i64 (acts i).2.2.1) ∧ w.cell? ((a.add (i * 4)).add 3) = some (str (acts i).2.2.2) ∧
        (-9223372036854775808 ≤ (acts i).2.1 ∧ (acts i).2.1 ≤ 9223372036854775807) :=
      ⟨fun i => if h : i < len then Classical.choose (hact i h) else (0, 0, 0, []), fun i h => by simp only [h, dif_pos]; exact Classical.choose_spec (hact i h)⟩
    clear hact hi
    refine ⟨len, acts, some a, cap, rfl, Nat.le_trans hl hm, fun i hi' => ?_⟩
    have hspot : a.spot = none := by simpa [Addr.add] using World.cell?_spot (hacts 0 (by omega)).1
    obtain ⟨h0, h1, h2, h3, h4⟩ := hacts i hi'
    obtain ⟨b, o, sp⟩ := a
    dsimp only at hspot
    subst hspot
    rw [Go.Deep.add_add, Go.WideShapes.add_plain] at h0 h1 h2 h3
    exact ⟨b, o, rfl, World.block_lt_of_cell? w _ h0, h0, h1, h2, h3, h4⟩
end

set_option maxRecDepth 100000 in
theorem forgets_lifted (os : Os) (started : os.Started) (H : Type) (enc : TypeId × Value → H) :
    ReturnsInHanded {} Try.checked os 5 .any (Rows.feedForgetsSpec.pre6 enc Try.prog Try.f5 Rows.feedForgetsRow.domain false) (Rows.feedForgetsSpec.post enc Try.prog Try.f5 false true false false) := by
  refine returnsInHanded_of_change (C := Try.checked) Try.ownK started (by kernel_rfl) Try.func5
    (ChangeSpec.witness6 (enc := enc) (C := Try.checked) false ⟨#[], #[.int .i64 0, .slice none 0 0, .int .i64 0], []⟩ 8 (by kernel_rfl) (by kernel_rfl) (by kernel_rfl) (by kernel_rfl)) ?_
  intro W base args ds gs before hval0 hW hcnd _
  have hval : ∀ (j : Nat) t v, Try.f5.params[j]? = some t → args[j]? = some v → Value.okWide Try.prog W .any base t v := hval0
  have hW' := hW
  obtain ⟨p, q, hA0, hV, rfl, hfz, hnd⟩ := hW
  have hA : DataW.TrodAll enc Try.prog W 0 (fun _ => true) true Try.f5.params.toList args.toList ds p := hA0
  rw [Try.params5] at hA hval
  obtain ⟨v0, v1, v2, d0, d1, d2, p0, p1, p2, rfl, rfl, rfl, h0, h1, h2⟩ := trodAll_three hA
  obtain ⟨rfl, rfl⟩ := trodVars_none hV
  obtain ⟨a, rfl, rfl, rfl, wa⟩ := open_int Try.underlying3 (hval 0 3 v0 rfl rfl) h0
  obtain ⟨s, rfl, rfl, rfl, ws⟩ := open_int Try.underlying3 (hval 2 3 v2 rfl rfl) h2
  have hsl := okWide_slice Try.underlying22 (hval 1 22 v1 rfl rfl)
  obtain ⟨n, acts, hacts⟩ := open_acts hsl h1
  clear hA0 hval0
  simp only [List.append_nil, List.nil_append] at hW'
  have hlt : ∀ x ∈ p1, x.block < W.heap.size := fun x hx => by simpa using hW'.lt x (by simpa using hx)
  refine (forgets_c hacts a s (wf_range ws)).mono fun e W' ⟨he, hb⟩ => ?_
  subst he
  have hres : DataW.TrodAll enc Try.prog W' 0 (fun b => decide (b < W.heap.size)) true [3, 22, 3] [.int .i64 a, v1, .int .i64 s] [.lit (.int .i64 a), d1, .lit (.int .i64 s)] p1 := by
    simpa using trodAll_mk3 (shut_int Try.underlying3 wa) (Below.trod Try.laidOutK (by kernel_rfl) (of_decide_eq_true (by kernel_rfl)) h1 hb hlt) (shut_int Try.underlying3 ws)
  refine ⟨_, rfl, _, _, _, [], p1, [], hW', trodAll_mk1 (shut_bool Try.underlying4 _), ?_, rfl, hb.frame _, fun h => by cases h⟩
  exact hres

theorem feedForgets_holds : Rows.FeedForgetsSaid :=
  OpenClaim.holds_of_wide 5 Try.f5 rfl rfl rfl rfl rfl rfl rfl ⟨rfl, rfl, rfl, rfl, rfl⟩ rfl rfl rfl rfl rfl (by kernel_rfl) Try.func5 (by kernel_rfl)
    (of_decide_eq_true (by kernel_rfl)) (by unfold Func.isWrapper; rw [if_neg (by decide +kernel)]; exact ⟨rfl, rfl⟩)
    (fun os started H enc _ => forgets_lifted os started H enc)
end Go.Proofs.Ytdempgabidbjfaa
