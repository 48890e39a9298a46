/- The feed's law FeedOthers, proved. -/
import Derived.Test.YtdempgabidbjfaaFeedO
import Derived.Test.YtdempgabidbjfaaFeedP
import Derived.Lib.SmallJoins
namespace Go.Proofs.Ytdempgabidbjfaa
open Go Go.ChangeShapes Go.WideShapes Go.ChangeAt Go.RowKit Go.Deep Go.Joins
set_option linter.unusedSimpArgs false
set_option linter.unusedVariables false

set_option maxRecDepth 100000 in
theorem others_lifted (os : Os) (started : os.Started) (H : Type) (enc : TypeId × Value → H) :
    ReturnsInHanded {} Try.checked os 4 .any (Rows.feedOthersSpec.pre6 enc Try.prog Try.f4 Rows.feedOthersRow.domain false) (Rows.feedOthersSpec.post enc Try.prog Try.f4 false true false false) := by
  refine returnsInHanded_of_change (C := Try.checked) Try.ownK started (by kernel_rfl) Try.func4
    (ChangeSpec.witness6 (enc := enc) (C := Try.checked) false ⟨#[], #[.int .i64 0, .slice none 0 0, .agg #[.int .i64 0, .int .i64 0, .int .i64 0, .string ⟨#[]⟩], .int .i64 0], []⟩ 8 (by kernel_rfl) (by kernel_rfl) (by kernel_rfl) (by kernel_rfl)) ?_
  intro W base args ds gs before hval0 hW hcnd _
  have hval : ∀ (j : Nat) t v, Try.f4.params[j]? = some t → args[j]? = some v → Value.okWide Try.prog W .any base t v := hval0
  have hW' := hW
  obtain ⟨p, q, hA0, hV, rfl, hfz, hnd⟩ := hW
  have hA : DataW.TrodAll enc Try.prog W 0 (fun _ => true) true Try.f4.params.toList args.toList ds p := hA0
  rw [Try.params4] at hA hval
  obtain ⟨v0, v1, v2, v3, d0, d1, d2, d3, p0, p1, p2, p3, rfl, rfl, rfl, h0, h1, h2, h3⟩ := trodAll_four hA
  obtain ⟨rfl, rfl⟩ := trodVars_none hV
  obtain ⟨a, rfl, rfl, rfl, wa⟩ := open_int Try.underlying3 (hval 0 3 v0 rfl rfl) h0
  obtain ⟨s, rfl, rfl, rfl, ws⟩ := open_int Try.underlying3 (hval 3 3 v3 rfl rfl) h3
  have hsl := okWide_slice Try.underlying22 (hval 1 22 v1 rfl rfl)
  obtain ⟨n, acts, hacts⟩ := open_acts hsl h1
  obtain ⟨c0, c1, c2, c3, y0, y1, y2, y3, m, hv2, _, _, hy0, hy1, hy2, hy3⟩ := open_agg4 Try.underlying36 (by kernel_rfl) Try.cellsAct (hval 2 36 v2 rfl rfl) h2
  obtain ⟨ka, e0, _, _⟩ := DataW.trod_int Try.underlying3 hy0
  obtain ⟨sa, e1, _, wsa⟩ := DataW.trod_int Try.underlying3 hy1
  obtain ⟨ba, e2, _, _⟩ := DataW.trod_int Try.underlying3 hy2
  obtain ⟨ra, e3, _, _⟩ := DataW.trod_string Try.underlying9 hy3
  simp only [List.cons.injEq, and_true] at e0 e1 e2 e3
  subst e0 e1 e2 e3 hv2
  clear hA0 hval0
  simp only [List.append_nil, List.nil_append] at hW'
  have hlt1 : ∀ x ∈ p1, x.block < W.heap.size := fun x hx => by simpa using hW'.lt x (by simp [hx])
  have hlt2 : ∀ x ∈ p2, x.block < W.heap.size := fun x hx => by simpa using hW'.lt x (by simp [hx])
  have hw := others_c hacts a s ka sa ba ra.data.toList (wf_range ws) (wf_range wsa)
  rw [← str_of] at hw
  refine hw.mono fun e W' ⟨he, hb⟩ => ?_
  subst he
  have hres : DataW.TrodAll enc Try.prog W' 0 (fun b => decide (b < W.heap.size)) true [3, 22, 36, 3] [.int .i64 a, v1, .agg #[.int .i64 ka, .int .i64 sa, .int .i64 ba, .string ra], .int .i64 s] [.lit (.int .i64 a), d1, d2, .lit (.int .i64 s)] (p1 ++ p2) := by
    simpa using trodAll_mk4 (shut_int Try.underlying3 wa) (Below.trod Try.laidOutK (by kernel_rfl) (of_decide_eq_true (by kernel_rfl)) h1 hb hlt1) (Below.trod Try.laidOutK (by kernel_rfl) (of_decide_eq_true (by kernel_rfl)) h2 hb hlt2) (shut_int Try.underlying3 ws)
  refine ⟨_, rfl, _, _, _, [], p1 ++ p2, [], hW', trodAll_mk1 (shut_bool Try.underlying4 _), ?_, rfl, hb.frame _, fun h => by cases h⟩
  exact hres

theorem feedOthers_holds : Rows.FeedOthersSaid :=
  OpenClaim.holds_of_wide 4 Try.f4 rfl rfl rfl rfl rfl rfl rfl ⟨rfl, rfl, rfl, rfl, rfl⟩ rfl rfl rfl rfl rfl (by kernel_rfl) Try.func4 (by kernel_rfl)
    (of_decide_eq_true (by kernel_rfl)) (by unfold Func.isWrapper; rw [if_neg (by decide +kernel)]; exact ⟨rfl, rfl⟩)
    (fun os started H enc _ => others_lifted os started H enc)
end Go.Proofs.Ytdempgabidbjfaa
