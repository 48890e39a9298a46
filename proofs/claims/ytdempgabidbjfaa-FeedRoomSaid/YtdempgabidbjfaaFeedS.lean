/- The feed's law FeedRoom, proved. -/
import Derived.Test.YtdempgabidbjfaaFeedR
import Derived.Test.YtdempgabidbjfaaFeedP
namespace Go.Proofs.Ytdempgabidbjfaa
open Go Go.ChangeShapes Go.WideShapes Go.ChangeAt Go.RowKit Go.Deep
set_option linter.unusedSimpArgs false
set_option linter.unusedVariables false

set_option maxRecDepth 100000 in
theorem room_lifted (os : Os) (started : os.Started) (H : Type) (enc : TypeId × Value → H) :
    ReturnsInHanded {} Try.checked os 3 .any (Rows.feedRoomSpec.pre6 enc Try.prog Try.f3 Rows.feedRoomRow.domain false) (Rows.feedRoomSpec.post enc Try.prog Try.f3 false true false false) := by
  refine returnsInHanded_of_change (C := Try.checked) Try.ownK started (by kernel_rfl) Try.func3
    (ChangeSpec.witness6 (enc := enc) (C := Try.checked) false ⟨#[], #[.int .i64 0, .slice none 0 0], []⟩ 8 (by kernel_rfl) (by kernel_rfl) (by kernel_rfl) (by kernel_rfl)) ?_
  intro W base args ds gs before hval0 hW hcnd _
  have hval : ∀ (j : Nat) t v, Try.f3.params[j]? = some t → args[j]? = some v → Value.okWide Try.prog W .any base t v := hval0
  have hW' := hW
  obtain ⟨p, q, hA0, hV, rfl, hfz, hnd⟩ := hW
  have hA : DataW.TrodAll enc Try.prog W 0 (fun _ => true) true Try.f3.params.toList args.toList ds p := hA0
  rw [Try.params3] at hA hval
  obtain ⟨v0, v1, d0, d1, p0, p1, rfl, rfl, rfl, h0, h1⟩ := trodAll_two hA
  obtain ⟨rfl, rfl⟩ := trodVars_none hV
  obtain ⟨a, rfl, rfl, rfl, wa⟩ := open_int Try.underlying3 (hval 0 3 v0 rfl rfl) h0
  have hsl := okWide_slice Try.underlying22 (hval 1 22 v1 rfl rfl)
  obtain ⟨n, acts, hacts⟩ := open_acts hsl h1
  clear hA0 hval0
  simp only [List.append_nil, List.nil_append] at hW'
  have hlt : ∀ x ∈ p1, x.block < W.heap.size := fun x hx => by simpa using hW'.lt x (by simpa using hx)
  refine (room_c hacts a).mono fun e W' ⟨he, hb⟩ => ?_
  subst he
  have hres : DataW.TrodAll enc Try.prog W' 0 (fun b => decide (b < W.heap.size)) true [3, 22] [.int .i64 a, v1] [.lit (.int .i64 a), d1] p1 := by
    simpa using trodAll_mk2 (shut_int Try.underlying3 wa) (Below.trod Try.laidOutK (by kernel_rfl) (of_decide_eq_true (by kernel_rfl)) h1 hb hlt)
  refine ⟨_, rfl, _, _, _, [], p1, [], hW', trodAll_mk1 (shut_bool Try.underlying4 _), ?_, rfl, hb.frame _, fun h => by cases h⟩
  exact hres

theorem feedRoom_holds : Rows.FeedRoomSaid :=
  OpenClaim.holds_of_wide 3 Try.f3 rfl rfl rfl rfl rfl rfl rfl ⟨rfl, rfl, rfl, rfl, rfl⟩ rfl rfl rfl rfl rfl (by kernel_rfl) Try.func3 (by kernel_rfl)
    (of_decide_eq_true (by kernel_rfl)) (by unfold Func.isWrapper; rw [if_neg (by decide +kernel)]; exact ⟨rfl, rfl⟩)
    (fun os started H enc _ => room_lifted os started H enc)
end Go.Proofs.Ytdempgabidbjfaa
