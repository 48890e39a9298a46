/- Parts of the proof, one behind the other: CanonOneP. Each is under no condition but those that it states. -/
import Derived.Test.YtolhikjjchfnjaaGreatDoorBa28
import Derived.Test.YtolhikjjchfnjaaGreatDoorBa30
import Derived.WalkKit
import Derived.ProofKit
import Derived.OpenShut
import Derived.Lib.SmallJoins
import Derived.Deep.DeepHandedRow
import Derived.Lay
/- canon: CanonOne, the card. -/
namespace Go.Proofs.YtolhikjjchfnjaaGreatDoor
section
open Go Go.ChangeShapes Go.WideShapes Go.ChangeAt Go.RowKit
set_option linter.unusedSimpArgs false
set_option linter.unusedVariables false
theorem Tryz.ownK : ownKnob Tryz.prog.godebug = none := by kernel_rfl
theorem Tryz.laidOutK : laidOutB Tryz.prog = true := by kernel_rfl
theorem Tryz.cellsEnt : Tryz.prog.cellsOf 52 = 2 := by kernel_rfl
set_option maxRecDepth 100000 in
theorem one_contract (H : Type) (enc : TypeId × Value → H) (W : World) (base : Nat) (args : Array Value) (ds gs : List (DataW H)) (before : List MemPlace)
    (hval : ∀ (j : Nat) t v, Tryz.f8.params[j]? = some t → args[j]? = some v → Value.okWide Tryz.prog W .any base t v)
    (hW : DataW.Whole enc Tryz.prog Tryz.f8.params.toList Rows.canonOneSpec.vars false W args.toList ds gs before) (hL : laidMetH Tryz.prog Rows.canonOneRow.laid W) :
    Calls Tryz.prog 8 args W fun e W' => ∃ v, e = .returned v ∧ Rows.canonOneSpec.post enc Tryz.prog Tryz.f8 false true false false W args v W' := by
  have hW' := hW
  obtain ⟨p, q, hA0, hV, rfl, hfz, hnd⟩ := hW
  have hA : DataW.TrodAll enc Tryz.prog W 0 (fun _ => true) true Tryz.f8.params.toList args.toList ds p := hA0
  rw [Tryz.params8] at hA hval
  obtain ⟨v0, d0, rfl, rfl, h0⟩ := trodAll_one hA
  obtain ⟨rfl, rfl⟩ := trodVars_none hV
  obtain ⟨c0, c1, y0, y1, m, hv, hd, hp, hy0, hy1⟩ := Joins.open_agg2 Tryz.underlying52 (by kernel_rfl) Tryz.cellsEnt (hval 0 52 v0 rfl rfl) h0
  obtain ⟨a, e0, x0, wa⟩ := DataW.trod_string Tryz.underlying9 hy0
  obtain ⟨b, e1, x1, wb⟩ := DataW.trod_string Tryz.underlying9 hy1
  simp only [List.cons.injEq, and_true] at e0 e1
  subst e0 e1 hv
  clear hA0
  simp only [List.append_nil] at hW'
  have hlt : ∀ x ∈ p, x.block < W.heap.size := fun x hx => by simpa using hW'.lt x (by simpa using hx)
  refine (one_c W (cubes_of hL) a b ⟨wa, wb⟩).mono fun e W' ⟨he, hE⟩ => ?_
  subst he
  have hb : Below W.heap.size W W' := ⟨hE.os, hE.tape, hE.output, hE.size, fun k hk => hE.block k hk (fun h => h)⟩
  have hres : DataW.TrodAll enc Tryz.prog W' 0 (fun b => decide (b < W.heap.size)) true [52] [.agg #[.string a, .string b]] [d0] p := by
    simpa using trodAll_mk1 (Below.trod Tryz.laidOutK (by kernel_rfl) (of_decide_eq_true (by kernel_rfl)) h0 hb hlt)
  refine ⟨_, rfl, _, _, _, [], p, [], hW', trodAll_mk1 (shut_bool Tryz.underlying4 _), ?_, rfl, hb.frame _, fun h => by cases h⟩
  exact hres
set_option maxRecDepth 100000 in
theorem one_reads (os : Os) {H : Type} (enc : TypeId × Value → H) : ∃ places, DataW.whole enc Tryz.prog ((laidWorld os).forCall (fun _ _ => 0) ⟨#[], #[.agg #[.string ⟨#[]⟩, .string ⟨#[]⟩]], []⟩).memory Tryz.f8.params.toList Rows.canonOneSpec.vars false #[.agg #[.string ⟨#[]⟩, .string ⟨#[]⟩]].toList 8 = some ([.agg [.lit (.string []), .lit (.string [])]], [], places) :=
  ⟨[], by kernel_rfl⟩
set_option maxRecDepth 100000 in
theorem one_lifted (os : Os) (started : os.Started) (H : Type) (enc : TypeId × Value → H) (F : Stop.Interp) :
    ReturnsInHanded {} Tryz.checked os 8 .any ((OpenSpec.ofChange Rows.canonOneSpec).preRow enc Tryz.prog Tryz.f8 Rows.canonOneRow.domain false Rows.canonOneRow.laid) (((OpenSpec.ofChange Rows.canonOneSpec).at F).post enc Tryz.prog Tryz.f8 false true false false) := by
  obtain ⟨places, hx⟩ := one_reads os enc
  refine returnsInHanded_of_row (C := Tryz.checked) (s := OpenSpec.ofChange Rows.canonOneSpec) Tryz.ownK started (by kernel_rfl) Tryz.func8
    (witness_row_at (enc := enc) (C := Tryz.checked) false (laidWorld os) #[.agg #[.string ⟨#[]⟩, .string ⟨#[]⟩]] rfl (by kernel_rfl) (by kernel_rfl) (by kernel_rfl)
      (OpenSpec.preRow_of_cond 8 hx (by kernel_rfl) (fun k hk => by cases hk) (by kernel_rfl) (laid_met os _))) ?_
  intro W base args ds gs before hval hW _ _ _ hL _ _
  exact one_contract H enc W base args ds gs before hval hW hL
theorem canonOne_said : Rows.CanonOneSaid :=
  OpenClaim.holds_of_cond 8 Tryz.f8 rfl rfl rfl rfl rfl rfl rfl ⟨rfl, rfl, rfl, rfl, rfl⟩ rfl rfl rfl rfl rfl (by kernel_rfl) Tryz.func8 (by kernel_rfl)
    (of_decide_eq_true (by kernel_rfl)) (by unfold Func.isWrapper; first | (rw [if_pos (by decide +kernel)]; kernel_rfl) | (rw [if_neg (by decide +kernel)]; exact ⟨rfl, rfl⟩))
    (fun os started H enc _ F => by rw [OpenClaim.pre_eq_preRow]; exact one_lifted os started H enc F)
theorem canonOneCard_holds : Rows.CanonOneCardSaid :=
  Claim7.holds_tied_plain_at .later [] [.handle, .data] true (true, "79678ca2a070e6b28f83784ea4f06b3bb3739c3a78af8def0c67aaeb6329fa64") true
    canonOne_said (fun _ h => by cases h) (by kernel_rfl) (fun _ h => by cases h) canonOne_row_tie rfl ⟨rfl, rfl⟩ (by kernel_rfl) rfl
    (fun f fn hf hfn => by
      obtain rfl : f = 8 := Option.some.inj ((show Tryz.prog.funcNamed "guilloche/guillochelaw05.CanonOne" = some 8 by kernel_rfl).symm.trans hf) |>.symm
      obtain rfl : fn = Tryz.f8 := (Option.some.inj (Tryz.func8.symm.trans hfn)).symm
      exact ⟨by kernel_rfl, fun j t ht => by
        rw [Tryz.params8] at ht
        have hm : t ∈ [52] := by simpa using Array.mem_of_getElem? ht
        have hall : ([52].all fun u => !Tryz.prog.wantsStandIn u) = true := by kernel_rfl
        exact (show Tryz.prog.wantsStandIn t = false by simpa using List.all_eq_true.1 hall t hm)⟩)
    (by kernel_rfl)
end
end Go.Proofs.YtolhikjjchfnjaaGreatDoor
