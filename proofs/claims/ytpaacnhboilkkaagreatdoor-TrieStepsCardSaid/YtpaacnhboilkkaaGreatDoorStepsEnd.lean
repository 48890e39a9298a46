/- Parts of the proof, one behind the other: TStepsP. Each is under no condition but those that it states. -/
import Derived.Test.YtpaacnhboilkkaaGreatDoorPt50
import Derived.Test.YtpaacnhboilkkaaGreatDoorPt44
import Derived.Test.YtpaacnhboilkkaaGreatDoorPt46
import Derived.Test.YtpaacnhboilkkaaGreatDoorPt47
import Derived.Test.YtpaacnhboilkkaaGreatDoorPt49
import Derived.WalkKit
import Derived.ProofKit
import Derived.OpenShut
import Derived.Lib.SmallJoins
import Derived.Deep.DeepHandedRow
import Derived.Lay
import Derived.Carry
import Derived.ChangeMaps5
namespace Go.Proofs.YtpaacnhboilkkaaGreatDoor
set_option linter.unusedSimpArgs false
set_option linter.unusedVariables false
set_option maxRecDepth 100000
set_option maxHeartbeats 16000000
section
open Go Go.ChangeShapes Go.WideShapes Go.ChangeAt Go.RowKit Go.ChangeMaps
theorem trieSteps_contract(H:Type)(enc:TypeId × Value→H)(W:World)(base:Nat)(args:Array Value)(ds gs:List (DataW H))(before:List MemPlace)
  (hval:∀ (j:Nat) t v,Tryz.f9.params[j]?=some t→args[j]?=some v→Value.okWide Tryz.prog W .any base t v)
  (hW:DataW.Whole enc Tryz.prog Tryz.f9.params.toList Rows.trieStepsSpec.vars false W args.toList ds gs before) (hL:laidMetH Tryz.prog Rows.trieStepsRow.laid W) :
  Calls Tryz.prog 9 args W fun e W'=>∃ v,e=.returned v∧Rows.trieStepsSpec.post enc Tryz.prog Tryz.f9 false true false false W args v W':=by
 have hW':=hW
 obtain⟨p,q,hA0,hV,rfl,hfz,hnd⟩:=hW
 have hA:DataW.TrodAll enc Tryz.prog W 0 (fun _=>true) true Tryz.f9.params.toList args.toList ds p:=hA0
 rw[Tryz.params9]at hA hval
 obtain⟨v0,v1,d0,d1,p0,p1,rfl,rfl,rfl,h0,h1⟩:=trodAll_two hA
 obtain⟨rfl,rfl⟩:=trodVars_none hV
 obtain⟨l0,hl0,hn0,hs0⟩:=open_entries (okWide_slice Tryz.underlying22 (hval 0 22 v0 rfl rfl)) h0
 obtain⟨l1,hl1,hn1,hs1⟩:=open_changes (okWide_slice Tryz.underlying41 (hval 1 41 v1 rfl rfl)) h1
 clear hA0
 simp only[List.append_nil,List.nil_append]at hW'
 have hlt:∀ x∈p0++p1,x.block < W.heap.size:=fun x hx=>by simpa using hW'.lt x (by simpa using hx)
 refine (tsteps_c W (cubes_of hL) (err_of hL) v0 v1 l0 l1 hl0 hn0 hs0 hl1 hn1 hs1).mono fun e W' ⟨he,hE⟩=>?_
 subst he
 have hb:Below W.heap.size W W':=⟨hE.os,hE.tape,hE.output,hE.size,fun k hk=>hE.block k hk (fun h=>h)⟩
 have hres:DataW.TrodAll enc Tryz.prog W' 0 (fun b=>decide (b < W.heap.size)) true [22,41] [v0,v1] [d0,d1] (p0++p1):=by
  simpa using trodAll_mk2 (Below.trod Tryz.laidOutK (by kernel_rfl) (of_decide_eq_true (by kernel_rfl)) h0 hb (fun x hx=>hlt x (by simp[hx]))) (Below.trod Tryz.laidOutK (by kernel_rfl) (of_decide_eq_true (by kernel_rfl)) h1 hb (fun x hx=>hlt x (by simp[hx])))
 refine⟨_,rfl,_,_,_,[],p0++p1,[],hW',trodAll_mk1 (shut_bool Tryz.underlying4 _),?_,rfl,hb.frame _,fun h=>by cases h⟩
 exact hres
theorem trieSteps_reads(os:Os){H:Type}(enc:TypeId × Value→H):∃ places,DataW.whole enc Tryz.prog ((laidWorld os).forCall (fun _ _=>0) ⟨#[],#[.slice none 0 0,.slice none 0 0],[]⟩).memory Tryz.f9.params.toList Rows.trieStepsSpec.vars false #[.slice none 0 0,.slice none 0 0].toList 8=some ([.nil,.nil],[],places):=
 ⟨[],by kernel_rfl⟩
theorem trieSteps_lifted(os:Os)(started:os.Started)(H:Type)(enc:TypeId × Value→H)(F:Stop.Interp) :
  ReturnsInHanded {} Tryz.checked os 9 .any ((OpenSpec.ofChange Rows.trieStepsSpec).preRow enc Tryz.prog Tryz.f9 Rows.trieStepsRow.domain false Rows.trieStepsRow.laid) (((OpenSpec.ofChange Rows.trieStepsSpec).at F).post enc Tryz.prog Tryz.f9 false true false false):=by
 obtain⟨places,hx⟩:=trieSteps_reads os enc
 refine returnsInHanded_of_row (C:=Tryz.checked) (s:=OpenSpec.ofChange Rows.trieStepsSpec) Tryz.ownK started (by kernel_rfl) Tryz.func9
  (witness_row_at (enc:=enc) (C:=Tryz.checked) false (laidWorld os) #[.slice none 0 0,.slice none 0 0] rfl (by kernel_rfl) (by kernel_rfl) (by kernel_rfl)
   (OpenSpec.preRow_of_cond 8 hx (by kernel_rfl) (fun k hk=>by cases hk) (by kernel_rfl) (laid_met os _))) ?_
 intro W base args ds gs before hval hW _ _ _ hL _ _
 exact trieSteps_contract H enc W base args ds gs before hval hW hL
theorem trieSteps_closed:joinedFacts Tryz.pinned.checked.prog 9 Tryz.f9 (OpenSpec.ofChange Rows.trieStepsSpec).bare Rows.trieStepsRow=true:=by
 unfold joinedFacts
 simp only[Bool.and_eq_true]
 refine⟨⟨⟨⟨⟨⟨⟨⟨⟨⟨⟨⟨⟨⟨⟨⟨⟨⟨⟨⟨⟨⟨⟨⟨⟨⟨⟨⟨⟨⟨⟨?_,sh_laidOut⟩,sh_mapsRowed⟩,?_⟩,?_⟩,?_⟩,sh_stops⟩,?_⟩,sh_stopKnobs⟩,?_⟩,?_⟩,?_⟩,?_⟩,?_⟩,?_⟩,?_⟩,?_⟩,?_⟩,?_⟩,?_⟩,?_⟩,?_⟩,sh_plainKeys⟩,?_⟩,sh_stopsHeard⟩,sh_mayEnter⟩,sh_lifted⟩,sh_make⟩,?_⟩,?_⟩,?_⟩,?_⟩
 all_goals (as_aux_lemma=>kernel_rfl)
theorem trieSteps_named:Tryz.prog.funcNamed "guilloche/guillochelaw08.TrieSteps"=some 9:=by kernel_rfl
theorem trieSteps_goes:false=Rows.trieStepsRow.goesBy Tryz.prog:=by kernel_rfl
theorem trieSteps_wraps:Tryz.f9.isWrapper Tryz.pinned.checked.prog Rows.trieStepsRow.wrapper Rows.trieStepsRow.mainSum:=by
 unfold Func.isWrapper;first |(rw[if_pos (by decide +kernel)];kernel_rfl) |(rw[if_neg (by decide +kernel)];exact⟨rfl,rfl⟩)
theorem trieSteps_stand:([22,41].all fun u => !Tryz.prog.wantsStandIn u)=true:=by kernel_rfl
theorem trieSteps_said:Rows.TrieStepsSaid:=
 OpenClaim.holds_of_cond 9 Tryz.f9 rfl rfl rfl rfl rfl rfl rfl ⟨rfl,rfl,rfl,rfl,rfl⟩ rfl rfl rfl rfl rfl trieSteps_named Tryz.func9 trieSteps_closed
  (of_decide_eq_true (by kernel_rfl)) trieSteps_wraps
  (fun os started H enc _ F=>by rw[OpenClaim.pre_eq_preRow];exact trieSteps_lifted os started H enc F)
theorem trieStepsCard_holds:Rows.TrieStepsCardSaid:=
 Claim7.holds_tied_plain_at .later [] [.handle,.data] true (true, "9fb79214ed06701ec0b3f3513425a8bf5e13fc2681c6014fe8d6313db7ec54e5") true
  trieSteps_said (fun _ h=>by cases h) (by kernel_rfl) (fun _ h=>by cases h) trieSteps_row_tie rfl ⟨rfl,rfl⟩ sh_main rfl
  (fun f fn hf hfn=>by
   obtain rfl:f=9:=Option.some.inj (trieSteps_named.symm.trans hf) |>.symm
   obtain rfl:fn=Tryz.f9:=(Option.some.inj (Tryz.func9.symm.trans hfn)).symm
   exact⟨sh_looks,fun j t ht=>by
    rw[Tryz.params9]at ht
    have hm:t∈[22,41]:=by simpa using Array.mem_of_getElem? ht
    exact (show Tryz.prog.wantsStandIn t=false by simpa using List.all_eq_true.1 trieSteps_stand t hm)⟩)
  trieSteps_goes
end
end Go.Proofs.YtpaacnhboilkkaaGreatDoor
