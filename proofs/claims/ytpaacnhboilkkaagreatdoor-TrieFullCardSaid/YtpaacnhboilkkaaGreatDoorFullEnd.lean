/- Parts of the proof, one behind the other: TFullP. Each is under no condition but those that it states. -/
import Derived.Test.YtpaacnhboilkkaaGreatDoorPt50
import Derived.Test.YtpaacnhboilkkaaGreatDoorPt44
import Derived.Test.YtpaacnhboilkkaaGreatDoorPt46
import Derived.Test.YtpaacnhboilkkaaGreatDoorPt47
import Derived.Test.YtpaacnhboilkkaaGreatDoorPt49
import Derived.WalkKit
import Derived.ProofKit
import Derived.OpenShut
import Derived.Lib.SmallJoins
import Derived.Deep.DeepHandedRow
import Derived.Lay
import Derived.Carry
import Derived.ChangeMaps5
namespace Go.Proofs.YtpaacnhboilkkaaGreatDoor
set_option linter.unusedSimpArgs false
set_option linter.unusedVariables false
set_option maxRecDepth 100000
set_option maxHeartbeats 16000000
section
open Go Go.ChangeShapes Go.WideShapes Go.ChangeAt Go.RowKit Go.ChangeMaps
theorem trieFull_contract(H:Type)(enc:TypeId × Value→H)(W:World)(base:Nat)(args:Array Value)(ds gs:List (DataW H))(before:List MemPlace)
  (hval:∀ (j:Nat) t v,Tryz.f6.params[j]?=some t→args[j]?=some v→Value.okWide Tryz.prog W .any base t v)
  (hW:DataW.Whole enc Tryz.prog Tryz.f6.params.toList Rows.trieFullSpec.vars false W args.toList ds gs before) (hL:laidMetH Tryz.prog Rows.trieFullRow.laid W) :
  Calls Tryz.prog 6 args W fun e W'=>∃ v,e=.returned v∧Rows.trieFullSpec.post enc Tryz.prog Tryz.f6 false true false false W args v W':=by
 have hW':=hW
 obtain⟨p,q,hA0,hV,rfl,hfz,hnd⟩:=hW
 have hA:DataW.TrodAll enc Tryz.prog W 0 (fun _=>true) true Tryz.f6.params.toList args.toList ds p:=hA0
 rw[Tryz.params6]at hA hval
 obtain⟨v0,v1,v2,d0,d1,d2,p0,p1,p2,rfl,rfl,rfl,h0,h1,h2⟩:=trodAll_three hA
 obtain⟨rfl,rfl⟩:=trodVars_none hV
 obtain⟨s0,rfl,rfl,rfl,ws0⟩:=open_int Tryz.underlying3 (hval 0 3 v0 rfl rfl) h0
 obtain⟨l1,hl1,hn1,hs1⟩:=open_entries (okWide_slice Tryz.underlying22 (hval 1 22 v1 rfl rfl)) h1
 obtain⟨l2,hl2,hn2,hs2⟩:=open_changes (okWide_slice Tryz.underlying41 (hval 2 41 v2 rfl rfl)) h2
 clear hA0
 simp only[List.append_nil,List.nil_append]at hW'
 have hlt:∀ x∈p1++p2,x.block < W.heap.size:=fun x hx=>by simpa using hW'.lt x (by simpa using hx)
 refine (tfull_c W (cubes_of hL) (err_of hL) s0 (show -9223372036854775808≤s0 from by have h:IntKind.i64.min≤s0∧s0≤IntKind.i64.max:=(by simpa [Lit.wf]using ws0);exact h.1) (show s0≤9223372036854775807 from by have h:IntKind.i64.min≤s0∧s0≤IntKind.i64.max:=(by simpa [Lit.wf]using ws0);exact h.2) v1 v2 l1 l2 hl1 hn1 hs1 hl2 hn2 hs2).mono fun e W' ⟨he,hE⟩=>?_
 subst he
 have hb:Below W.heap.size W W':=⟨hE.os,hE.tape,hE.output,hE.size,fun k hk=>hE.block k hk (fun h=>h)⟩
 have hres:DataW.TrodAll enc Tryz.prog W' 0 (fun b=>decide (b < W.heap.size)) true [3,22,41] [.int .i64 s0,v1,v2] [.lit (.int .i64 s0),d1,d2] (p1++p2):=by
  simpa using trodAll_mk3 (shut_int Tryz.underlying3 ws0) (Below.trod Tryz.laidOutK (by kernel_rfl) (of_decide_eq_true (by kernel_rfl)) h1 hb (fun x hx=>hlt x (by simp[hx]))) (Below.trod Tryz.laidOutK (by kernel_rfl) (of_decide_eq_true (by kernel_rfl)) h2 hb (fun x hx=>hlt x (by simp[hx])))
 refine⟨_,rfl,_,_,_,[],p1++p2,[],hW',trodAll_mk1 (shut_bool Tryz.underlying4 _),?_,rfl,hb.frame _,fun h=>by cases h⟩
 exact hres
theorem trieFull_reads(os:Os){H:Type}(enc:TypeId × Value→H):∃ places,DataW.whole enc Tryz.prog ((laidWorld os).forCall (fun _ _=>0) ⟨#[],#[.int .i64 0,.slice none 0 0,.slice none 0 0],[]⟩).memory Tryz.f6.params.toList Rows.trieFullSpec.vars false #[.int .i64 0,.slice none 0 0,.slice none 0 0].toList 8=some ([.lit (.int .i64 0),.nil,.nil],[],places):=
 ⟨[],by kernel_rfl⟩
theorem trieFull_lifted(os:Os)(started:os.Started)(H:Type)(enc:TypeId × Value→H)(F:Stop.Interp) :
  ReturnsInHanded {} Tryz.checked os 6 .any ((OpenSpec.ofChange Rows.trieFullSpec).preRow enc Tryz.prog Tryz.f6 Rows.trieFullRow.domain false Rows.trieFullRow.laid) (((OpenSpec.ofChange Rows.trieFullSpec).at F).post enc Tryz.prog Tryz.f6 false true false false):=by
 obtain⟨places,hx⟩:=trieFull_reads os enc
 refine returnsInHanded_of_row (C:=Tryz.checked) (s:=OpenSpec.ofChange Rows.trieFullSpec) Tryz.ownK started (by kernel_rfl) Tryz.func6
  (witness_row_at (enc:=enc) (C:=Tryz.checked) false (laidWorld os) #[.int .i64 0,.slice none 0 0,.slice none 0 0] rfl (by kernel_rfl) (by kernel_rfl) (by kernel_rfl)
   (OpenSpec.preRow_of_cond 8 hx (by kernel_rfl) (fun k hk=>by cases hk) (by kernel_rfl) (laid_met os _))) ?_
 intro W base args ds gs before hval hW _ _ _ hL _ _
 exact trieFull_contract H enc W base args ds gs before hval hW hL
theorem trieFull_closed:joinedFacts Tryz.pinned.checked.prog 6 Tryz.f6 (OpenSpec.ofChange Rows.trieFullSpec).bare Rows.trieFullRow=true:=by
 unfold joinedFacts
 simp only[Bool.and_eq_true]
 refine⟨⟨⟨⟨⟨⟨⟨⟨⟨⟨⟨⟨⟨⟨⟨⟨⟨⟨⟨⟨⟨⟨⟨⟨⟨⟨⟨⟨⟨⟨⟨?_,sh_laidOut⟩,sh_mapsRowed⟩,?_⟩,?_⟩,?_⟩,sh_stops⟩,?_⟩,sh_stopKnobs⟩,?_⟩,?_⟩,?_⟩,?_⟩,?_⟩,?_⟩,?_⟩,?_⟩,?_⟩,?_⟩,?_⟩,?_⟩,?_⟩,sh_plainKeys⟩,?_⟩,sh_stopsHeard⟩,sh_mayEnter⟩,sh_lifted⟩,sh_make⟩,?_⟩,?_⟩,?_⟩,?_⟩
 all_goals (as_aux_lemma=>kernel_rfl)
theorem trieFull_named:Tryz.prog.funcNamed "guilloche/guillochelaw08.TrieFull"=some 6:=by kernel_rfl
theorem trieFull_goes:false=Rows.trieFullRow.goesBy Tryz.prog:=by kernel_rfl
theorem trieFull_wraps:Tryz.f6.isWrapper Tryz.pinned.checked.prog Rows.trieFullRow.wrapper Rows.trieFullRow.mainSum:=by
 unfold Func.isWrapper;first |(rw[if_pos (by decide +kernel)];kernel_rfl) |(rw[if_neg (by decide +kernel)];exact⟨rfl,rfl⟩)
theorem trieFull_stand:([3,22,41].all fun u => !Tryz.prog.wantsStandIn u)=true:=by kernel_rfl
theorem trieFull_said:Rows.TrieFullSaid:=
 OpenClaim.holds_of_cond 6 Tryz.f6 rfl rfl rfl rfl rfl rfl rfl ⟨rfl,rfl,rfl,rfl,rfl⟩ rfl rfl rfl rfl rfl trieFull_named Tryz.func6 trieFull_closed
  (of_decide_eq_true (by kernel_rfl)) trieFull_wraps
  (fun os started H enc _ F=>by rw[OpenClaim.pre_eq_preRow];exact trieFull_lifted os started H enc F)
theorem trieFullCard_holds:Rows.TrieFullCardSaid:=
 Claim7.holds_tied_plain_at .later [] [.handle,.data] true (true, "9fb79214ed06701ec0b3f3513425a8bf5e13fc2681c6014fe8d6313db7ec54e5") true
  trieFull_said (fun _ h=>by cases h) (by kernel_rfl) (fun _ h=>by cases h) trieFull_row_tie rfl ⟨rfl,rfl⟩ sh_main rfl
  (fun f fn hf hfn=>by
   obtain rfl:f=6:=Option.some.inj (trieFull_named.symm.trans hf) |>.symm
   obtain rfl:fn=Tryz.f6:=(Option.some.inj (Tryz.func6.symm.trans hfn)).symm
   exact⟨sh_looks,fun j t ht=>by
    rw[Tryz.params6]at ht
    have hm:t∈[3,22,41]:=by simpa using Array.mem_of_getElem? ht
    exact (show Tryz.prog.wantsStandIn t=false by simpa using List.all_eq_true.1 trieFull_stand t hm)⟩)
  trieFull_goes
end
end Go.Proofs.YtpaacnhboilkkaaGreatDoor
