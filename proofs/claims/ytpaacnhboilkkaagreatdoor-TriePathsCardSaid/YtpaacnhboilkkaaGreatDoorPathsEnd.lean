/- Parts of the proof, one behind the other: TPathsP. Each is under no condition but those that it states. -/
import Derived.Test.YtpaacnhboilkkaaGreatDoorPt50
import Derived.Test.YtpaacnhboilkkaaGreatDoorPt44
import Derived.Test.YtpaacnhboilkkaaGreatDoorPt46
import Derived.Test.YtpaacnhboilkkaaGreatDoorPt47
import Derived.Test.YtpaacnhboilkkaaGreatDoorPt49
import Derived.WalkKit
import Derived.ProofKit
import Derived.OpenShut
import Derived.Lib.SmallJoins
import Derived.Deep.DeepHandedRow
import Derived.Lay
import Derived.Carry
import Derived.ChangeMaps5
namespace Go.Proofs.YtpaacnhboilkkaaGreatDoor
set_option linter.unusedSimpArgs false
set_option linter.unusedVariables false
set_option maxRecDepth 100000
set_option maxHeartbeats 16000000
section
open Go Go.ChangeShapes Go.WideShapes Go.ChangeAt Go.RowKit Go.ChangeMaps
theorem triePaths_contract(H:Type)(enc:TypeId × Value→H)(W:World)(base:Nat)(args:Array Value)(ds gs:List (DataW H))(before:List MemPlace)
  (hval:∀ (j:Nat) t v,Tryz.f10.params[j]?=some t→args[j]?=some v→Value.okWide Tryz.prog W .any base t v)
  (hW:DataW.Whole enc Tryz.prog Tryz.f10.params.toList Rows.triePathsSpec.vars false W args.toList ds gs before) (hL:laidMetH Tryz.prog Rows.triePathsRow.laid W) :
  Calls Tryz.prog 10 args W fun e W'=>∃ v,e=.returned v∧Rows.triePathsSpec.post enc Tryz.prog Tryz.f10 false true false false W args v W':=by
 have hW':=hW
 obtain⟨p,q,hA0,hV,rfl,hfz,hnd⟩:=hW
 have hA:DataW.TrodAll enc Tryz.prog W 0 (fun _=>true) true Tryz.f10.params.toList args.toList ds p:=hA0
 rw[Tryz.params10]at hA hval
 obtain⟨v0,v1,d0,d1,p0,p1,rfl,rfl,rfl,h0,h1⟩:=trodAll_two hA
 obtain⟨rfl,rfl⟩:=trodVars_none hV
 obtain⟨l0,hl0,hn0,hs0⟩:=open_entries (okWide_slice Tryz.underlying22 (hval 0 22 v0 rfl rfl)) h0
 obtain⟨s1,rfl,rfl,rfl,ws1⟩:=open_string Tryz.underlying9 (hval 1 9 v1 rfl rfl) h1
 have hk1:=Nat.le_trans ws1 maxLen_big
 clear hA0
 simp only[List.append_nil,List.nil_append]at hW'
 have hlt:∀ x∈p0,x.block < W.heap.size:=fun x hx=>by simpa using hW'.lt x (by simpa using hx)
 refine (tpaths_c W (cubes_of hL) (err_of hL) v0 l0 hl0 hn0 hs0 s1 hk1).mono fun e W' ⟨he,hE⟩=>?_
 subst he
 have hb:Below W.heap.size W W':=⟨hE.os,hE.tape,hE.output,hE.size,fun k hk=>hE.block k hk (fun h=>h)⟩
 have hres:DataW.TrodAll enc Tryz.prog W' 0 (fun b=>decide (b < W.heap.size)) true [22,9] [v0,.string s1] [d0,.lit (.string s1.data.toList)] (p0):=by
  simpa using trodAll_mk2 (Below.trod Tryz.laidOutK (by kernel_rfl) (of_decide_eq_true (by kernel_rfl)) h0 hb (fun x hx=>hlt x (by simp[hx]))) (shut_string Tryz.underlying9 ws1)
 refine⟨_,rfl,_,_,_,[],p0,[],hW',trodAll_mk1 (shut_bool Tryz.underlying4 _),?_,rfl,hb.frame _,fun h=>by cases h⟩
 exact hres
theorem triePaths_reads(os:Os){H:Type}(enc:TypeId × Value→H):∃ places,DataW.whole enc Tryz.prog ((laidWorld os).forCall (fun _ _=>0) ⟨#[],#[.slice none 0 0,.string ⟨#[]⟩],[]⟩).memory Tryz.f10.params.toList Rows.triePathsSpec.vars false #[.slice none 0 0,.string ⟨#[]⟩].toList 8=some ([.nil,.lit (.string [])],[],places):=
 ⟨[],by kernel_rfl⟩
theorem triePaths_lifted(os:Os)(started:os.Started)(H:Type)(enc:TypeId × Value→H)(F:Stop.Interp) :
  ReturnsInHanded {} Tryz.checked os 10 .any ((OpenSpec.ofChange Rows.triePathsSpec).preRow enc Tryz.prog Tryz.f10 Rows.triePathsRow.domain false Rows.triePathsRow.laid) (((OpenSpec.ofChange Rows.triePathsSpec).at F).post enc Tryz.prog Tryz.f10 false true false false):=by
 obtain⟨places,hx⟩:=triePaths_reads os enc
 refine returnsInHanded_of_row (C:=Tryz.checked) (s:=OpenSpec.ofChange Rows.triePathsSpec) Tryz.ownK started (by kernel_rfl) Tryz.func10
  (witness_row_at (enc:=enc) (C:=Tryz.checked) false (laidWorld os) #[.slice none 0 0,.string ⟨#[]⟩] rfl (by kernel_rfl) (by kernel_rfl) (by kernel_rfl)
   (OpenSpec.preRow_of_cond 8 hx (by kernel_rfl) (fun k hk=>by cases hk) (by kernel_rfl) (laid_met os _))) ?_
 intro W base args ds gs before hval hW _ _ _ hL _ _
 exact triePaths_contract H enc W base args ds gs before hval hW hL
theorem triePaths_closed:joinedFacts Tryz.pinned.checked.prog 10 Tryz.f10 (OpenSpec.ofChange Rows.triePathsSpec).bare Rows.triePathsRow=true:=by
 unfold joinedFacts
 simp only[Bool.and_eq_true]
 refine⟨⟨⟨⟨⟨⟨⟨⟨⟨⟨⟨⟨⟨⟨⟨⟨⟨⟨⟨⟨⟨⟨⟨⟨⟨⟨⟨⟨⟨⟨⟨?_,sh_laidOut⟩,sh_mapsRowed⟩,?_⟩,?_⟩,?_⟩,sh_stops⟩,?_⟩,sh_stopKnobs⟩,?_⟩,?_⟩,?_⟩,?_⟩,?_⟩,?_⟩,?_⟩,?_⟩,?_⟩,?_⟩,?_⟩,?_⟩,?_⟩,sh_plainKeys⟩,?_⟩,sh_stopsHeard⟩,sh_mayEnter⟩,sh_lifted⟩,sh_make⟩,?_⟩,?_⟩,?_⟩,?_⟩
 all_goals (as_aux_lemma=>kernel_rfl)
theorem triePaths_named:Tryz.prog.funcNamed "guilloche/guillochelaw08.TriePaths"=some 10:=by kernel_rfl
theorem triePaths_goes:false=Rows.triePathsRow.goesBy Tryz.prog:=by kernel_rfl
theorem triePaths_wraps:Tryz.f10.isWrapper Tryz.pinned.checked.prog Rows.triePathsRow.wrapper Rows.triePathsRow.mainSum:=by
 unfold Func.isWrapper;first |(rw[if_pos (by decide +kernel)];kernel_rfl) |(rw[if_neg (by decide +kernel)];exact⟨rfl,rfl⟩)
theorem triePaths_stand:([22,9].all fun u => !Tryz.prog.wantsStandIn u)=true:=by kernel_rfl
theorem triePaths_said:Rows.TriePathsSaid:=
 OpenClaim.holds_of_cond 10 Tryz.f10 rfl rfl rfl rfl rfl rfl rfl ⟨rfl,rfl,rfl,rfl,rfl⟩ rfl rfl rfl rfl rfl triePaths_named Tryz.func10 triePaths_closed
  (of_decide_eq_true (by kernel_rfl)) triePaths_wraps
  (fun os started H enc _ F=>by rw[OpenClaim.pre_eq_preRow];exact triePaths_lifted os started H enc F)
theorem triePathsCard_holds:Rows.TriePathsCardSaid:=
 Claim7.holds_tied_plain_at .later [] [.handle,.data] true (true, "9fb79214ed06701ec0b3f3513425a8bf5e13fc2681c6014fe8d6313db7ec54e5") true
  triePaths_said (fun _ h=>by cases h) (by kernel_rfl) (fun _ h=>by cases h) triePaths_row_tie rfl ⟨rfl,rfl⟩ sh_main rfl
  (fun f fn hf hfn=>by
   obtain rfl:f=10:=Option.some.inj (triePaths_named.symm.trans hf) |>.symm
   obtain rfl:fn=Tryz.f10:=(Option.some.inj (Tryz.func10.symm.trans hfn)).symm
   exact⟨sh_looks,fun j t ht=>by
    rw[Tryz.params10]at ht
    have hm:t∈[22,9]:=by simpa using Array.mem_of_getElem? ht
    exact (show Tryz.prog.wantsStandIn t=false by simpa using List.all_eq_true.1 triePaths_stand t hm)⟩)
  triePaths_goes
end
end Go.Proofs.YtpaacnhboilkkaaGreatDoor
