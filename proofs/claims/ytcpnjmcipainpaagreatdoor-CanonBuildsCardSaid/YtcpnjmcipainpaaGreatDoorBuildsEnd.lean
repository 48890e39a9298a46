/- Parts of the proof, one behind the other: BuildsP. Each is under no condition but those that it states. -/
import Derived.Test.YtcpnjmcipainpaaGreatDoorPb37
import Derived.Test.YtcpnjmcipainpaaGreatDoorPb33
import Derived.Test.YtcpnjmcipainpaaGreatDoorPb36
import Derived.Test.YtcpnjmcipainpaaGreatDoorPb34
import Derived.WalkKit
import Derived.ProofKit
import Derived.OpenShut
import Derived.Lib.SmallJoins
import Derived.Deep.DeepHandedRow
import Derived.Lay
import Derived.Carry
import Derived.ChangeMaps5
namespace Go.Proofs.YtcpnjmcipainpaaGreatDoor
set_option linter.unusedSimpArgs false
set_option linter.unusedVariables false
set_option maxRecDepth 100000
set_option maxHeartbeats 16000000
section
open Go Go.ChangeShapes Go.WideShapes Go.ChangeAt Go.RowKit Go.ChangeMaps
theorem jdg(H:Type)(enc:TypeId × Value→H)(W:World)(base:Nat)(args:Array Value)(ds gs:List (DataW H))(before:List MemPlace)
  (hval:∀ (j:Nat) t v,Tryz.f7.params[j]?=some t→args[j]?=some v→Value.okWide Tryz.prog W .any base t v)
  (hW:DataW.Whole enc Tryz.prog Tryz.f7.params.toList Rows.canonBuildsSpec.vars false W args.toList ds gs before) (hL:laidMetH Tryz.prog Rows.canonBuildsRow.laid W) :
  Calls Tryz.prog 7 args W fun e W'=>∃ v,e=.returned v∧Rows.canonBuildsSpec.post enc Tryz.prog Tryz.f7 false true false false W args v W':=by
 have hW':=hW
 obtain⟨p,q,hA0,hV,rfl,hfz,hnd⟩:=hW
 have hA:DataW.TrodAll enc Tryz.prog W 0 (fun _=>true) true Tryz.f7.params.toList args.toList ds p:=hA0;rw[Tryz.params7]at hA hval
 obtain⟨v0,d0,rfl,rfl,h0⟩:=trodAll_one hA
 obtain⟨rfl,rfl⟩:=trodVars_none hV
 obtain⟨l0,hl0,hn0,hs0⟩:=jgS (okWide_slice Tryz.underlying22 (hval 0 22 v0 rfl rfl)) h0
 clear hA0;simp only[List.append_nil,List.nil_append]at hW';have hlt:∀ x∈p,x.block < W.heap.size:=fun x hx=>by simpa using hW'.lt x (by simpa using hx)
 refine (jk3 W (jk6 hL) v0 l0 hl0 hn0 hs0).mono fun e W' ⟨he,hE⟩=>?_;subst he;have hb:Below W.heap.size W W':=⟨hE.os,hE.tape,hE.output,hE.size,fun k hk=>hE.block k hk (fun h=>h)⟩;have hres:DataW.TrodAll enc Tryz.prog W' 0 (fun b=>decide (b < W.heap.size)) true [22] [v0] [d0] (p):=by
  simpa using trodAll_mk1 (Below.trod Tryz.laidOutK (by kernel_rfl) (of_decide_eq_true (by kernel_rfl)) h0 hb (fun x hx=>hlt x (by simp[hx])))
 refine⟨_,rfl,_,_,_,[],p,[],hW',trodAll_mk1 (shut_bool Tryz.underlying4 _),?_,rfl,hb.frame _,fun h=>by cases h⟩
 exact hres
theorem jd0(os:Os){H:Type}(enc:TypeId × Value→H):∃ places,DataW.whole enc Tryz.prog ((laidWorld os).forCall (fun _ _=>0) ⟨#[],#[.slice none 0 0],[]⟩).memory Tryz.f7.params.toList Rows.canonBuildsSpec.vars false #[.slice none 0 0].toList 8=some ([.nil],[],places):=
 ⟨[],by kernel_rfl⟩
theorem jdH(os:Os)(started:os.Started)(H:Type)(enc:TypeId × Value→H)(F:Stop.Interp) :
  ReturnsInHanded {} Tryz.checked os 7 .any ((OpenSpec.ofChange Rows.canonBuildsSpec).preRow enc Tryz.prog Tryz.f7 Rows.canonBuildsRow.domain false Rows.canonBuildsRow.laid) (((OpenSpec.ofChange Rows.canonBuildsSpec).at F).post enc Tryz.prog Tryz.f7 false true false false):=by
 obtain⟨places,hx⟩:=jd0 os enc
 refine returnsInHanded_of_row (C:=Tryz.checked) (s:=OpenSpec.ofChange Rows.canonBuildsSpec) Tryz.ownK started (by kernel_rfl) Tryz.func7
  (witness_row_at (enc:=enc) (C:=Tryz.checked) false (laidWorld os) #[.slice none 0 0] rfl (by kernel_rfl) (by kernel_rfl) (by kernel_rfl)
   (OpenSpec.preRow_of_cond 8 hx (by kernel_rfl) (fun k hk=>by cases hk) (by kernel_rfl) (jlr os _))) ?_
 intro W base args ds gs before hval hW _ _ _ hL _ _;exact jdg H enc W base args ds gs before hval hW hL
theorem jdG:joinedFacts Tryz.pinned.checked.prog 7 Tryz.f7 (OpenSpec.ofChange Rows.canonBuildsSpec).bare Rows.canonBuildsRow=true:=by
 unfold joinedFacts;simp only[Bool.and_eq_true]
 refine⟨⟨⟨⟨⟨⟨⟨⟨⟨⟨⟨⟨⟨⟨⟨⟨⟨⟨⟨⟨⟨⟨⟨⟨⟨⟨⟨⟨⟨⟨⟨?_,ji3⟩,jg7⟩,?_⟩,?_⟩,?_⟩,jlQ⟩,?_⟩,jg9⟩,?_⟩,?_⟩,?_⟩,?_⟩,?_⟩,?_⟩,?_⟩,?_⟩,?_⟩,?_⟩,?_⟩,?_⟩,?_⟩,jg8⟩,?_⟩,jgi⟩,jhM⟩,jkB⟩,jnc⟩,?_⟩,?_⟩,?_⟩,?_⟩
 all_goals (as_aux_lemma=>kernel_rfl)
theorem jcx:Tryz.prog.funcNamed "guilloche/guillochelaw05.CanonBuilds"=some 7:=by kernel_rfl
theorem jeq:false=Rows.canonBuildsRow.goesBy Tryz.prog:=by kernel_rfl
theorem jd2:Tryz.f7.isWrapper Tryz.pinned.checked.prog Rows.canonBuildsRow.wrapper Rows.canonBuildsRow.mainSum:=by
 unfold Func.isWrapper;first |(rw[if_pos (by decide +kernel)];kernel_rfl) |(rw[if_neg (by decide +kernel)];exact⟨rfl,rfl⟩)
theorem jd1:([22].all fun u => !Tryz.prog.wantsStandIn u)=true:=by kernel_rfl
theorem jer:Rows.CanonBuildsSaid:=
 OpenClaim.holds_of_cond 7 Tryz.f7 rfl rfl rfl rfl rfl rfl rfl ⟨rfl,rfl,rfl,rfl,rfl⟩ rfl rfl rfl rfl rfl jcx Tryz.func7 jdG
  (of_decide_eq_true (by kernel_rfl)) jd2
  (fun os started H enc _ F=>by rw[OpenClaim.pre_eq_preRow];exact jdH os started H enc F)
theorem canonBuildsCard_holds:Rows.CanonBuildsCardSaid:=
 Claim7.holds_tied_plain_at .later [] [.handle,.data] true (true, "8c5f272a4f50c57b89adc642ff179197ab23413d260365b3032a29931c6330fb") true
  jer (fun _ h=>by cases h) (by kernel_rfl) (fun _ h=>by cases h) canonBuilds_row_tie rfl ⟨rfl,rfl⟩ jnb rfl
  (fun f fn hf hfn=>by
   obtain rfl:f=7:=Option.some.inj (jcx.symm.trans hf) |>.symm;obtain rfl:fn=Tryz.f7:=(Option.some.inj (Tryz.func7.symm.trans hfn)).symm
   exact⟨jlP,fun j t ht=>by
    rw[Tryz.params7]at ht;have hm:t∈[22]:=by simpa using Array.mem_of_getElem? ht
    exact (show Tryz.prog.wantsStandIn t=false by simpa using List.all_eq_true.1 jd1 t hm)⟩)
  jeq
end
end Go.Proofs.YtcpnjmcipainpaaGreatDoor
