/- Parts of the proof, one behind the other: PBuildP. Each is under no condition but those that it states. -/
import Derived.Test.YtcpnjmcipainpaaGreatDoorPc44
import Derived.Test.YtcpnjmcipainpaaGreatDoorPc40
import Derived.Test.YtcpnjmcipainpaaGreatDoorPc43
import Derived.Test.YtcpnjmcipainpaaGreatDoorPc41
import Derived.WalkKit
import Derived.ProofKit
import Derived.OpenShut
import Derived.Lib.SmallJoins
import Derived.Deep.DeepHandedRow
import Derived.Lay
import Derived.Carry
import Derived.ChangeMaps5
namespace Go.Proofs.YtcpnjmcipainpaaGreatDoor
set_option linter.unusedSimpArgs false
set_option linter.unusedVariables false
set_option maxRecDepth 100000
set_option maxHeartbeats 16000000
section
open Go Go.ChangeShapes Go.WideShapes Go.ChangeAt Go.RowKit Go.ChangeMaps
theorem jed(H:Type)(enc:TypeId × Value→H)(W:World)(base:Nat)(args:Array Value)(ds gs:List (DataW H))(before:List MemPlace)
  (hval:∀ (j:Nat) t v,Tryz.f8.params[j]?=some t→args[j]?=some v→Value.okWide Tryz.prog W .any base t v)
  (hW:DataW.Whole enc Tryz.prog Tryz.f8.params.toList Rows.proofBuildsSpec.vars false W args.toList ds gs before) (hL:laidMetH Tryz.prog Rows.proofBuildsRow.laid W) :
  Calls Tryz.prog 8 args W fun e W'=>∃ v,e=.returned v∧Rows.proofBuildsSpec.post enc Tryz.prog Tryz.f8 false true false false W args v W':=by
 have hW':=hW
 obtain⟨p,q,hA0,hV,rfl,hfz,hnd⟩:=hW
 have hA:DataW.TrodAll enc Tryz.prog W 0 (fun _=>true) true Tryz.f8.params.toList args.toList ds p:=hA0;rw[Tryz.params8]at hA hval
 obtain⟨v0,v1,d0,d1,p0,p1,rfl,rfl,rfl,h0,h1⟩:=trodAll_two hA
 obtain⟨rfl,rfl⟩:=trodVars_none hV
 obtain⟨l0,hl0,hn0,hs0⟩:=jiK (okWide_slice Tryz.underlying22 (hval 0 22 v0 rfl rfl)) h0
 obtain⟨s1,rfl,rfl,rfl,ws1⟩:=open_string Tryz.underlying9 (hval 1 9 v1 rfl rfl) h1
 have hk1:=Nat.le_trans ws1 jd6;clear hA0;simp only[List.append_nil,List.nil_append]at hW';have hlt:∀ x∈p0,x.block < W.heap.size:=fun x hx=>by simpa using hW'.lt x (by simpa using hx)
 refine (jm7 W (joc hL) v0 l0 s1 hl0 hn0 hs0 hk1).mono fun e W' ⟨he,hE⟩=>?_;subst he;have hb:Below W.heap.size W W':=⟨hE.os,hE.tape,hE.output,hE.size,fun k hk=>hE.block k hk (fun h=>h)⟩;have hres:DataW.TrodAll enc Tryz.prog W' 0 (fun b=>decide (b < W.heap.size)) true [22,9] [v0,.string s1] [d0,.lit (.string s1.data.toList)] (p0):=by
  simpa using trodAll_mk2 (Below.trod Tryz.laidOutK (by kernel_rfl) (of_decide_eq_true (by kernel_rfl)) h0 hb (fun x hx=>hlt x (by simp[hx]))) (shut_string Tryz.underlying9 ws1)
 refine⟨_,rfl,_,_,_,[],p0,[],hW',trodAll_mk1 (shut_bool Tryz.underlying4 _),?_,rfl,hb.frame _,fun h=>by cases h⟩
 exact hres
theorem jfi(os:Os){H:Type}(enc:TypeId × Value→H):∃ places,DataW.whole enc Tryz.prog ((laidWorld os).forCall (fun _ _=>0) ⟨#[],#[.slice none 0 0,.string ⟨#[]⟩],[]⟩).memory Tryz.f8.params.toList Rows.proofBuildsSpec.vars false #[.slice none 0 0,.string ⟨#[]⟩].toList 8=some ([.nil,.lit (.string [])],[],places):=
 ⟨[],by kernel_rfl⟩
theorem jeS(os:Os)(started:os.Started)(H:Type)(enc:TypeId × Value→H)(F:Stop.Interp) :
  ReturnsInHanded {} Tryz.checked os 8 .any ((OpenSpec.ofChange Rows.proofBuildsSpec).preRow enc Tryz.prog Tryz.f8 Rows.proofBuildsRow.domain false Rows.proofBuildsRow.laid) (((OpenSpec.ofChange Rows.proofBuildsSpec).at F).post enc Tryz.prog Tryz.f8 false true false false):=by
 obtain⟨places,hx⟩:=jfi os enc
 refine returnsInHanded_of_row (C:=Tryz.checked) (s:=OpenSpec.ofChange Rows.proofBuildsSpec) Tryz.ownK started (by kernel_rfl) Tryz.func8
  (witness_row_at (enc:=enc) (C:=Tryz.checked) false (laidWorld os) #[.slice none 0 0,.string ⟨#[]⟩] rfl (by kernel_rfl) (by kernel_rfl) (by kernel_rfl)
   (OpenSpec.preRow_of_cond 8 hx (by kernel_rfl) (fun k hk=>by cases hk) (by kernel_rfl) (jow os _))) ?_
 intro W base args ds gs before hval hW _ _ _ hL _ _;exact jed H enc W base args ds gs before hval hW hL
theorem jeR:joinedFacts Tryz.pinned.checked.prog 8 Tryz.f8 (OpenSpec.ofChange Rows.proofBuildsSpec).bare Rows.proofBuildsRow=true:=by
 unfold joinedFacts;simp only[Bool.and_eq_true]
 refine⟨⟨⟨⟨⟨⟨⟨⟨⟨⟨⟨⟨⟨⟨⟨⟨⟨⟨⟨⟨⟨⟨⟨⟨⟨⟨⟨⟨⟨⟨⟨?_,jlA⟩,ji6⟩,?_⟩,?_⟩,?_⟩,joX⟩,?_⟩,ji8⟩,?_⟩,?_⟩,?_⟩,?_⟩,?_⟩,?_⟩,?_⟩,?_⟩,?_⟩,?_⟩,?_⟩,?_⟩,?_⟩,ji7⟩,?_⟩,jhZ⟩,jjO⟩,jnu⟩,jqD⟩,?_⟩,?_⟩,?_⟩,?_⟩
 all_goals (as_aux_lemma=>kernel_rfl)
theorem jdg:Tryz.prog.funcNamed "guilloche/guillochelaw11.ProofBuilds"=some 8:=by kernel_rfl
theorem jfz:false=Rows.proofBuildsRow.goesBy Tryz.prog:=by kernel_rfl
theorem jfk:Tryz.f8.isWrapper Tryz.pinned.checked.prog Rows.proofBuildsRow.wrapper Rows.proofBuildsRow.mainSum:=by
 unfold Func.isWrapper;first |(rw[if_pos (by decide +kernel)];kernel_rfl) |(rw[if_neg (by decide +kernel)];exact⟨rfl,rfl⟩)
theorem jfj:([22,9].all fun u => !Tryz.prog.wantsStandIn u)=true:=by kernel_rfl
theorem jfA:Rows.ProofBuildsSaid:=
 OpenClaim.holds_of_cond 8 Tryz.f8 rfl rfl rfl rfl rfl rfl rfl ⟨rfl,rfl,rfl,rfl,rfl⟩ rfl rfl rfl rfl rfl jdg Tryz.func8 jeR
  (of_decide_eq_true (by kernel_rfl)) jfk
  (fun os started H enc _ F=>by rw[OpenClaim.pre_eq_preRow];exact jeS os started H enc F)
theorem proofBuildsCard_holds:Rows.ProofBuildsCardSaid:=
 Claim7.holds_tied_plain_at .later [] [.handle,.data] true (true, "8c5f272a4f50c57b89adc642ff179197ab23413d260365b3032a29931c6330fb") true
  jfA (fun _ h=>by cases h) (by kernel_rfl) (fun _ h=>by cases h) proofBuilds_row_tie rfl ⟨rfl,rfl⟩ jqC rfl
  (fun f fn hf hfn=>by
   obtain rfl:f=8:=Option.some.inj (jdg.symm.trans hf) |>.symm;obtain rfl:fn=Tryz.f8:=(Option.some.inj (Tryz.func8.symm.trans hfn)).symm
   exact⟨joW,fun j t ht=>by
    rw[Tryz.params8]at ht;have hm:t∈[22,9]:=by simpa using Array.mem_of_getElem? ht
    exact (show Tryz.prog.wantsStandIn t=false by simpa using List.all_eq_true.1 jfj t hm)⟩)
  jfz
end
end Go.Proofs.YtcpnjmcipainpaaGreatDoor
