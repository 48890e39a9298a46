/- Lemmas; each is under no condition but those that it states. -/
import Derived.Test.YtepbencaoiompaaGreatDoorPa42
namespace Go.Proofs.YtepbencaoiompaaGreatDoor
set_option linter.unusedSimpArgs false
set_option linter.unusedVariables false
set_option maxRecDepth 100000
set_option maxHeartbeats 16000000
section
open Go Go.ChangeShapes Go.WideShapes Go.ChangeAt Go.RowKit Go.ChangeMaps
theorem jhE:laidOutB Tryz.pinned.checked.prog=true:=vY
theorem jfz:mapsRowed Tryz.pinned.checked.prog=true:=vY
theorem jlA:(Tryz.pinned.checked.prog.stops == [])=true:=vY
theorem jfB:(Tryz.pinned.checked.prog.stopKnobs == [])=true:=vY
theorem jfA:(Rows.trieAnyRow.plainKeys == Tryz.pinned.checked.prog.plainKeys)=true:=vY
theorem je7:Tryz.pinned.checked.prog.stopsHeard=true:=vY
theorem jgq:Tryz.pinned.checked.prog.mayEnter=true:=vY
theorem jja:(Rows.trieAnyRow.lifted == Tryz.pinned.checked.prog.liftsFinal)=true:=vY
theorem jox:(Tryz.pinned.checked.prog.make == some Rows.trieAnyRow.make)=true:=vY
theorem jow:Tryz.pinned.checked.prog.mainIs=some (true, "087eabbfeb5a6d94cf76b150faf67893eed89f08030ca4e0b04361998624e316".toList):=vY
theorem jlz:true=Tryz.pinned.checked.prog.looks []:=vY
theorem jhU(H:Type)(enc:TypeId × vV->H)(W:vW)(base:Nat)(args:Array vV)(ds gs:List (DataW H))(before:List MemPlace)
  (hval:∀ (j:Nat) t v,Tryz.f4.params[j]?=some t->args[j]?=some v->Value.okWide Tryz.prog W .any base t v)
  (hW:DataW.Whole enc Tryz.prog Tryz.f4.params.toList Rows.diffAnySpec.vars false W args.toList ds gs before) (hL:laidMetH Tryz.prog Rows.diffAnyRow.laid W) :
  vQ 4 args W fun e Q=>∃ v,e=.returned v/\Rows.diffAnySpec.post enc Tryz.prog Tryz.f4 false true false false W args v Q:=by
 have o:=hW
 obtain⟨p,q,z,hV,rfl,a7,a8⟩:=hW
 have hA:DataW.TrodAll enc Tryz.prog W 0 (fun _=>true) true Tryz.f4.params.toList args.toList ds p:=z;rw[Tryz.params4]at hA hval
 obtain⟨X,v1,Z,d0,d1,d2,p0,p1,p2,rfl,rfl,rfl,h0,h1,h2⟩:=trodAll_three hA
 obtain⟨rfl,rfl⟩:=trodVars_none hV
 obtain⟨l0,a0,a1,a2⟩:=jka (okWide_slice Tryz.underlying22 (hval 0 22 X rfl rfl)) h0
 obtain⟨s1,rfl,rfl,rfl,A⟩:=open_string Tryz.underlying9 (hval 1 9 v1 rfl rfl) h1
 have a3:=bH A jcW
 obtain⟨l2,a4,a5,a6⟩:=jhQ (okWide_slice Tryz.underlying23 (hval 2 23 Z rfl rfl)) h2
 clear z;simp only[bU,cM]at o;have E:∀ x∈p0++p2,x.block < W.heap.size:=fun x J=>by simpa using o.lt x (by simpa using J)
 refine (jxW W (jo1 hL) (jxl hL) X Z l0 l2 s1 a0 a1 a2 a3 a4 a5 a6).mono fun e Q ⟨he,K⟩=>?_;subst he;have hb:Below W.heap.size W Q:=⟨K.os,K.tape,K.output,K.size,fun k hk=>K.block k hk (fun h=>h)⟩;have O:DataW.TrodAll enc Tryz.prog Q 0 (fun b=>decide (b < W.heap.size)) true [22,9,23] [X,.string s1,Z] [d0,.lit (.string s1.data.toList),d2] (p0++p2):=by
  simpa using trodAll_mk3 (Below.trod Tryz.laidOutK vY (of_decide_eq_true vY) h0 hb (fun x J=>E x (by simp[J]))) (shut_string Tryz.underlying9 A) (Below.trod Tryz.laidOutK vY (of_decide_eq_true vY) h2 hb (fun x J=>E x (by simp[J])))
 refine⟨_,rfl,_,_,_,[],p0++p2,[],o,trodAll_mk1 (shut_bool Tryz.underlying4 _),?_,rfl,hb.frame _,fun h=>by cases h⟩
 exact O
theorem jkM(os:Os){H:Type}(enc:TypeId × vV->H):∃ places,DataW.whole enc Tryz.prog ((laidWorld os).forCall (fun _ _=>0) ⟨#[],#[.slice none 0 0,.string ⟨#[]⟩,.slice none 0 0],[]⟩).memory Tryz.f4.params.toList Rows.diffAnySpec.vars false #[.slice none 0 0,.string ⟨#[]⟩,.slice none 0 0].toList 8=some ([.nil,.lit (.string []),.nil],[],places):=
 ⟨[],by kernel_rfl⟩
theorem jjs(os:Os)(started:os.Started)(H:Type)(enc:TypeId × vV->H)(F:Stop.Interp) :
  ReturnsInHanded {} Tryz.checked os 4 .any ((OpenSpec.ofChange Rows.diffAnySpec).preRow enc Tryz.prog Tryz.f4 Rows.diffAnyRow.domain false Rows.diffAnyRow.laid) (((OpenSpec.ofChange Rows.diffAnySpec).at F).post enc Tryz.prog Tryz.f4 false true false false):=by
 obtain⟨z,A⟩:=jkM os enc
 refine returnsInHanded_of_row (C:=Tryz.checked) (s:=OpenSpec.ofChange Rows.diffAnySpec) Tryz.ownK started vY Tryz.func4
  (witness_row_at (enc:=enc) (C:=Tryz.checked) false (laidWorld os) #[.slice none 0 0,.string ⟨#[]⟩,.slice none 0 0] rfl vY vY vY
   (OpenSpec.preRow_of_cond 8 A vY (fun k E=>by cases E) vY (jpu os _))) ?_
 intro W o args J K e q O _ _ _ Q _ _;exact jhU H enc W o args J K e q O Q
theorem jjr:joinedFacts Tryz.pinned.checked.prog 4 Tryz.f4 (OpenSpec.ofChange Rows.diffAnySpec).bare Rows.diffAnyRow=true:=by
 unfold joinedFacts;simp only[cI]
 refine⟨⟨⟨⟨⟨⟨⟨⟨⟨⟨⟨⟨⟨⟨⟨⟨⟨⟨⟨⟨⟨⟨⟨⟨⟨⟨⟨⟨⟨⟨⟨?_,jhE⟩,jfz⟩,?_⟩,?_⟩,?_⟩,jlA⟩,?_⟩,jfB⟩,?_⟩,?_⟩,?_⟩,?_⟩,?_⟩,?_⟩,?_⟩,?_⟩,?_⟩,?_⟩,?_⟩,?_⟩,?_⟩,jfA⟩,?_⟩,je7⟩,jgq⟩,jja⟩,jox⟩,?_⟩,?_⟩,?_⟩,?_⟩
 all_goals (as_aux_lemma=>kernel_rfl)
theorem jgB:Tryz.prog.funcNamed "guilloche/guillochelaw10.DiffAny"=some 4:=vY
theorem jmh:false=Rows.diffAnyRow.goesBy Tryz.prog:=vY
theorem jkO:Tryz.f4.isWrapper Tryz.pinned.checked.prog Rows.diffAnyRow.wrapper Rows.diffAnyRow.mainSum:=by
 unfold Func.isWrapper;first |(rw[if_pos (by decide +kernel)];kernel_rfl) |(rw[if_neg (by decide +kernel)];exact⟨rfl,rfl⟩)
theorem jkN:([22,9,23].all fun u => !Tryz.prog.wantsStandIn u)=true:=vY
theorem jmi:Rows.DiffAnySaid:=
 OpenClaim.holds_of_cond 4 Tryz.f4 rfl rfl rfl rfl rfl rfl rfl ⟨rfl,rfl,rfl,rfl,rfl⟩ rfl rfl rfl rfl rfl jgB Tryz.func4 jjr
  (of_decide_eq_true vY) jkO
  (fun o e H enc _ F=>by rw[OpenClaim.pre_eq_preRow];exact jjs o e H enc F)
theorem diffAnyCard_holds:Rows.DiffAnyCardSaid:=
 Claim7.holds_tied_plain_at .later [] [.handle,.data] true (true, "087eabbfeb5a6d94cf76b150faf67893eed89f08030ca4e0b04361998624e316") true
  jmi (fun _ h=>by cases h) vY (fun _ h=>by cases h) diffAny_row_tie rfl ⟨rfl,rfl⟩ jow rfl
  (fun f q z e=>by
   obtain rfl:f=4:=bQ (jgB.symm.trans z) |>.symm;obtain rfl:q=Tryz.f4:=(bQ (Tryz.func4.symm.trans e)).symm
   exact⟨jlz,fun j t o=>by
    rw[Tryz.params4]at o;have A:t∈[22,9,23]:=by simpa using Array.mem_of_getElem? o
    exact (show Tryz.prog.wantsStandIn t=false by simpa using dN.1 jkN t A)⟩)
  jmh
end
end Go.Proofs.YtepbencaoiompaaGreatDoor
