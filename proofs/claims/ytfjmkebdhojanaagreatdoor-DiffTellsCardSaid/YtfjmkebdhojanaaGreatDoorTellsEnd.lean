/- Lemmas; each is under no condition but those that it states. -/
import Derived.Test.YtfjmkebdhojanaaGreatDoorPt36
namespace Go.Proofs.YtfjmkebdhojanaaGreatDoor
set_option linter.unusedSimpArgs false
set_option linter.unusedVariables false
set_option maxRecDepth 100000
set_option maxHeartbeats 16000000
section
open Go Go.ChangeShapes Go.WideShapes Go.ChangeAt Go.RowKit Go.ChangeMaps
theorem jq5:laidOutB Tryz.pinned.checked.prog=true:=vY
theorem jm8:mapsRowed Tryz.pinned.checked.prog=true:=vY
theorem jwj:(Tryz.pinned.checked.prog.stops == [])=true:=vY
theorem jna:(Tryz.pinned.checked.prog.stopKnobs == [])=true:=vY
theorem jm9:(Rows.diffTellsRow.plainKeys == Tryz.pinned.checked.prog.plainKeys)=true:=vY
theorem jll:Tryz.pinned.checked.prog.stopsHeard=true:=vY
theorem jos:Tryz.pinned.checked.prog.mayEnter=true:=vY
theorem jtZ:(Rows.diffTellsRow.lifted == Tryz.pinned.checked.prog.liftsFinal)=true:=vY
theorem jyx:(Tryz.pinned.checked.prog.make == some Rows.diffTellsRow.make)=true:=vY
theorem jyw:Tryz.pinned.checked.prog.mainIs=some (true, "d085342b237cf7b2d32364afd11bab887c8f9d99064d92feaf16fcc6ae9b57aa".toList):=vY
theorem jwi:true=Tryz.pinned.checked.prog.looks []:=vY
theorem jgx(H:Type)(enc:TypeId × vV->H)(W:vW)(base:Nat)(args:Array vV)(ds gs:List (DataW H))(before:List MemPlace)
  (hval:∀ (j:Nat) t v,Tryz.f3.params[j]?=some t->args[j]?=some v->Value.okWide Tryz.prog W .any base t v)
  (hW:DataW.Whole enc Tryz.prog Tryz.f3.params.toList Rows.diffTellsSpec.vars false W args.toList ds gs before) (hL:laidMetH Tryz.prog Rows.diffTellsRow.laid W) :
  vQ 3 args W fun e Q=>∃ v,e=.returned v/\Rows.diffTellsSpec.post enc Tryz.prog Tryz.f3 false true false false W args v Q:=by
 have o:=hW
 obtain⟨p,q,A,hV,rfl,a6,a7⟩:=hW
 have hA:DataW.TrodAll enc Tryz.prog W 0 (fun _=>true) true Tryz.f3.params.toList args.toList ds p:=A;rw[Tryz.params3]at hA hval
 obtain⟨X,Z,d0,d1,p0,p1,rfl,rfl,rfl,h0,h1⟩:=trodAll_two hA
 obtain⟨rfl,rfl⟩:=trodVars_none hV
 obtain⟨l0,a0,a1,a2⟩:=jhG (okWide_slice Tryz.underlying22 (hval 0 22 X rfl rfl)) h0
 obtain⟨l1,a3,a4,a5⟩:=jhG (okWide_slice Tryz.underlying22 (hval 1 22 Z rfl rfl)) h1
 clear A;simp only[bZ,cT]at o;have E:∀ x∈p0++p1,x.block < W.heap.size:=fun x J=>by simpa using o.lt x (by simpa using J)
 refine (jyD W (juU hL) (jzP hL) X Z l0 l1 a0 a3 a1 a4 a2 a5).mono fun e Q ⟨he,K⟩=>?_;subst he;have hb:Below W.heap.size W Q:=⟨K.os,K.tape,K.output,K.size,fun k hk=>K.block k hk (fun h=>h)⟩;have O:DataW.TrodAll enc Tryz.prog Q 0 (fun b=>decide (b < W.heap.size)) true [22,22] [X,Z] [d0,d1] (p0++p1):=by
  simpa using trodAll_mk2 (Below.trod Tryz.laidOutK vY (of_decide_eq_true vY) h0 hb (fun x J=>E x (by simp[J]))) (Below.trod Tryz.laidOutK vY (of_decide_eq_true vY) h1 hb (fun x J=>E x (by simp[J])))
 refine⟨_,rfl,_,_,_,[],p0++p1,[],o,trodAll_mk1 (shut_bool Tryz.underlying4 _),?_,rfl,hb.frame _,fun h=>by cases h⟩
 exact O
theorem jir(os:Os){H:Type}(enc:TypeId × vV->H):∃ places,DataW.whole enc Tryz.prog ((laidWorld os).forCall (fun _ _=>0) ⟨#[],#[.slice none 0 0,.slice none 0 0],[]⟩).memory Tryz.f3.params.toList Rows.diffTellsSpec.vars false #[.slice none 0 0,.slice none 0 0].toList 8=some ([.nil,.nil],[],places):=
 ⟨[],by kernel_rfl⟩
theorem jhK(os:Os)(started:os.Started)(H:Type)(enc:TypeId × vV->H)(F:Stop.Interp) :
  ReturnsInHanded {} Tryz.checked os 3 .any ((OpenSpec.ofChange Rows.diffTellsSpec).preRow enc Tryz.prog Tryz.f3 Rows.diffTellsRow.domain false Rows.diffTellsRow.laid) (((OpenSpec.ofChange Rows.diffTellsSpec).at F).post enc Tryz.prog Tryz.f3 false true false false):=by
 obtain⟨E,J⟩:=jir os enc
 refine returnsInHanded_of_row (C:=Tryz.checked) (s:=OpenSpec.ofChange Rows.diffTellsSpec) Tryz.ownK started vY Tryz.func3
  (witness_row_at (enc:=enc) (C:=Tryz.checked) false (laidWorld os) #[.slice none 0 0,.slice none 0 0] rfl vY vY vY
   (OpenSpec.preRow_of_cond 8 J vY (fun k K=>by cases K) vY (jvx os _))) ?_
 intro W o args O Q e A X _ _ _ Z _ _;exact jgx H enc W o args O Q e A X Z
theorem jhJ:joinedFacts Tryz.pinned.checked.prog 3 Tryz.f3 (OpenSpec.ofChange Rows.diffTellsSpec).bare Rows.diffTellsRow=true:=by
 unfold joinedFacts;simp only[cY]
 refine⟨⟨⟨⟨⟨⟨⟨⟨⟨⟨⟨⟨⟨⟨⟨⟨⟨⟨⟨⟨⟨⟨⟨⟨⟨⟨⟨⟨⟨⟨⟨?_,jq5⟩,jm8⟩,?_⟩,?_⟩,?_⟩,jwj⟩,?_⟩,jna⟩,?_⟩,?_⟩,?_⟩,?_⟩,?_⟩,?_⟩,?_⟩,?_⟩,?_⟩,?_⟩,?_⟩,?_⟩,?_⟩,jm9⟩,?_⟩,jll⟩,jos⟩,jtZ⟩,jyx⟩,?_⟩,?_⟩,?_⟩,?_⟩
 all_goals (as_aux_lemma=>kernel_rfl)
theorem jff:Tryz.prog.funcNamed "guilloche/guillochelaw10.DiffTells"=some 3:=vY
theorem jjp:false=Rows.diffTellsRow.goesBy Tryz.prog:=vY
theorem jit:Tryz.f3.isWrapper Tryz.pinned.checked.prog Rows.diffTellsRow.wrapper Rows.diffTellsRow.mainSum:=by
 unfold Func.isWrapper;first |(rw[if_pos (by decide +kernel)];kernel_rfl) |(rw[if_neg (by decide +kernel)];exact⟨rfl,rfl⟩)
theorem jis:([22,22].all fun u => !Tryz.prog.wantsStandIn u)=true:=vY
theorem jjq:Rows.DiffTellsSaid:=
 OpenClaim.holds_of_cond 3 Tryz.f3 rfl rfl rfl rfl rfl rfl rfl ⟨rfl,rfl,rfl,rfl,rfl⟩ rfl rfl rfl rfl rfl jff Tryz.func3 jhJ
  (of_decide_eq_true vY) jit
  (fun o e H enc _ F=>by rw[OpenClaim.pre_eq_preRow];exact jhK o e H enc F)
theorem diffTellsCard_holds:Rows.DiffTellsCardSaid:=
 Claim7.holds_tied_plain_at .later [] [.handle,.data] true (true, "d085342b237cf7b2d32364afd11bab887c8f9d99064d92feaf16fcc6ae9b57aa") true
  jjq (fun _ h=>by cases h) vY (fun _ h=>by cases h) diffTells_row_tie rfl ⟨rfl,rfl⟩ jyw rfl
  (fun f A E e=>by
   obtain rfl:f=3:=bO (jff.symm.trans E) |>.symm;obtain rfl:A=Tryz.f3:=(bO (Tryz.func3.symm.trans e)).symm
   exact⟨jwi,fun j t o=>by
    rw[Tryz.params3]at o;have H:t∈[22,22]:=by simpa using Array.mem_of_getElem? o
    exact (show Tryz.prog.wantsStandIn t=false by simpa using fH.1 jis t H)⟩)
  jjp
end
