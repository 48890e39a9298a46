/- Lemmas; each is under no condition but those that it states. -/
import Derived.Test.YtmobgkphhbmhbaaGreatDoorPe33
namespace Go.Proofs.YtmobgkphhbmhbaaGreatDoor
set_option linter.unusedSimpArgs false
set_option linter.unusedVariables false
set_option maxRecDepth 100000
set_option maxHeartbeats 16000000
section
open Go Go.ChangeShapes Go.WideShapes Go.ChangeAt Go.RowKit Go.ChangeMaps
theorem jhb:laidOutB Tryz.pinned.checked.prog=true:=vY
theorem jfb:mapsRowed Tryz.pinned.checked.prog=true:=vY
theorem jkz:(Tryz.pinned.checked.prog.stops == [])=true:=vY
theorem jfd:(Tryz.pinned.checked.prog.stopKnobs == [])=true:=vY
theorem jfc:(Rows.diffFreshRow.plainKeys == Tryz.pinned.checked.prog.plainKeys)=true:=vY
theorem jeH:Tryz.pinned.checked.prog.stopsHeard=true:=vY
theorem jf4:Tryz.pinned.checked.prog.mayEnter=true:=vY
theorem jiE:(Rows.diffFreshRow.lifted == Tryz.pinned.checked.prog.liftsFinal)=true:=vY
theorem jne:(Tryz.pinned.checked.prog.make == some Rows.diffFreshRow.make)=true:=vY
theorem jnd:Tryz.pinned.checked.prog.mainIs=some (true, "ca975cbaf88a57180c6581da1a34838109c44da6645cc7d55dae79c808fd011d".toList):=vY
theorem jky:true=Tryz.pinned.checked.prog.looks []:=vY
theorem jgk(H:Type)(enc:TypeId × vV->H)(W:vW)(base:Nat)(args:Array vV)(ds gs:List (DataW H))(before:List MemPlace)
  (hval:∀ (j:Nat) t v,Tryz.f10.params[j]?=some t->args[j]?=some v->Value.okWide Tryz.prog W .any base t v)
  (hW:DataW.Whole enc Tryz.prog Tryz.f10.params.toList Rows.diffFreshSpec.vars false W args.toList ds gs before) (hL:laidMetH Tryz.prog Rows.diffFreshRow.laid W) :
  vQ 10 args W fun e Q=>∃ v,e=.returned v/\Rows.diffFreshSpec.post enc Tryz.prog Tryz.f10 false true false false W args v Q:=by
 have o:=hW
 obtain⟨p,q,z,hV,rfl,a6,a7⟩:=hW
 have hA:DataW.TrodAll enc Tryz.prog W 0 (fun _=>true) true Tryz.f10.params.toList args.toList ds p:=z;rw[Tryz.params10]at hA hval
 obtain⟨X,Z,d0,d1,p0,p1,rfl,rfl,rfl,h0,h1⟩:=trodAll_two hA
 obtain⟨rfl,rfl⟩:=trodVars_none hV
 obtain⟨l0,a0,a1,a2⟩:=jdW (okWide_slice Tryz.underlying32 (hval 0 32 X rfl rfl)) h0
 obtain⟨l1,a3,a4,a5⟩:=jdW (okWide_slice Tryz.underlying32 (hval 1 32 Z rfl rfl)) h1
 clear z;simp only[bR,cP]at o;have E:∀ x∈p0++p1,x.block < W.heap.size:=fun x J=>by simpa using o.lt x (by simpa using J)
 refine (jq6 W (jnz hL) (jvb hL) X Z l0 l1 a0 a3 a1 a4 a2 a5).mono fun e Q ⟨he,K⟩=>?_;subst he;have hb:Below W.heap.size W Q:=⟨K.os,K.tape,K.output,K.size,fun k hk=>K.block k hk (fun h=>h)⟩;have O:DataW.TrodAll enc Tryz.prog Q 0 (fun b=>decide (b < W.heap.size)) true [32,32] [X,Z] [d0,d1] (p0++p1):=by
  simpa using trodAll_mk2 (Below.trod Tryz.laidOutK vY (of_decide_eq_true vY) h0 hb (fun x J=>E x (by simp[J]))) (Below.trod Tryz.laidOutK vY (of_decide_eq_true vY) h1 hb (fun x J=>E x (by simp[J])))
 refine⟨_,rfl,_,_,_,[],p0++p1,[],o,trodAll_mk1 (shut_bool Tryz.underlying4 _),?_,rfl,hb.frame _,fun h=>by cases h⟩
 exact O
theorem jhZ(os:Os){H:Type}(enc:TypeId × vV->H):∃ places,DataW.whole enc Tryz.prog ((laidWorld os).forCall (fun _ _=>0) ⟨#[],#[.slice none 0 0,.slice none 0 0],[]⟩).memory Tryz.f10.params.toList Rows.diffFreshSpec.vars false #[.slice none 0 0,.slice none 0 0].toList 8=some ([.nil,.nil],[],places):=
 ⟨[],by kernel_rfl⟩
theorem jhq(os:Os)(started:os.Started)(H:Type)(enc:TypeId × vV->H)(F:Stop.Interp) :
  ReturnsInHanded {} Tryz.checked os 10 .any ((OpenSpec.ofChange Rows.diffFreshSpec).preRow enc Tryz.prog Tryz.f10 Rows.diffFreshRow.domain false Rows.diffFreshRow.laid) (((OpenSpec.ofChange Rows.diffFreshSpec).at F).post enc Tryz.prog Tryz.f10 false true false false):=by
 obtain⟨z,E⟩:=jhZ os enc
 refine returnsInHanded_of_row (C:=Tryz.checked) (s:=OpenSpec.ofChange Rows.diffFreshSpec) Tryz.ownK started vY Tryz.func10
  (witness_row_at (enc:=enc) (C:=Tryz.checked) false (laidWorld os) #[.slice none 0 0,.slice none 0 0] rfl vY vY vY
   (OpenSpec.preRow_of_cond 8 E vY (fun k J=>by cases J) vY (jn7 os _))) ?_
 intro W o args K O e q Q _ _ _ X _ _;exact jgk H enc W o args K O e q Q X
theorem jhp:joinedFacts Tryz.pinned.checked.prog 10 Tryz.f10 (OpenSpec.ofChange Rows.diffFreshSpec).bare Rows.diffFreshRow=true:=by
 unfold joinedFacts;simp only[cQ]
 refine⟨⟨⟨⟨⟨⟨⟨⟨⟨⟨⟨⟨⟨⟨⟨⟨⟨⟨⟨⟨⟨⟨⟨⟨⟨⟨⟨⟨⟨⟨⟨?_,jhb⟩,jfb⟩,?_⟩,?_⟩,?_⟩,jkz⟩,?_⟩,jfd⟩,?_⟩,?_⟩,?_⟩,?_⟩,?_⟩,?_⟩,?_⟩,?_⟩,?_⟩,?_⟩,?_⟩,?_⟩,?_⟩,jfc⟩,?_⟩,jeH⟩,jf4⟩,jiE⟩,jne⟩,?_⟩,?_⟩,?_⟩,?_⟩
 all_goals (as_aux_lemma=>kernel_rfl)
theorem jeU:Tryz.prog.funcNamed "guilloche/guillochelaw10.DiffFresh"=some 10:=vY
theorem jiP:false=Rows.diffFreshRow.goesBy Tryz.prog:=vY
theorem jh1:Tryz.f10.isWrapper Tryz.pinned.checked.prog Rows.diffFreshRow.wrapper Rows.diffFreshRow.mainSum:=by
 unfold Func.isWrapper;first |(rw[if_pos (by decide +kernel)];kernel_rfl) |(rw[if_neg (by decide +kernel)];exact⟨rfl,rfl⟩)
theorem jh0:([32,32].all fun u => !Tryz.prog.wantsStandIn u)=true:=vY
theorem jiQ:Rows.DiffFreshSaid:=
 OpenClaim.holds_of_cond 10 Tryz.f10 rfl rfl rfl rfl rfl rfl rfl ⟨rfl,rfl,rfl,rfl,rfl⟩ rfl rfl rfl rfl rfl jeU Tryz.func10 jhp
  (of_decide_eq_true vY) jh1
  (fun o e H enc _ F=>by rw[OpenClaim.pre_eq_preRow];exact jhq o e H enc F)
theorem diffFreshCard_holds:Rows.DiffFreshCardSaid:=
 Claim7.holds_tied_plain_at .later [] [.handle,.data] true (true, "ca975cbaf88a57180c6581da1a34838109c44da6645cc7d55dae79c808fd011d") true
  jiQ (fun _ h=>by cases h) vY (fun _ h=>by cases h) diffFresh_row_tie rfl ⟨rfl,rfl⟩ jnd rfl
  (fun f q z e=>by
   obtain rfl:f=10:=bV (jeU.symm.trans z) |>.symm;obtain rfl:q=Tryz.f10:=(bV (Tryz.func10.symm.trans e)).symm
   exact⟨jky,fun j t o=>by
    rw[Tryz.params10]at o;have E:t∈[32,32]:=by simpa using Array.mem_of_getElem? o
    exact (show Tryz.prog.wantsStandIn t=false by simpa using dU.1 jh0 t E)⟩)
  jiP
end
end Go.Proofs.YtmobgkphhbmhbaaGreatDoor
