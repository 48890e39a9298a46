/- Lemmas; each is under no condition but those that it states. -/
import Derived.Test.YtmobgkphhbmhbaaGreatDoorPb32
namespace Go.Proofs.YtmobgkphhbmhbaaGreatDoor
set_option linter.unusedSimpArgs false
set_option linter.unusedVariables false
set_option maxRecDepth 100000
set_option maxHeartbeats 16000000
section
open Go Go.ChangeShapes Go.WideShapes Go.ChangeAt Go.RowKit Go.ChangeMaps
theorem jhb:laidOutB Tryz.pinned.checked.prog=true:=vY
theorem jfb:mapsRowed Tryz.pinned.checked.prog=true:=vY
theorem jkI:(Tryz.pinned.checked.prog.stops == [])=true:=vY
theorem jfd:(Tryz.pinned.checked.prog.stopKnobs == [])=true:=vY
theorem jfc:(Rows.diffBackRow.plainKeys == Tryz.pinned.checked.prog.plainKeys)=true:=vY
theorem jeH:Tryz.pinned.checked.prog.stopsHeard=true:=vY
theorem jf4:Tryz.pinned.checked.prog.mayEnter=true:=vY
theorem jiC:(Rows.diffBackRow.lifted == Tryz.pinned.checked.prog.liftsFinal)=true:=vY
theorem jnl:(Tryz.pinned.checked.prog.make == some Rows.diffBackRow.make)=true:=vY
theorem jnk:Tryz.pinned.checked.prog.mainIs=some (true, "ca975cbaf88a57180c6581da1a34838109c44da6645cc7d55dae79c808fd011d".toList):=vY
theorem jkH:true=Tryz.pinned.checked.prog.looks []:=vY
theorem jgT(H:Type)(enc:TypeId × vV->H)(W:vW)(base:Nat)(args:Array vV)(ds gs:List (DataW H))(before:List MemPlace)
  (hval:∀ (j:Nat) t v,Tryz.f5.params[j]?=some t->args[j]?=some v->Value.okWide Tryz.prog W .any base t v)
  (hW:DataW.Whole enc Tryz.prog Tryz.f5.params.toList Rows.diffBackSpec.vars false W args.toList ds gs before) (hL:laidMetH Tryz.prog Rows.diffBackRow.laid W) :
  vQ 5 args W fun e O=>∃ v,e=.returned v/\Rows.diffBackSpec.post enc Tryz.prog Tryz.f5 false true false false W args v O:=by
 have o:=hW
 obtain⟨p,q,E,hV,rfl,a9,b0⟩:=hW
 have hA:DataW.TrodAll enc Tryz.prog W 0 (fun _=>true) true Tryz.f5.params.toList args.toList ds p:=E;rw[Tryz.params5]at hA hval
 obtain⟨Q,X,Z,d0,d1,d2,p0,p1,p2,rfl,rfl,rfl,h0,h1,h2⟩:=trodAll_three hA
 obtain⟨rfl,rfl⟩:=trodVars_none hV
 obtain⟨l0,a0,a1,a2⟩:=je1 (okWide_slice Tryz.underlying32 (hval 0 32 Q rfl rfl)) h0
 obtain⟨l1,a3,a4,a5⟩:=je1 (okWide_slice Tryz.underlying32 (hval 1 32 X rfl rfl)) h1
 obtain⟨l2,a6,a7,a8⟩:=jlW (okWide_slice Tryz.underlying23 (hval 2 23 Z rfl rfl)) h2
 clear E;simp only[bS,cP]at o;have z:∀ x∈p0++p1++p2,x.block < W.heap.size:=fun x A=>by simpa using o.lt x (by simpa using A)
 refine (jxm W (jnG hL) (juV hL) Q X Z l0 l1 l2 a0 a3 a6 a1 a4 a7 a2 a5 a8).mono fun e O ⟨he,J⟩=>?_;subst he;have hb:Below W.heap.size W O:=⟨J.os,J.tape,J.output,J.size,fun k hk=>J.block k hk (fun h=>h)⟩;have K:DataW.TrodAll enc Tryz.prog O 0 (fun b=>decide (b < W.heap.size)) true [32,32,23] [Q,X,Z] [d0,d1,d2] (p0++p1++p2):=by
  simpa using trodAll_mk3 (Below.trod Tryz.laidOutK vY (of_decide_eq_true vY) h0 hb (fun x A=>z x (by simp[A]))) (Below.trod Tryz.laidOutK vY (of_decide_eq_true vY) h1 hb (fun x A=>z x (by simp[A]))) (Below.trod Tryz.laidOutK vY (of_decide_eq_true vY) h2 hb (fun x A=>z x (by simp[A])))
 refine⟨_,rfl,_,_,_,[],p0++p1++p2,[],o,trodAll_mk1 (shut_bool Tryz.underlying4 _),?_,rfl,hb.frame _,fun h=>by cases h⟩
 exact K
theorem jiO(os:Os){H:Type}(enc:TypeId × vV->H):∃ places,DataW.whole enc Tryz.prog ((laidWorld os).forCall (fun _ _=>0) ⟨#[],#[.slice none 0 0,.slice none 0 0,.slice none 0 0],[]⟩).memory Tryz.f5.params.toList Rows.diffBackSpec.vars false #[.slice none 0 0,.slice none 0 0,.slice none 0 0].toList 8=some ([.nil,.nil,.nil],[],places):=
 ⟨[],by kernel_rfl⟩
theorem jhZ(os:Os)(started:os.Started)(H:Type)(enc:TypeId × vV->H)(F:Stop.Interp) :
  ReturnsInHanded {} Tryz.checked os 5 .any ((OpenSpec.ofChange Rows.diffBackSpec).preRow enc Tryz.prog Tryz.f5 Rows.diffBackRow.domain false Rows.diffBackRow.laid) (((OpenSpec.ofChange Rows.diffBackSpec).at F).post enc Tryz.prog Tryz.f5 false true false false):=by
 obtain⟨z,A⟩:=jiO os enc
 refine returnsInHanded_of_row (C:=Tryz.checked) (s:=OpenSpec.ofChange Rows.diffBackSpec) Tryz.ownK started vY Tryz.func5
  (witness_row_at (enc:=enc) (C:=Tryz.checked) false (laidWorld os) #[.slice none 0 0,.slice none 0 0,.slice none 0 0] rfl vY vY vY
   (OpenSpec.preRow_of_cond 8 A vY (fun k E=>by cases E) vY (joc os _))) ?_
 intro W o args J K e q O _ _ _ Q _ _;exact jgT H enc W o args J K e q O Q
theorem jhY:joinedFacts Tryz.pinned.checked.prog 5 Tryz.f5 (OpenSpec.ofChange Rows.diffBackSpec).bare Rows.diffBackRow=true:=by
 unfold joinedFacts;simp only[cQ]
 refine⟨⟨⟨⟨⟨⟨⟨⟨⟨⟨⟨⟨⟨⟨⟨⟨⟨⟨⟨⟨⟨⟨⟨⟨⟨⟨⟨⟨⟨⟨⟨?_,jhb⟩,jfb⟩,?_⟩,?_⟩,?_⟩,jkI⟩,?_⟩,jfd⟩,?_⟩,?_⟩,?_⟩,?_⟩,?_⟩,?_⟩,?_⟩,?_⟩,?_⟩,?_⟩,?_⟩,?_⟩,?_⟩,jfc⟩,?_⟩,jeH⟩,jf4⟩,jiC⟩,jnl⟩,?_⟩,?_⟩,?_⟩,?_⟩
 all_goals (as_aux_lemma=>kernel_rfl)
theorem jfH:Tryz.prog.funcNamed "guilloche/guillochelaw10.DiffBack"=some 5:=vY
theorem jj0:false=Rows.diffBackRow.goesBy Tryz.prog:=vY
theorem jiQ:Tryz.f5.isWrapper Tryz.pinned.checked.prog Rows.diffBackRow.wrapper Rows.diffBackRow.mainSum:=by
 unfold Func.isWrapper;first |(rw[if_pos (by decide +kernel)];kernel_rfl) |(rw[if_neg (by decide +kernel)];exact⟨rfl,rfl⟩)
theorem jiP:([32,32,23].all fun u => !Tryz.prog.wantsStandIn u)=true:=vY
theorem jj1:Rows.DiffBackSaid:=
 OpenClaim.holds_of_cond 5 Tryz.f5 rfl rfl rfl rfl rfl rfl rfl ⟨rfl,rfl,rfl,rfl,rfl⟩ rfl rfl rfl rfl rfl jfH Tryz.func5 jhY
  (of_decide_eq_true vY) jiQ
  (fun o e H enc _ F=>by rw[OpenClaim.pre_eq_preRow];exact jhZ o e H enc F)
theorem diffBackCard_holds:Rows.DiffBackCardSaid:=
 Claim7.holds_tied_plain_at .later [] [.handle,.data] true (true, "ca975cbaf88a57180c6581da1a34838109c44da6645cc7d55dae79c808fd011d") true
  jj1 (fun _ h=>by cases h) vY (fun _ h=>by cases h) diffBack_row_tie rfl ⟨rfl,rfl⟩ jnk rfl
  (fun f q z e=>by
   obtain rfl:f=5:=bV (jfH.symm.trans z) |>.symm;obtain rfl:q=Tryz.f5:=(bV (Tryz.func5.symm.trans e)).symm
   exact⟨jkH,fun j t o=>by
    rw[Tryz.params5]at o;have A:t∈[32,32,23]:=by simpa using Array.mem_of_getElem? o
    exact (show Tryz.prog.wantsStandIn t=false by simpa using dS.1 jiP t A)⟩)
  jj0
end
end Go.Proofs.YtmobgkphhbmhbaaGreatDoor
