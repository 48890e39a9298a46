/- Lemmas; each is under no condition but those that it states. -/
import Derived.Test.YtdofbjccfkaijaaGreatDoorPn36
namespace Go.Proofs.YtdofbjccfkaijaaGreatDoor
set_option linter.unusedSimpArgs false
set_option linter.unusedVariables false
set_option maxRecDepth 100000
set_option maxHeartbeats 16000000
section
open Go Go.ChangeShapes Go.WideShapes Go.ChangeAt Go.RowKit Go.ChangeMaps
theorem jq6:laidOutB Tryz.pinned.checked.prog=true:=vY
theorem jmU:mapsRowed Tryz.pinned.checked.prog=true:=vY
theorem jwp:(Tryz.pinned.checked.prog.stops == [])=true:=vY
theorem jmW:(Tryz.pinned.checked.prog.stopKnobs == [])=true:=vY
theorem jmV:(Rows.diffUndoesRow.plainKeys == Tryz.pinned.checked.prog.plainKeys)=true:=vY
theorem jlg:Tryz.pinned.checked.prog.stopsHeard=true:=vY
theorem joe:Tryz.pinned.checked.prog.mayEnter=true:=vY
theorem jt2:(Rows.diffUndoesRow.lifted == Tryz.pinned.checked.prog.liftsFinal)=true:=vY
theorem jyH:(Tryz.pinned.checked.prog.make == some Rows.diffUndoesRow.make)=true:=vY
theorem jyG:Tryz.pinned.checked.prog.mainIs=some (true, "c85618aa9cb867c65a4f3e931933545a80c5d8c3842ae1311951a29e5eb32d22".toList):=vY
theorem jwo:true=Tryz.pinned.checked.prog.looks []:=vY
theorem jf7(H:Type)(enc:TypeId × vV->H)(W:vW)(base:Nat)(args:Array vV)(ds gs:List (DataW H))(before:List MemPlace)
  (hval:∀ (j:Nat) t v,Tryz.f3.params[j]?=some t->args[j]?=some v->Value.okWide Tryz.prog W .any base t v)
  (hW:DataW.Whole enc Tryz.prog Tryz.f3.params.toList Rows.diffUndoesSpec.vars false W args.toList ds gs before) (hL:laidMetH Tryz.prog Rows.diffUndoesRow.laid W) :
  vQ 3 args W fun e Q=>∃ v,e=.returned v/\Rows.diffUndoesSpec.post enc Tryz.prog Tryz.f3 false true false false W args v Q:=by
 have o:=hW
 obtain⟨p,q,E,hV,rfl,b0,b1⟩:=hW
 have hA:DataW.TrodAll enc Tryz.prog W 0 (fun _=>true) true Tryz.f3.params.toList args.toList ds p:=E;rw[Tryz.params3]at hA hval
 obtain⟨X,Z,v2,v3,d0,d1,d2,d3,p0,p1,p2,p3,rfl,rfl,rfl,h0,h1,h2,h3⟩:=trodAll_four hA
 obtain⟨rfl,rfl⟩:=trodVars_none hV
 obtain⟨l0,a0,a1,a2⟩:=jhL (okWide_slice Tryz.underlying22 (hval 0 22 X rfl rfl)) h0
 obtain⟨l1,a3,a4,a5⟩:=jmt (okWide_slice Tryz.underlying23 (hval 1 23 Z rfl rfl)) h1
 obtain⟨l2,a6,a7,a8⟩:=jhL (okWide_slice Tryz.underlying22 (hval 2 22 v2 rfl rfl)) h2
 obtain⟨s3,rfl,rfl,rfl,J⟩:=open_string Tryz.underlying9 (hval 3 9 v3 rfl rfl) h3
 have a9:=bK J jc3;clear E;simp only[bW,cP]at o;have z:∀ x∈p0++p1++p2,x.block < W.heap.size:=fun x A=>by simpa using o.lt x (by simpa using A)
 refine (jwz W (juX hL) (jz1 hL) X Z v2 l0 l1 l2 s3 a0 a3 a6 a1 a7 a4 a2 a8 a5 a9).mono fun e Q ⟨he,K⟩=>?_;subst he;have hb:Below W.heap.size W Q:=⟨K.os,K.tape,K.output,K.size,fun k hk=>K.block k hk (fun h=>h)⟩;have O:DataW.TrodAll enc Tryz.prog Q 0 (fun b=>decide (b < W.heap.size)) true [22,23,22,9] [X,Z,v2,.string s3] [d0,d1,d2,.lit (.string s3.data.toList)] (p0++p1++p2):=by
  simpa using trodAll_mk4 (Below.trod Tryz.laidOutK vY (of_decide_eq_true vY) h0 hb (fun x A=>z x (by simp[A]))) (Below.trod Tryz.laidOutK vY (of_decide_eq_true vY) h1 hb (fun x A=>z x (by simp[A]))) (Below.trod Tryz.laidOutK vY (of_decide_eq_true vY) h2 hb (fun x A=>z x (by simp[A]))) (shut_string Tryz.underlying9 J)
 refine⟨_,rfl,_,_,_,[],p0++p1++p2,[],o,trodAll_mk1 (shut_bool Tryz.underlying4 _),?_,rfl,hb.frame _,fun h=>by cases h⟩
 exact O
theorem jhO(os:Os){H:Type}(enc:TypeId × vV->H):∃ places,DataW.whole enc Tryz.prog ((laidWorld os).forCall (fun _ _=>0) ⟨#[],#[.slice none 0 0,.slice none 0 0,.slice none 0 0,.string ⟨#[]⟩],[]⟩).memory Tryz.f3.params.toList Rows.diffUndoesSpec.vars false #[.slice none 0 0,.slice none 0 0,.slice none 0 0,.string ⟨#[]⟩].toList 8=some ([.nil,.nil,.nil,.lit (.string [])],[],places):=
 ⟨[],by kernel_rfl⟩
theorem jhg(os:Os)(started:os.Started)(H:Type)(enc:TypeId × vV->H)(F:Stop.Interp) :
  ReturnsInHanded {} Tryz.checked os 3 .any ((OpenSpec.ofChange Rows.diffUndoesSpec).preRow enc Tryz.prog Tryz.f3 Rows.diffUndoesRow.domain false Rows.diffUndoesRow.laid) (((OpenSpec.ofChange Rows.diffUndoesSpec).at F).post enc Tryz.prog Tryz.f3 false true false false):=by
 obtain⟨A,E⟩:=jhO os enc
 refine returnsInHanded_of_row (C:=Tryz.checked) (s:=OpenSpec.ofChange Rows.diffUndoesSpec) Tryz.ownK started vY Tryz.func3
  (witness_row_at (enc:=enc) (C:=Tryz.checked) false (laidWorld os) #[.slice none 0 0,.slice none 0 0,.slice none 0 0,.string ⟨#[]⟩] rfl vY vY vY
   (OpenSpec.preRow_of_cond 8 E vY (fun k J=>by cases J) vY (jvA os _))) ?_
 intro W o args K O e z Q _ _ _ X _ _;exact jf7 H enc W o args K O e z Q X
theorem jhf:joinedFacts Tryz.pinned.checked.prog 3 Tryz.f3 (OpenSpec.ofChange Rows.diffUndoesSpec).bare Rows.diffUndoesRow=true:=by
 unfold joinedFacts;simp only[cU]
 refine⟨⟨⟨⟨⟨⟨⟨⟨⟨⟨⟨⟨⟨⟨⟨⟨⟨⟨⟨⟨⟨⟨⟨⟨⟨⟨⟨⟨⟨⟨⟨?_,jq6⟩,jmU⟩,?_⟩,?_⟩,?_⟩,jwp⟩,?_⟩,jmW⟩,?_⟩,?_⟩,?_⟩,?_⟩,?_⟩,?_⟩,?_⟩,?_⟩,?_⟩,?_⟩,?_⟩,?_⟩,?_⟩,jmV⟩,?_⟩,jlg⟩,joe⟩,jt2⟩,jyH⟩,?_⟩,?_⟩,?_⟩,?_⟩
 all_goals (as_aux_lemma=>kernel_rfl)
theorem je0:Tryz.prog.funcNamed "guilloche/guillochelaw10.DiffUndoes"=some 3:=vY
theorem jis:false=Rows.diffUndoesRow.goesBy Tryz.prog:=vY
theorem jhQ:Tryz.f3.isWrapper Tryz.pinned.checked.prog Rows.diffUndoesRow.wrapper Rows.diffUndoesRow.mainSum:=by
 unfold Func.isWrapper;first |(rw[if_pos (by decide +kernel)];kernel_rfl) |(rw[if_neg (by decide +kernel)];exact⟨rfl,rfl⟩)
theorem jhP:([22,23,22,9].all fun u => !Tryz.prog.wantsStandIn u)=true:=vY
theorem jit:Rows.DiffUndoesSaid:=
 OpenClaim.holds_of_cond 3 Tryz.f3 rfl rfl rfl rfl rfl rfl rfl ⟨rfl,rfl,rfl,rfl,rfl⟩ rfl rfl rfl rfl rfl je0 Tryz.func3 jhf
  (of_decide_eq_true vY) jhQ
  (fun o e H enc _ F=>by rw[OpenClaim.pre_eq_preRow];exact jhg o e H enc F)
theorem diffUndoesCard_holds:Rows.DiffUndoesCardSaid:=
 Claim7.holds_tied_plain_at .later [] [.handle,.data] true (true, "c85618aa9cb867c65a4f3e931933545a80c5d8c3842ae1311951a29e5eb32d22") true
  jit (fun _ h=>by cases h) vY (fun _ h=>by cases h) diffUndoes_row_tie rfl ⟨rfl,rfl⟩ jyG rfl
  (fun f z A e=>by
   obtain rfl:f=3:=bS (je0.symm.trans A) |>.symm;obtain rfl:z=Tryz.f3:=(bS (Tryz.func3.symm.trans e)).symm
   exact⟨jwo,fun j t o=>by
    rw[Tryz.params3]at o;have E:t∈[22,23,22,9]:=by simpa using Array.mem_of_getElem? o
    exact (show Tryz.prog.wantsStandIn t=false by simpa using fB.1 jhP t E)⟩)
  jis
end
