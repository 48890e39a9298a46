/- Lemmas; each is under no condition but those that it states. -/
import Derived.Test.YtegloohdmjadoaaGreatDoorPu37
namespace Go.Proofs.YtegloohdmjadoaaGreatDoor
set_option linter.unusedSimpArgs false
set_option linter.unusedVariables false
set_option maxRecDepth 100000
set_option maxHeartbeats 16000000
section
open Go Go.ChangeShapes Go.WideShapes Go.ChangeAt Go.RowKit Go.ChangeMaps
theorem jfK(H:Type)(enc:TypeId × vV->H)(W:vW)(base:Nat)(args:Array vV)(ds gs:List (DataW H))(before:List MemPlace)
  (hval:∀ (j:Nat) t v,Tryz.f3.params[j]?=some t->args[j]?=some v->Value.okWide Tryz.prog W .any base t v)
  (hW:DataW.Whole enc Tryz.prog Tryz.f3.params.toList Rows.trieUpdatesSpec.vars false W args.toList ds gs before) (hL:laidMetH Tryz.prog Rows.trieUpdatesRow.laid W) :
  vQ 3 args W fun e O=>∃ v,e=.returned v/\Rows.trieUpdatesSpec.post enc Tryz.prog Tryz.f3 false true false false W args v O:=by
 have m:=hW
 obtain⟨p,q,E,hV,rfl,a9,b0⟩:=hW
 have hA:DataW.TrodAll enc Tryz.prog W 0 (fun _=>true) true Tryz.f3.params.toList args.toList ds p:=E;rw[Tryz.params3]at hA hval
 obtain⟨Q,X,Z,d0,d1,d2,p0,p1,p2,rfl,rfl,rfl,h0,h1,h2⟩:=trodAll_three hA
 obtain⟨rfl,rfl⟩:=trodVars_none hV
 obtain⟨l0,a0,a1,a2⟩:=jhA (okWide_slice Tryz.underlying22 (hval 0 22 Q rfl rfl)) h0
 obtain⟨l1,a3,a4,a5⟩:=jl8 (okWide_slice Tryz.underlying23 (hval 1 23 X rfl rfl)) h1
 obtain⟨l2,a6,a7,a8⟩:=jhA (okWide_slice Tryz.underlying22 (hval 2 22 Z rfl rfl)) h2
 clear E;simp only[cC,cM]at m;have o:∀ x∈p0++p1++p2,x.block < W.heap.size:=fun x A=>by simpa using m.lt x (by simpa using A)
 refine (jqx W (jue hL) (jy7 hL) Q X Z l0 l1 l2 a0 a3 a6 a1 a4 a7 a2 a5 a8).mono fun e O ⟨he,J⟩=>?_;subst he;have hb:Below W.heap.size W O:=⟨J.os,J.tape,J.output,J.size,fun k hk=>J.block k hk (fun h=>h)⟩;have K:DataW.TrodAll enc Tryz.prog O 0 (fun b=>decide (b < W.heap.size)) true [22,23,22] [Q,X,Z] [d0,d1,d2] (p0++p1++p2):=by
  simpa using trodAll_mk3 (Below.trod Tryz.laidOutK vY (of_decide_eq_true vY) h0 hb (fun x A=>o x (by simp[A]))) (Below.trod Tryz.laidOutK vY (of_decide_eq_true vY) h1 hb (fun x A=>o x (by simp[A]))) (Below.trod Tryz.laidOutK vY (of_decide_eq_true vY) h2 hb (fun x A=>o x (by simp[A])))
 refine⟨_,rfl,_,_,_,[],p0++p1++p2,[],m,trodAll_mk1 (shut_bool Tryz.underlying4 _),?_,rfl,hb.frame _,fun h=>by cases h⟩
 exact K
theorem jhp(os:Os){H:Type}(enc:TypeId × vV->H):∃ places,DataW.whole enc Tryz.prog ((laidWorld os).forCall (fun _ _=>0) ⟨#[],#[.slice none 0 0,.slice none 0 0,.slice none 0 0],[]⟩).memory Tryz.f3.params.toList Rows.trieUpdatesSpec.vars false #[.slice none 0 0,.slice none 0 0,.slice none 0 0].toList 8=some ([.nil,.nil,.nil],[],places):=
 ⟨[],by kernel_rfl⟩
theorem jgF(os:Os)(started:os.Started)(H:Type)(enc:TypeId × vV->H)(F:Stop.Interp) :
  ReturnsInHanded {} Tryz.checked os 3 .any ((OpenSpec.ofChange Rows.trieUpdatesSpec).preRow enc Tryz.prog Tryz.f3 Rows.trieUpdatesRow.domain false Rows.trieUpdatesRow.laid) (((OpenSpec.ofChange Rows.trieUpdatesSpec).at F).post enc Tryz.prog Tryz.f3 false true false false):=by
 obtain⟨A,E⟩:=jhp os enc
 refine returnsInHanded_of_row (C:=Tryz.checked) (s:=OpenSpec.ofChange Rows.trieUpdatesSpec) Tryz.ownK started vY Tryz.func3
  (witness_row_at (enc:=enc) (C:=Tryz.checked) false (laidWorld os) #[.slice none 0 0,.slice none 0 0,.slice none 0 0] rfl vY vY vY
   (OpenSpec.preRow_of_cond 8 E vY (fun k J=>by cases J) vY (juQ os _))) ?_
 intro W m args K O e o Q _ _ _ X _ _;exact jfK H enc W m args K O e o Q X
theorem jgE:joinedFacts Tryz.pinned.checked.prog 3 Tryz.f3 (OpenSpec.ofChange Rows.trieUpdatesSpec).bare Rows.trieUpdatesRow=true:=by
 unfold joinedFacts;simp only[cJ]
 refine⟨⟨⟨⟨⟨⟨⟨⟨⟨⟨⟨⟨⟨⟨⟨⟨⟨⟨⟨⟨⟨⟨⟨⟨⟨⟨⟨⟨⟨⟨⟨?_,jqs⟩,jmz⟩,?_⟩,?_⟩,?_⟩,jvB⟩,?_⟩,jmB⟩,?_⟩,?_⟩,?_⟩,?_⟩,?_⟩,?_⟩,?_⟩,?_⟩,?_⟩,?_⟩,?_⟩,?_⟩,?_⟩,jmA⟩,?_⟩,jk0⟩,jnK⟩,jti⟩,jxT⟩,?_⟩,?_⟩,?_⟩,?_⟩
 all_goals (as_aux_lemma=>kernel_rfl)
theorem jex:Tryz.prog.funcNamed "guilloche/guillochelaw08.TrieUpdates"=some 3:=vY
theorem jhF:false=Rows.trieUpdatesRow.goesBy Tryz.prog:=vY
theorem jhr:Tryz.f3.isWrapper Tryz.pinned.checked.prog Rows.trieUpdatesRow.wrapper Rows.trieUpdatesRow.mainSum:=by
 unfold Func.isWrapper;first |(rw[if_pos (by decide +kernel)];kernel_rfl) |(rw[if_neg (by decide +kernel)];exact⟨rfl,rfl⟩)
theorem jhq:([22,23,22].all fun u => !Tryz.prog.wantsStandIn u)=true:=vY
theorem jhG:Rows.TrieUpdatesSaid:=
 OpenClaim.holds_of_cond 3 Tryz.f3 rfl rfl rfl rfl rfl rfl rfl ⟨rfl,rfl,rfl,rfl,rfl⟩ rfl rfl rfl rfl rfl jex Tryz.func3 jgE
  (of_decide_eq_true vY) jhr
  (fun m e H enc _ F=>by rw[OpenClaim.pre_eq_preRow];exact jgF m e H enc F)
theorem trieUpdatesCard_holds:Rows.TrieUpdatesCardSaid:=
 Claim7.holds_tied_plain_at .later [] [.handle,.data] true (true, "b2a57d2038684a1b3720665185be4d34046a0bd340e37fc10f2d824a2c6bf016") true
  jhG (fun _ h=>by cases h) vY (fun _ h=>by cases h) trieUpdates_row_tie rfl ⟨rfl,rfl⟩ jxS rfl
  (fun f o A e=>by
   obtain rfl:f=3:=bN (jex.symm.trans A) |>.symm;obtain rfl:o=Tryz.f3:=(bN (Tryz.func3.symm.trans e)).symm
   exact⟨jvA,fun j t m=>by
    rw[Tryz.params3]at m;have E:t∈[22,23,22]:=by simpa using Array.mem_of_getElem? m
    exact (show Tryz.prog.wantsStandIn t=false by simpa using fG.1 jhq t E)⟩)
  jhF
end
end Go.Proofs.YtegloohdmjadoaaGreatDoor
