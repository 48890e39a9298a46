/- Lemmas. -/
import Derived.Test.YtgmmpefjadjajaaGreatDoorPa0
import Derived.Test.YtgmmpefjadjajaaGreatDoorPa27
namespace Go.Proofs.YtgmmpefjadjajaaGreatDoor
open Go.Proofs.Tryz
set_option linter.unusedSimpArgs false
set_option linter.unusedVariables false
set_option maxRecDepth 100000
set_option maxHeartbeats 16000000
section
open Go Go.ChangeShapes Go.WideShapes Go.ChangeAt Go.RowKit Go.ChangeMaps
theorem jCo(H:Type)(enc:TypeId × vV->H)(W:vW)(base:Nat)(args:Array vV)(ds gs:List (DataW H))(before:List MemPlace)
  (hval:∀ (j:Nat) t v,f3.params[j]?=some t->args[j]?=some v->Value.okWide prog W .any base t v)
  (hW:DataW.Whole enc prog f3.params.toList Rows.chainHoldsSpec.vars false W args.toList ds gs before) (hL:laidMetH prog Rows.chainHoldsRow.laid W) :
  vQ 3 args W λe W'=>∃ v,e=.returned v/\Rows.chainHoldsSpec.post enc prog f3 false true false false W args v W':=by
 have A:=hW
 obtain⟨p,q,X,hV,rfl,c3,c4⟩:=hW
 have hA:DataW.TrodAll enc prog W 0 (λ_=>true) true f3.params.toList args.toList ds p:=X;rw[params3]at hA hval
 obtain⟨v0,v1,v2,v3,d0,d1,d2,d3,p0,p1,p2,p3,rfl,rfl,rfl,h0,h1,h2,h3⟩:=trodAll_four hA
 obtain⟨rfl,rfl⟩:=trodVars_none hV
 obtain⟨s0,rfl,rfl,rfl,b3⟩:=open_int underlying3 (hval 0 3 v0 rfl rfl) h0
 obtain⟨l1,b4,b5,b6⟩:=jnA (okWide_slice underlying22 (hval 1 22 v1 rfl rfl)) h1
 obtain⟨l2,b7,b8,b9⟩:=jnA (okWide_slice underlying22 (hval 2 22 v2 rfl rfl)) h2
 obtain⟨c5,c7,c8,c9,d4,d5,d6,d7,m3,c0,d8,d9,Z,a0,a1,a2⟩:=Joins.open_agg4 underlying24 vY (show prog.cellsOf 24=4 by kernel_rfl) (hval 3 24 v3 rfl rfl) h3
 obtain⟨a4,a5,_,e0⟩:=DataW.trod_int underlying3 Z
 obtain⟨a7,a8,_,c1⟩:=DataW.trod_string underlying9 a0
 obtain⟨a9,b0,_,c2⟩:=DataW.trod_string underlying9 a1
 obtain⟨b1,b2,_,e1⟩:=DataW.trod_int underlying3 a2
 simp only[List.cons.injEq,and_true]at a5 a8 b0 b2;subst a5 a8 b0 b2 c0;clear X;simp only[cC,cL]at A;have K:∀ x∈p1++p2++p3,x.block<(W:Nat):=λx O=>by simpa using A.lt x (by simpa using O)
 refine (jCM W (H8 hL) (xH hL) s0 v1 l1 b4 b5 b6 v2 l2 b7 b8 b9 a4 b1 a7 a9 (bH c1 FY) (bH c2 FY)).mono λe W' ⟨he,hE⟩=>?_;subst he;have hb:Below W W W':=⟨hE.os,hE.tape,hE.output,hE.size,λk hk=>hE.block k hk kI⟩;have a3:DataW.TrodAll enc prog W' 0 (λb=>decide (b<(W:Nat))) true [3,22,22,24] [.int .i64 s0,v1,v2,.agg #[.int .i64 a4,a7,a9,.int .i64 b1]] [.lit (.int .i64 s0),d1,d2,d3] (p1++p2++p3):=by simpa using trodAll_mk4 (shut_int underlying3 b3) (Below.trod Kl vY (of_decide_eq_true vY) h1 hb λx O=>K x (by simp[O])) (Below.trod Kl vY (of_decide_eq_true vY) h2 hb λx O=>K x (by simp[O])) (Below.trod Kl vY (of_decide_eq_true vY) h3 hb λx O=>K x (by simp[O]))
 refine⟨_,rfl,_,_,_,[],p1++p2++p3,[],A,trodAll_mk1 (shut_bool underlying4 _),?_,rfl,hb.frame _,λh=>by cases h⟩
 exact a3
theorem jCt(os:Os){H:Type}(enc:TypeId × vV->H):∃ places,DataW.whole enc prog ((Mq os).forCall (λ_ _=>0) ⟨#[],#[.int .i64 0,.slice none 0 0,.slice none 0 0,.agg #[.int .i64 0,.string ⟨#[]⟩,.string ⟨#[]⟩,.int .i64 0]],[]⟩).memory f3.params.toList Rows.chainHoldsSpec.vars false #[.int .i64 0,.slice none 0 0,.slice none 0 0,.agg #[.int .i64 0,.string ⟨#[]⟩,.string ⟨#[]⟩,.int .i64 0]].toList 8=some ([.lit (.int .i64 0),.nil,.nil,.agg [.lit (.int .i64 0),.lit (.string []),.lit (.string []),.lit (.int .i64 0)]],[],places):=
 ⟨[],by kernel_rfl⟩
theorem jCs(os:Os)(started:os.Started)(H:Type)(enc:TypeId × vV->H)(F:Stop.Interp):ReturnsInHanded {} Tryz.checked os 3 .any ((OpenSpec.ofChange Rows.chainHoldsSpec).preRow enc prog f3 Rows.chainHoldsRow.domain false Rows.chainHoldsRow.laid) (((OpenSpec.ofChange Rows.chainHoldsSpec).at F).post enc prog f3 false true false false):=by
 obtain⟨K,O⟩:=jCt os enc
 refine returnsInHanded_of_row (C:=Tryz.checked) (s:=OpenSpec.ofChange Rows.chainHoldsSpec) Ws started vY func3 (witness_row_at (enc:=enc) (C:=Tryz.checked) false (Mq os) #[qa,qe,qe,.agg #[qa,(),(),qa]] rfl vY vY vY (OpenSpec.preRow_of_cond 8 O vY (λk X=>by cases X) vY (E4 os _))) ?_
 intro W q args Z gs e A hW _ _ _ hL _ _;exact jCo H enc W q args Z gs e A hW hL
theorem jCr:joinedFacts Tryz.pinned.checked.prog 3 f3 (OpenSpec.ofChange Rows.chainHoldsSpec).bare Rows.chainHoldsRow=true:=by
 unfold joinedFacts;simp only[cI]
 refine⟨⟨⟨⟨⟨⟨⟨⟨⟨⟨⟨⟨⟨⟨⟨⟨⟨⟨⟨⟨⟨⟨⟨⟨⟨⟨⟨⟨⟨⟨⟨?_,h3⟩,V_⟩,?_⟩,?_⟩,?_⟩,L5⟩,?_⟩,X_⟩,?_⟩,?_⟩,?_⟩,?_⟩,?_⟩,?_⟩,?_⟩,?_⟩,?_⟩,?_⟩,?_⟩,?_⟩,?_⟩,W_⟩,?_⟩,y_⟩,a5⟩,t5⟩,jzj⟩,?_⟩,?_⟩,?_⟩,?_⟩
 all_goals (as_aux_lemma=>kernel_rfl)
theorem jCm:prog.funcNamed "guilloche/guillochelaw15.ChainHolds"=some 3:=vY
theorem jCw:false=Rows.chainHoldsRow.goesBy prog:=vY
theorem jCv:f3.isWrapper Tryz.pinned.checked.prog Rows.chainHoldsRow.wrapper Rows.chainHoldsRow.mainSum:=by
 unfold Func.isWrapper;first|(rw[if_pos ze];kernel_rfl)|(rw[if_neg ze];exact⟨rfl,rfl⟩)
theorem jCu:([3,22,22,24].all λu => !prog.wantsStandIn u)=true:=vY
theorem jCx:Rows.ChainHoldsSaid:=
 OpenClaim.holds_of_cond 3 f3 rfl rfl rfl rfl rfl rfl rfl ⟨rfl,rfl,rfl,rfl,rfl⟩ rfl rfl rfl rfl rfl jCm func3 jCr
  (of_decide_eq_true vY) jCv
  (λq e H enc _ F=>by rw[OpenClaim.pre_eq_preRow];exact jCs q e H enc F)
theorem chainHoldsCard_holds:Rows.ChainHoldsCardSaid:=
 Claim7.holds_tied_plain_at .later [] [.handle,.data] true (true, "ccb96fafcf2fe2376f1719c44547cfccdfb47f5cc73528a56ccbdce61cf288f8") true
  jCx (λ_ h=>by cases h) vY (λ_ h=>by cases h) chainHolds_row_tie rfl ⟨rfl,rfl⟩ jzi rfl
  (λf A H e=>by
   obtain rfl:f=3:=bV (jCm.symm.trans H) |>.symm;obtain rfl:A=f3:=(bV (func3.symm.trans e)).symm
   exact⟨L4,λj t q=>by
    rw[params3]at q;have K:t∈[3,22,22,24]:=by simpa using Array.mem_of_getElem? q
    exact (show prog.wantsStandIn t=false by simpa using fJ.1 jCu t K)⟩)
  jCw
end
