/- Lemmas. -/
import Derived.Test.YtebhlcllhigkcaaGreatDoorPa0
import Derived.Test.YtebhlcllhigkcaaGreatDoorPa30
namespace Go.Proofs.YtebhlcllhigkcaaGreatDoor
open Go.Proofs.Tryz
set_option linter.unusedSimpArgs false
set_option linter.unusedVariables false
set_option maxRecDepth 100000
set_option maxHeartbeats 16000000
section
open Go Go.ChangeShapes Go.WideShapes Go.ChangeAt Go.RowKit Go.ChangeMaps
theorem f_(H:Type)(enc:TypeId × vV->H)(W:vW)(base:Nat)(args:Array vV)(ds gs:List (DataW H))(before:List MemPlace)
  (hval:∀ (j:Nat) t v,Tryz.f3.params[j]?=some t->args[j]?=some v->Value.okWide prog W .any base t v)
  (hW:DataW.Whole enc prog Tryz.f3.params.toList Rows.chainSameSpec.vars false W args.toList ds gs before) (hL:laidMetH prog Rows.chainSameRow.laid W) :
  vQ 3 args W fun e W'=>∃ v,e=.returned v/\Rows.chainSameSpec.post enc prog Tryz.f3 false true false false W args v W':=by
 have A:=hW
 obtain⟨p,q,K,hV,rfl,c0,c1⟩:=hW
 have hA:DataW.TrodAll enc prog W 0 (fun _=>true) true Tryz.f3.params.toList args.toList ds p:=K;rw[params3]at hA hval
 obtain⟨v0,v1,v2,v3,d0,d1,d2,d3,p0,p1,p2,p3,rfl,rfl,rfl,h0,h1,h2,h3⟩:=trodAll_four hA
 obtain⟨rfl,rfl⟩:=trodVars_none hV
 obtain⟨s0,rfl,rfl,rfl,b2⟩:=open_int underlying3 (hval 0 3 v0 rfl rfl) h0
 obtain⟨s1,rfl,rfl,rfl,b3⟩:=open_int underlying3 (hval 1 3 v1 rfl rfl) h1
 obtain⟨l2,b4,b5,b6⟩:=d9 (okWide_slice underlying22 (hval 2 22 v2 rfl rfl)) h2
 obtain⟨c2,c3,c4,c5,c7,c8,c9,d4,m3,b7,d5,d6,O,X,Z,a0⟩:=Joins.open_agg4 underlying24 vY (show prog.cellsOf 24=4 by kernel_rfl) (hval 3 24 v3 rfl rfl) h3
 obtain⟨a2,a3,_,d7⟩:=DataW.trod_int underlying3 O
 obtain⟨a4,a5,_,b8⟩:=DataW.trod_string underlying9 X
 obtain⟨a7,a8,_,b9⟩:=DataW.trod_string underlying9 Z
 obtain⟨a9,b0,_,d8⟩:=DataW.trod_int underlying3 a0
 simp only[List.cons.injEq,and_true]at a3 a5 a8 b0;subst a3 a5 a8 b0 b7;clear K;simp only[cC,cL]at A;have b1:∀ x∈p2++p3,x.block<W.heap.size:=fun x hx=>by simpa using A.lt x (by simpa using hx)
 refine (R_ W (H8 hL) (xH hL) s0 s1 v2 l2 b4 b5 b6 a2 a9 a4 a7 (bF b8 FY) (bF b9 FY)).mono fun e W' ⟨he,hE⟩=>?_;subst he;have hb:Below W W W':=⟨hE.os,hE.tape,hE.output,hE.size,fun k hk=>hE.block k hk kI⟩;have a1:DataW.TrodAll enc prog W' 0 (fun b=>decide (b<W.heap.size)) true [3,3,22,24] [.int .i64 s0,.int .i64 s1,v2,.agg #[.int .i64 a2,a4,a7,.int .i64 a9]] [.lit (.int .i64 s0),.lit (.int .i64 s1),d2,d3] (p2++p3):=by simpa using trodAll_mk4 (shut_int underlying3 b2) (shut_int underlying3 b3) (Below.trod Kl vY (of_decide_eq_true vY) h2 hb fun x hx=>b1 x (by simp[hx])) (Below.trod Kl vY (of_decide_eq_true vY) h3 hb fun x hx=>b1 x (by simp[hx]))
 refine⟨_,rfl,_,_,_,[],p2++p3,[],A,trodAll_mk1 (shut_bool underlying4 _),?_,rfl,hb.frame _,fun h=>by cases h⟩
 exact a1
theorem l_(os:Os){H:Type}(enc:TypeId × vV->H):∃ places,DataW.whole enc prog ((Mq os).forCall (fun _ _=>0) ⟨#[],#[qa,qa,qe,.agg #[qa,(),(),qa]],[]⟩).memory Tryz.f3.params.toList Rows.chainSameSpec.vars false #[.int .i64 0,.int .i64 0,.slice none 0 0,.agg #[qa,(),(),qa]].toList 8=some ([.lit (.int .i64 0),.lit (.int .i64 0),.nil,.agg [.lit (.int .i64 0),.lit (.string []),.lit (.string []),.lit (.int .i64 0)]],[],places):=
 ⟨[],by kernel_rfl⟩
theorem i_(os:Os)(started:os.Started)(H:Type)(enc:TypeId × vV->H)(F:Stop.Interp):ReturnsInHanded {} Tryz.checked os 3 .any ((OpenSpec.ofChange Rows.chainSameSpec).preRow enc prog Tryz.f3 Rows.chainSameRow.domain false Rows.chainSameRow.laid) (((OpenSpec.ofChange Rows.chainSameSpec).at F).post enc prog Tryz.f3 false true false false):=by
 obtain⟨K,O⟩:=l_ os enc
 refine returnsInHanded_of_row (C:=Tryz.checked) (s:=OpenSpec.ofChange Rows.chainSameSpec) Ws started vY func3 (witness_row_at (enc:=enc) (C:=Tryz.checked) false (Mq os) #[qa,qa,qe,.agg #[qa,(),(),qa]] rfl vY vY vY (OpenSpec.preRow_of_cond 8 O vY (fun k X=>by cases X) vY (E4 os _))) ?_
 intro W q args Z gs e A hW _ _ _ hL _ _;exact f_ H enc W q args Z gs e A hW hL
theorem h_:joinedFacts Tryz.pinned.checked.prog 3 Tryz.f3 (OpenSpec.ofChange Rows.chainSameSpec).bare Rows.chainSameRow=true:=by
 unfold joinedFacts;simp only[cI]
 refine⟨⟨⟨⟨⟨⟨⟨⟨⟨⟨⟨⟨⟨⟨⟨⟨⟨⟨⟨⟨⟨⟨⟨⟨⟨⟨⟨⟨⟨⟨⟨?_,h3⟩,V_⟩,?_⟩,?_⟩,?_⟩,L5⟩,?_⟩,X_⟩,?_⟩,?_⟩,?_⟩,?_⟩,?_⟩,?_⟩,?_⟩,?_⟩,?_⟩,?_⟩,?_⟩,?_⟩,?_⟩,W_⟩,?_⟩,y_⟩,a5⟩,t5⟩,jzj⟩,?_⟩,?_⟩,?_⟩,?_⟩
 all_goals (as_aux_lemma=>kernel_rfl)
theorem ZC:prog.funcNamed "guilloche/guillochelaw15.ChainSame"=some 3:=vY
theorem p_:false=Rows.chainSameRow.goesBy prog:=vY
theorem n_:Tryz.f3.isWrapper Tryz.pinned.checked.prog Rows.chainSameRow.wrapper Rows.chainSameRow.mainSum:=by
 unfold Func.isWrapper;first|(rw[if_pos ze];kernel_rfl)|(rw[if_neg ze];exact⟨rfl,rfl⟩)
theorem m_:([3,3,22,24].all fun u => !prog.wantsStandIn u)=true:=vY
theorem q_:Rows.ChainSameSaid:=
 OpenClaim.holds_of_cond 3 Tryz.f3 rfl rfl rfl rfl rfl rfl rfl ⟨rfl,rfl,rfl,rfl,rfl⟩ rfl rfl rfl rfl rfl ZC func3 h_
  (of_decide_eq_true vY) n_
  (fun q e H enc _ F=>by rw[OpenClaim.pre_eq_preRow];exact i_ q e H enc F)
theorem chainSameCard_holds:Rows.ChainSameCardSaid:=
 Claim7.holds_tied_plain_at .later [] [.handle,.data] true (true, "d3651dca1afbddd334ba962a2e82c07d6c96165f243026b3bb7375d19caa8cc9") true
  q_ (fun _ h=>by cases h) vY (fun _ h=>by cases h) chainSame_row_tie rfl ⟨rfl,rfl⟩ jzi rfl
  (fun f A H e=>by
   obtain rfl:f=3:=bV (ZC.symm.trans H) |>.symm;obtain rfl:A=Tryz.f3:=(bV (func3.symm.trans e)).symm
   exact⟨L4,fun j t q=>by
    rw[params3]at q;have K:t∈[3,3,22,24]:=by simpa using Array.mem_of_getElem? q
    exact (show prog.wantsStandIn t=false by simpa using fF.1 m_ t K)⟩)
  p_
end
