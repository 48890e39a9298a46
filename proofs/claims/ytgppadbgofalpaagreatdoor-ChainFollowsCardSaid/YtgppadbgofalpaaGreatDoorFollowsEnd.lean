/- Lemmas. -/
import Derived.Test.YtgppadbgofalpaaGreatDoorPa0
import Derived.Test.YtgppadbgofalpaaGreatDoorPa27
namespace Go.Proofs.YtgppadbgofalpaaGreatDoor
open Go.Proofs.Tryz
set_option linter.unusedSimpArgs false
set_option linter.unusedVariables false
set_option maxRecDepth 100000
set_option maxHeartbeats 16000000
section
open Go Go.ChangeShapes Go.WideShapes Go.ChangeAt Go.RowKit Go.ChangeMaps
theorem yT(H:Type)(enc:TypeId × vV->H)(W:vW)(base:Nat)(args:Array vV)(ds gs:List (DataW H))(before:List MemPlace)
  (hval:∀ (j:Nat) t v,f3.params[j]?=some t->args[j]?=some v->Value.okWide prog W .any base t v)
  (hW:DataW.Whole enc prog f3.params.toList Rows.chainFollowsSpec.vars false W args.toList ds gs before) (hL:laidMetH prog Rows.chainFollowsRow.laid W) :
  vQ 3 args W fun e W'=>∃ v,e=.returned v/\Rows.chainFollowsSpec.post enc prog f3 false true false false W args v W':=by
 have A:=hW
 obtain⟨p,q,K,hV,rfl,a4,a5⟩:=hW
 have hA:DataW.TrodAll enc prog W 0 (fun _=>true) true f3.params.toList args.toList ds p:=K;rw[params3]at hA hval
 obtain⟨v0,v1,d0,d1,p0,p1,rfl,rfl,rfl,h0,h1⟩:=trodAll_two hA
 obtain⟨rfl,rfl⟩:=trodVars_none hV
 obtain⟨J,rfl,rfl,rfl,O⟩:=open_int underlying3 (hval 0 3 v0 rfl rfl) h0
 obtain⟨l1,a0,a1,a2⟩:=R_ (okWide_slice underlying22 (hval 1 22 v1 rfl rfl)) h1
 clear K;simp only[cB,cL]at A;have a3:∀ x∈p1,x.block<W.heap.size:=fun x hx=>by simpa using A.lt x (by simpa using hx)
 refine (zG W (juW hL) (wB hL) J (show -9223372036854775808<=J/\J<=9223372036854775807 from by have h:IntKind.i64.min<=J/\J<=IntKind.i64.max:=(by simpa [Lit.wf]using O);exact h) v1 l1 a0 a1 a2).mono fun e W' ⟨he,X⟩=>?_;subst he;have hb:Below W.heap.size W W':=⟨X.os,X.tape,X.output,X.size,fun k hk=>X.block k hk (fun h=>h)⟩;have Z:DataW.TrodAll enc prog W' 0 (fun b=>decide (b<W.heap.size)) true [3,22] [.int .i64 J,v1] [.lit (.int .i64 J),d1] (p1):=by simpa using trodAll_mk2 (shut_int underlying3 O) (Below.trod Pg vY (of_decide_eq_true vY) h1 hb (fun x hx=>a3 x (by simp[hx])))
 refine⟨_,rfl,_,_,_,[],p1,[],A,trodAll_mk1 (shut_bool underlying4 _),?_,rfl,hb.frame _,fun h=>by cases h⟩
 exact Z
theorem yU(os:Os){H:Type}(enc:TypeId × vV->H):∃ places,DataW.whole enc prog ((Mh os).forCall (fun _ _=>0) ⟨#[],#[.int .i64 0,.slice none 0 0],[]⟩).memory f3.params.toList Rows.chainFollowsSpec.vars false #[.int .i64 0,.slice none 0 0].toList 8=some ([.lit (.int .i64 0),.nil],[],places):=
 ⟨[],by kernel_rfl⟩
theorem yY(os:Os)(started:os.Started)(H:Type)(enc:TypeId × vV->H)(F:Stop.Interp) :
  ReturnsInHanded {} Tryz.checked os 3 .any ((OpenSpec.ofChange Rows.chainFollowsSpec).preRow enc prog f3 Rows.chainFollowsRow.domain false Rows.chainFollowsRow.laid) (((OpenSpec.ofChange Rows.chainFollowsSpec).at F).post enc prog f3 false true false false):=by
 obtain⟨J,K⟩:=yU os enc
 refine returnsInHanded_of_row (C:=Tryz.checked) (s:=OpenSpec.ofChange Rows.chainFollowsSpec) Vy started vY func3 (witness_row_at (enc:=enc) (C:=Tryz.checked) false (Mh os) #[.int .i64 0,.slice none 0 0] rfl vY vY vY (OpenSpec.preRow_of_cond 8 K vY (fun k O=>by cases O) vY (jvN os _))) ?_
 intro W q args X Z e A hW _ _ _ hL _ _;exact yT H enc W q args X Z e A hW hL
theorem yX:joinedFacts Tryz.pinned.checked.prog 3 f3 (OpenSpec.ofChange Rows.chainFollowsSpec).bare Rows.chainFollowsRow=true:=by
 unfold joinedFacts;simp only[cI]
 refine⟨⟨⟨⟨⟨⟨⟨⟨⟨⟨⟨⟨⟨⟨⟨⟨⟨⟨⟨⟨⟨⟨⟨⟨⟨⟨⟨⟨⟨⟨⟨?_,jqH⟩,n_⟩,?_⟩,?_⟩,?_⟩,jwy⟩,?_⟩,p_⟩,?_⟩,?_⟩,?_⟩,?_⟩,?_⟩,?_⟩,?_⟩,?_⟩,?_⟩,?_⟩,?_⟩,?_⟩,?_⟩,o_⟩,?_⟩,a_⟩,C_⟩,jtT⟩,jyW⟩,?_⟩,?_⟩,?_⟩,?_⟩
 all_goals (as_aux_lemma=>kernel_rfl)
theorem XX:prog.funcNamed "guilloche/guillochelaw15.ChainFollows"=some 3:=vY
theorem zC:false=Rows.chainFollowsRow.goesBy prog:=vY
theorem yW:f3.isWrapper Tryz.pinned.checked.prog Rows.chainFollowsRow.wrapper Rows.chainFollowsRow.mainSum:=by
 unfold Func.isWrapper;first|(rw[if_pos (by decide +kernel)];kernel_rfl)|(rw[if_neg (by decide +kernel)];exact⟨rfl,rfl⟩)
theorem yV:([3,22].all fun u => !prog.wantsStandIn u)=true:=vY
theorem zD:Rows.ChainFollowsSaid:=
 OpenClaim.holds_of_cond 3 f3 rfl rfl rfl rfl rfl rfl rfl ⟨rfl,rfl,rfl,rfl,rfl⟩ rfl rfl rfl rfl rfl XX func3 yX
  (of_decide_eq_true vY) yW
  (fun q e H enc _ F=>by rw[OpenClaim.pre_eq_preRow];exact yY q e H enc F)
theorem chainFollowsCard_holds:Rows.ChainFollowsCardSaid:=
 Claim7.holds_tied_plain_at .later [] [.handle,.data] true (true, "a007f1aedb78545a70ee6ef44d2d73687197b1c10d76e2000717d2420eb71f05") true
  zD (fun _ h=>by cases h) vY (fun _ h=>by cases h) chainFollows_row_tie rfl ⟨rfl,rfl⟩ jyV rfl
  (fun f A H e=>by
   obtain rfl:f=3:=bV (XX.symm.trans H) |>.symm;obtain rfl:A=f3:=(bV (func3.symm.trans e)).symm
   exact⟨jwx,fun j t q=>by
    rw[params3]at q;have J:t∈[3,22]:=by simpa using Array.mem_of_getElem? q
    exact (show prog.wantsStandIn t=false by simpa using fD.1 yV t J)⟩)
  zC
end
