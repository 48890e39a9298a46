/- Lemmas; each is under no condition but those that it states. -/
import Derived.Test.YtnkdaacmpceghaaGreatDoorPa27
namespace Go.Proofs.YtnkdaacmpceghaaGreatDoor
set_option linter.unusedSimpArgs false
set_option linter.unusedVariables false
set_option maxRecDepth 100000
set_option maxHeartbeats 16000000
section
open Go Go.ChangeShapes Go.WideShapes Go.ChangeAt Go.RowKit Go.ChangeMaps
theorem je0(H:Type)(enc:TypeId × vV->H)(W:vW)(base:Nat)(args:Array vV)(ds gs:List (DataW H))(before:List MemPlace)
  (hval:∀ (j:Nat) t v,Tryz.f3.params[j]?=some t->args[j]?=some v->Value.okWide Tryz.prog W .any base t v)
  (hW:DataW.Whole enc Tryz.prog Tryz.f3.params.toList Rows.chainAtomicSpec.vars false W args.toList ds gs before) (hL:laidMetH Tryz.prog Rows.chainAtomicRow.laid W) :
  vQ 3 args W fun e W'=>∃ v,e=.returned v/\Rows.chainAtomicSpec.post enc Tryz.prog Tryz.f3 false true false false W args v W':=by
 have A:=hW
 obtain⟨p,q,K,hV,rfl,b9,c0⟩:=hW
 have hA:DataW.TrodAll enc Tryz.prog W 0 (fun _=>true) true Tryz.f3.params.toList args.toList ds p:=K;rw[Tryz.params3]at hA hval
 obtain⟨v0,v1,v2,d0,d1,d2,p0,p1,p2,rfl,rfl,rfl,h0,h1,h2⟩:=trodAll_three hA
 obtain⟨rfl,rfl⟩:=trodVars_none hV
 obtain⟨J,rfl,rfl,rfl,O⟩:=open_int Tryz.underlying3 (hval 0 3 v0 rfl rfl) h0
 obtain⟨l1,b3,b4,b5⟩:=jlB (okWide_slice Tryz.underlying22 (hval 1 22 v1 rfl rfl)) h1
 obtain⟨c1,c2,c3,c4,c5,c7,c8,c9,m2,b6,d3,d4,X,Z,a0,a1⟩:=Joins.open_agg4 Tryz.underlying24 vY (show Tryz.prog.cellsOf 24=4 by kernel_rfl) (hval 2 24 v2 rfl rfl) h2
 obtain⟨a3,a4,_,d5⟩:=DataW.trod_int Tryz.underlying3 X
 obtain⟨a5,a7,_,b7⟩:=DataW.trod_string Tryz.underlying9 Z
 obtain⟨a8,a9,_,b8⟩:=DataW.trod_string Tryz.underlying9 a0
 obtain⟨b0,b1,_,d6⟩:=DataW.trod_int Tryz.underlying3 a1
 simp only[List.cons.injEq,and_true]at a4 a7 a9 b1;subst a4 a7 a9 b1 b6;clear K;simp only[cA,cN]at A;have b2:∀ x∈p1++p2,x.block < W.heap.size:=fun x hx=>by simpa using A.lt x (by simpa using hx)
 refine (ji4 W (jsE hL) (jxM hL) J (show -9223372036854775808<=J/\J<=9223372036854775807 from by have h:IntKind.i64.min<=J/\J<=IntKind.i64.max:=(by simpa [Lit.wf]using O);exact h) v1 l1 b3 b4 b5 a3 b0 a5 a8 (bE b7 jc6) (bE b8 jc6)).mono fun e W' ⟨he,hE⟩=>?_;subst he;have hb:Below W.heap.size W W':=⟨hE.os,hE.tape,hE.output,hE.size,fun k hk=>hE.block k hk (fun h=>h)⟩;have a2:DataW.TrodAll enc Tryz.prog W' 0 (fun b=>decide (b < W.heap.size)) true [3,22,24] [.int .i64 J,v1,.agg #[.int .i64 a3,.string a5,.string a8,.int .i64 b0]] [.lit (.int .i64 J),d1,d2] (p1++p2):=by
  simpa using trodAll_mk3 (shut_int Tryz.underlying3 O) (Below.trod Tryz.laidOutK vY (of_decide_eq_true vY) h1 hb (fun x hx=>b2 x (by simp[hx]))) (Below.trod Tryz.laidOutK vY (of_decide_eq_true vY) h2 hb (fun x hx=>b2 x (by simp[hx])))
 refine⟨_,rfl,_,_,_,[],p1++p2,[],A,trodAll_mk1 (shut_bool Tryz.underlying4 _),?_,rfl,hb.frame _,fun h=>by cases h⟩
 exact a2
theorem jf9(os:Os){H:Type}(enc:TypeId × vV->H):∃ places,DataW.whole enc Tryz.prog ((laidWorld os).forCall (fun _ _=>0) ⟨#[],#[.int .i64 0,.slice none 0 0,.agg #[.int .i64 0,.string ⟨#[]⟩,.string ⟨#[]⟩,.int .i64 0]],[]⟩).memory Tryz.f3.params.toList Rows.chainAtomicSpec.vars false #[.int .i64 0,.slice none 0 0,.agg #[.int .i64 0,.string ⟨#[]⟩,.string ⟨#[]⟩,.int .i64 0]].toList 8=some ([.lit (.int .i64 0),.nil,.agg [.lit (.int .i64 0),.lit (.string []),.lit (.string []),.lit (.int .i64 0)]],[],places):=
 ⟨[],by kernel_rfl⟩
theorem jfu(os:Os)(started:os.Started)(H:Type)(enc:TypeId × vV->H)(F:Stop.Interp) :
  ReturnsInHanded {} Tryz.checked os 3 .any ((OpenSpec.ofChange Rows.chainAtomicSpec).preRow enc Tryz.prog Tryz.f3 Rows.chainAtomicRow.domain false Rows.chainAtomicRow.laid) (((OpenSpec.ofChange Rows.chainAtomicSpec).at F).post enc Tryz.prog Tryz.f3 false true false false):=by
 obtain⟨J,K⟩:=jf9 os enc
 refine returnsInHanded_of_row (C:=Tryz.checked) (s:=OpenSpec.ofChange Rows.chainAtomicSpec) Tryz.ownK started vY Tryz.func3
  (witness_row_at (enc:=enc) (C:=Tryz.checked) false (laidWorld os) #[.int .i64 0,.slice none 0 0,.agg #[.int .i64 0,.string ⟨#[]⟩,.string ⟨#[]⟩,.int .i64 0]] rfl vY vY vY
   (OpenSpec.preRow_of_cond 8 K vY (fun k O=>by cases O) vY (jtr os _))) ?_
 intro W q args X Z e A hW _ _ _ hL _ _;exact je0 H enc W q args X Z e A hW hL
theorem jft:joinedFacts Tryz.pinned.checked.prog 3 Tryz.f3 (OpenSpec.ofChange Rows.chainAtomicSpec).bare Rows.chainAtomicRow=true:=by
 unfold joinedFacts;simp only[cC]
 refine⟨⟨⟨⟨⟨⟨⟨⟨⟨⟨⟨⟨⟨⟨⟨⟨⟨⟨⟨⟨⟨⟨⟨⟨⟨⟨⟨⟨⟨⟨⟨?_,joy⟩,jkX⟩,?_⟩,?_⟩,?_⟩,jud⟩,?_⟩,jkZ⟩,?_⟩,?_⟩,?_⟩,?_⟩,?_⟩,?_⟩,?_⟩,?_⟩,?_⟩,?_⟩,?_⟩,?_⟩,?_⟩,jkY⟩,?_⟩,jjI⟩,jlN⟩,jrC⟩,jwx⟩,?_⟩,?_⟩,?_⟩,?_⟩
 all_goals (as_aux_lemma=>kernel_rfl)
theorem jdA:Tryz.prog.funcNamed "guilloche/guillochelaw15.ChainAtomic"=some 3:=vY
theorem jgK:false=Rows.chainAtomicRow.goesBy Tryz.prog:=vY
theorem jgb:Tryz.f3.isWrapper Tryz.pinned.checked.prog Rows.chainAtomicRow.wrapper Rows.chainAtomicRow.mainSum:=by
 unfold Func.isWrapper;first |(rw[if_pos (by decide +kernel)];kernel_rfl) |(rw[if_neg (by decide +kernel)];exact⟨rfl,rfl⟩)
theorem jga:([3,22,24].all fun u => !Tryz.prog.wantsStandIn u)=true:=vY
theorem jgL:Rows.ChainAtomicSaid:=
 OpenClaim.holds_of_cond 3 Tryz.f3 rfl rfl rfl rfl rfl rfl rfl ⟨rfl,rfl,rfl,rfl,rfl⟩ rfl rfl rfl rfl rfl jdA Tryz.func3 jft
  (of_decide_eq_true vY) jgb
  (fun q e H enc _ F=>by rw[OpenClaim.pre_eq_preRow];exact jfu q e H enc F)
theorem chainAtomicCard_holds:Rows.ChainAtomicCardSaid:=
 Claim7.holds_tied_plain_at .later [] [.handle,.data] true (true, "f8bdce133b660c8258a8d65e7e27189f9f78eecac1aa82824c6e2daaae1159e2") true
  jgL (fun _ h=>by cases h) vY (fun _ h=>by cases h) chainAtomic_row_tie rfl ⟨rfl,rfl⟩ jww rfl
  (fun f A H e=>by
   obtain rfl:f=3:=bP (jdA.symm.trans H) |>.symm;obtain rfl:A=Tryz.f3:=(bP (Tryz.func3.symm.trans e)).symm
   exact⟨jub,fun j t q=>by
    rw[Tryz.params3]at q;have J:t∈[3,22,24]:=by simpa using Array.mem_of_getElem? q
    exact (show Tryz.prog.wantsStandIn t=false by simpa using dI.1 jga t J)⟩)
  jgK
end
