/- Lemmas; each is under no condition but those that it states. -/
import Derived.Test.YtmobgkphhbmhbaaGreatDoorPb32
namespace Go.Proofs.YtmobgkphhbmhbaaGreatDoor
set_option linter.unusedSimpArgs false
set_option linter.unusedVariables false
set_option maxRecDepth 100000
set_option maxHeartbeats 16000000
section
open Go Go.ChangeShapes Go.WideShapes Go.ChangeAt Go.RowKit Go.ChangeMaps
theorem jhb:laidOutB Tryz.pinned.checked.prog=true:=vY
theorem jfb:mapsRowed Tryz.pinned.checked.prog=true:=vY
theorem jkI:(Tryz.pinned.checked.prog.stops == [])=true:=vY
theorem jfd:(Tryz.pinned.checked.prog.stopKnobs == [])=true:=vY
theorem jfc:(Rows.diffSmallRow.plainKeys == Tryz.pinned.checked.prog.plainKeys)=true:=vY
theorem jeH:Tryz.pinned.checked.prog.stopsHeard=true:=vY
theorem jf4:Tryz.pinned.checked.prog.mayEnter=true:=vY
theorem jiC:(Rows.diffSmallRow.lifted == Tryz.pinned.checked.prog.liftsFinal)=true:=vY
theorem jnl:(Tryz.pinned.checked.prog.make == some Rows.diffSmallRow.make)=true:=vY
theorem jnk:Tryz.pinned.checked.prog.mainIs=some (true, "ca975cbaf88a57180c6581da1a34838109c44da6645cc7d55dae79c808fd011d".toList):=vY
theorem jkH:true=Tryz.pinned.checked.prog.looks []:=vY
theorem jgi(H:Type)(enc:TypeId × vV->H)(W:vW)(base:Nat)(args:Array vV)(ds gs:List (DataW H))(before:List MemPlace)
  (hval:∀ (j:Nat) t v,Tryz.f7.params[j]?=some t->args[j]?=some v->Value.okWide Tryz.prog W .any base t v)
  (hW:DataW.Whole enc Tryz.prog Tryz.f7.params.toList Rows.diffSmallSpec.vars false W args.toList ds gs before) (hL:laidMetH Tryz.prog Rows.diffSmallRow.laid W) :
  vQ 7 args W fun e W'=>∃ v,e=.returned v/\Rows.diffSmallSpec.post enc Tryz.prog Tryz.f7 false true false false W args v W':=by
 have o:=hW
 obtain⟨p,q,z,hV,rfl,a9,b0⟩:=hW
 have hA:DataW.TrodAll enc Tryz.prog W 0 (fun _=>true) true Tryz.f7.params.toList args.toList ds p:=z;rw[Tryz.params7]at hA hval
 obtain⟨v0,v1,d0,d1,p0,p1,rfl,rfl,rfl,h0,h1⟩:=trodAll_two hA
 obtain⟨rfl,rfl⟩:=trodVars_none hV
 obtain⟨l0,a3,a4,a5⟩:=je1 (okWide_slice Tryz.underlying32 (hval 0 32 v0 rfl rfl)) h0
 obtain⟨b1,b2,b3,b4,b5,b6,m1,a6,b7,b8,A,E,J⟩:=Joins.open_agg3 Tryz.underlying59 vY (show Tryz.prog.cellsOf 59=3 by kernel_rfl) (hval 1 59 v1 rfl rfl) h1
 obtain⟨K,O,_,a7⟩:=DataW.trod_string Tryz.underlying9 A
 obtain⟨Q,X,_,a8⟩:=DataW.trod_string Tryz.underlying9 E
 obtain⟨Z,a1,_⟩:=DataW.trod_bool Tryz.underlying4 J
 simp only[List.cons.injEq,and_true]at O X a1;subst O X a1 a6;clear z;simp only[bS,cP]at o;have a2:∀ x∈p0++p1,x.block < W.heap.size:=fun x hx=>by simpa using o.lt x (by simpa using hx)
 refine (jsy W (jnG hL) (juV hL) v0 l0 K Q Z a3 a4 a5 (bK a7 jcE) (bK a8 jcE)).mono fun e W' ⟨he,hE⟩=>?_;subst he;have hb:Below W.heap.size W W':=⟨hE.os,hE.tape,hE.output,hE.size,fun k hk=>hE.block k hk (fun h=>h)⟩;have a0:DataW.TrodAll enc Tryz.prog W' 0 (fun b=>decide (b < W.heap.size)) true [32,59] [v0,.agg #[.string K,.string Q,.bool Z]] [d0,d1] (p0++p1):=by
  simpa using trodAll_mk2 (Below.trod Tryz.laidOutK vY (of_decide_eq_true vY) h0 hb (fun x hx=>a2 x (by simp[hx]))) (Below.trod Tryz.laidOutK vY (of_decide_eq_true vY) h1 hb (fun x hx=>a2 x (by simp[hx])))
 refine⟨_,rfl,_,_,_,[],p0++p1,[],o,trodAll_mk1 (shut_bool Tryz.underlying4 _),?_,rfl,hb.frame _,fun h=>by cases h⟩
 exact a0
theorem jh0(os:Os){H:Type}(enc:TypeId × vV->H):∃ places,DataW.whole enc Tryz.prog ((laidWorld os).forCall (fun _ _=>0) ⟨#[],#[.slice none 0 0,.agg #[.string ⟨#[]⟩,.string ⟨#[]⟩,.bool false]],[]⟩).memory Tryz.f7.params.toList Rows.diffSmallSpec.vars false #[.slice none 0 0,.agg #[.string ⟨#[]⟩,.string ⟨#[]⟩,.bool false]].toList 8=some ([.nil,.agg [.lit (.string []),.lit (.string []),.lit (.bool false)]],[],places):=
 ⟨[],by kernel_rfl⟩
theorem jhm(os:Os)(started:os.Started)(H:Type)(enc:TypeId × vV->H)(F:Stop.Interp) :
  ReturnsInHanded {} Tryz.checked os 7 .any ((OpenSpec.ofChange Rows.diffSmallSpec).preRow enc Tryz.prog Tryz.f7 Rows.diffSmallRow.domain false Rows.diffSmallRow.laid) (((OpenSpec.ofChange Rows.diffSmallSpec).at F).post enc Tryz.prog Tryz.f7 false true false false):=by
 obtain⟨z,A⟩:=jh0 os enc
 refine returnsInHanded_of_row (C:=Tryz.checked) (s:=OpenSpec.ofChange Rows.diffSmallSpec) Tryz.ownK started vY Tryz.func7
  (witness_row_at (enc:=enc) (C:=Tryz.checked) false (laidWorld os) #[.slice none 0 0,.agg #[.string ⟨#[]⟩,.string ⟨#[]⟩,.bool false]] rfl vY vY vY
   (OpenSpec.preRow_of_cond 8 A vY (fun k E=>by cases E) vY (joc os _))) ?_
 intro W o args J K e q O _ _ _ Q _ _;exact jgi H enc W o args J K e q O Q
theorem jhl:joinedFacts Tryz.pinned.checked.prog 7 Tryz.f7 (OpenSpec.ofChange Rows.diffSmallSpec).bare Rows.diffSmallRow=true:=by
 unfold joinedFacts;simp only[cQ]
 refine⟨⟨⟨⟨⟨⟨⟨⟨⟨⟨⟨⟨⟨⟨⟨⟨⟨⟨⟨⟨⟨⟨⟨⟨⟨⟨⟨⟨⟨⟨⟨?_,jhb⟩,jfb⟩,?_⟩,?_⟩,?_⟩,jkI⟩,?_⟩,jfd⟩,?_⟩,?_⟩,?_⟩,?_⟩,?_⟩,?_⟩,?_⟩,?_⟩,?_⟩,?_⟩,?_⟩,?_⟩,?_⟩,jfc⟩,?_⟩,jeH⟩,jf4⟩,jiC⟩,jnl⟩,?_⟩,?_⟩,?_⟩,?_⟩
 all_goals (as_aux_lemma=>kernel_rfl)
theorem jeR:Tryz.prog.funcNamed "guilloche/guillochelaw10.DiffSmall"=some 7:=vY
theorem jiR:false=Rows.diffSmallRow.goesBy Tryz.prog:=vY
theorem jh2:Tryz.f7.isWrapper Tryz.pinned.checked.prog Rows.diffSmallRow.wrapper Rows.diffSmallRow.mainSum:=by
 unfold Func.isWrapper;first |(rw[if_pos (by decide +kernel)];kernel_rfl) |(rw[if_neg (by decide +kernel)];exact⟨rfl,rfl⟩)
theorem jh1:([32,59].all fun u => !Tryz.prog.wantsStandIn u)=true:=vY
theorem jiS:Rows.DiffSmallSaid:=
 OpenClaim.holds_of_cond 7 Tryz.f7 rfl rfl rfl rfl rfl rfl rfl ⟨rfl,rfl,rfl,rfl,rfl⟩ rfl rfl rfl rfl rfl jeR Tryz.func7 jhl
  (of_decide_eq_true vY) jh2
  (fun o e H enc _ F=>by rw[OpenClaim.pre_eq_preRow];exact jhm o e H enc F)
theorem diffSmallCard_holds:Rows.DiffSmallCardSaid:=
 Claim7.holds_tied_plain_at .later [] [.handle,.data] true (true, "ca975cbaf88a57180c6581da1a34838109c44da6645cc7d55dae79c808fd011d") true
  jiS (fun _ h=>by cases h) vY (fun _ h=>by cases h) diffSmall_row_tie rfl ⟨rfl,rfl⟩ jnk rfl
  (fun f q z e=>by
   obtain rfl:f=7:=bV (jeR.symm.trans z) |>.symm;obtain rfl:q=Tryz.f7:=(bV (Tryz.func7.symm.trans e)).symm
   exact⟨jkH,fun j t o=>by
    rw[Tryz.params7]at o;have A:t∈[32,59]:=by simpa using Array.mem_of_getElem? o
    exact (show Tryz.prog.wantsStandIn t=false by simpa using dS.1 jh1 t A)⟩)
  jiR
end
end Go.Proofs.YtmobgkphhbmhbaaGreatDoor
