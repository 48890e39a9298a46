/- Lemmas; each is under no condition but those that it states. -/
import Derived.Test.YtcpnjmcipainpaaGreatDoorPr52
import Derived.Test.YtcpnjmcipainpaaGreatDoorPr47
import Derived.Test.YtcpnjmcipainpaaGreatDoorPr51
import Derived.Test.YtcpnjmcipainpaaGreatDoorPr49
namespace Go.Proofs.YtcpnjmcipainpaaGreatDoor
set_option linter.unusedSimpArgs false
set_option linter.unusedVariables false
set_option maxRecDepth 100000
set_option maxHeartbeats 16000000
section
open Go Go.ChangeShapes Go.WideShapes Go.ChangeAt Go.RowKit Go.ChangeMaps
theorem jge(H:Type)(enc:TypeId × Value->H)(W:World)(base:Nat)(args:Array Value)(ds gs:List (DataW H))(before:List MemPlace)
  (hval:∀ (j:Nat) t v,Tryz.f3.params[j]?=some t->args[j]?=some v->Value.okWide Tryz.prog W .any base t v)
  (hW:DataW.Whole enc Tryz.prog Tryz.f3.params.toList Rows.trieReadsSpec.vars false W args.toList ds gs before) (hL:laidMetH Tryz.prog Rows.trieReadsRow.laid W) :
  vQ 3 args W fun e W'=>∃ v,e=.returned v/\Rows.trieReadsSpec.post enc Tryz.prog Tryz.f3 false true false false W args v W':=by
 have hW':=hW
 obtain⟨p,q,hA0,hV,rfl,hfz,hnd⟩:=hW
 have hA:DataW.TrodAll enc Tryz.prog W 0 (fun _=>true) true Tryz.f3.params.toList args.toList ds p:=hA0;rw[Tryz.params3]at hA hval
 obtain⟨v0,v1,d0,d1,p0,p1,rfl,rfl,rfl,h0,h1⟩:=trodAll_two hA
 obtain⟨rfl,rfl⟩:=trodVars_none hV
 obtain⟨l0,hl0,hn0,hs0⟩:=jld (okWide_slice Tryz.underlying22 (hval 0 22 v0 rfl rfl)) h0
 obtain⟨s1,rfl,rfl,rfl,ws1⟩:=open_string Tryz.underlying9 (hval 1 9 v1 rfl rfl) h1
 have hk1:=Nat.le_trans ws1 jfg;clear hA0;simp only[List.append_nil,List.nil_append]at hW';have hlt:∀ x∈p0,x.block < W.heap.size:=fun x hx=>by simpa using hW'.lt x (by simpa using hx)
 refine (jt2 W (jsz hL) (jxh hL) v0 l0 hl0 hn0 hs0 s1 hk1).mono fun e W' ⟨he,hE⟩=>?_;subst he;have hb:Below W.heap.size W W':=⟨hE.os,hE.tape,hE.output,hE.size,fun k hk=>hE.block k hk (fun h=>h)⟩;have hres:DataW.TrodAll enc Tryz.prog W' 0 (fun b=>decide (b < W.heap.size)) true [22,9] [v0,.string s1] [d0,.lit (.string s1.data.toList)] (p0):=by
  simpa using trodAll_mk2 (Below.trod Tryz.laidOutK vY (of_decide_eq_true vY) h0 hb (fun x hx=>hlt x (by simp[hx]))) (shut_string Tryz.underlying9 ws1)
 refine⟨_,rfl,_,_,_,[],p0,[],hW',trodAll_mk1 (shut_bool Tryz.underlying4 _),?_,rfl,hb.frame _,fun h=>by cases h⟩
 exact hres
theorem jin(os:Os){H:Type}(enc:TypeId × Value->H):∃ places,DataW.whole enc Tryz.prog ((laidWorld os).forCall (fun _ _=>0) ⟨#[],#[.slice none 0 0,.string ⟨#[]⟩],[]⟩).memory Tryz.f3.params.toList Rows.trieReadsSpec.vars false #[.slice none 0 0,.string ⟨#[]⟩].toList 8=some ([.nil,.lit (.string [])],[],places):=
 ⟨[],by kernel_rfl⟩
theorem jg3(os:Os)(started:os.Started)(H:Type)(enc:TypeId × Value->H)(F:Stop.Interp) :
  ReturnsInHanded {} Tryz.checked os 3 .any ((OpenSpec.ofChange Rows.trieReadsSpec).preRow enc Tryz.prog Tryz.f3 Rows.trieReadsRow.domain false Rows.trieReadsRow.laid) (((OpenSpec.ofChange Rows.trieReadsSpec).at F).post enc Tryz.prog Tryz.f3 false true false false):=by
 obtain⟨places,hx⟩:=jin os enc
 refine returnsInHanded_of_row (C:=Tryz.checked) (s:=OpenSpec.ofChange Rows.trieReadsSpec) Tryz.ownK started vY Tryz.func3
  (witness_row_at (enc:=enc) (C:=Tryz.checked) false (laidWorld os) #[.slice none 0 0,.string ⟨#[]⟩] rfl vY vY vY
   (OpenSpec.preRow_of_cond 8 hx vY (fun k hk=>by cases hk) vY (jtd os _))) ?_
 intro W base args ds gs before hval hW _ _ _ hL _ _;exact jge H enc W base args ds gs before hval hW hL
theorem jg2:joinedFacts Tryz.pinned.checked.prog 3 Tryz.f3 (OpenSpec.ofChange Rows.trieReadsSpec).bare Rows.trieReadsRow=true:=by
 unfold joinedFacts;simp only[Bool.and_eq_true]
 refine⟨⟨⟨⟨⟨⟨⟨⟨⟨⟨⟨⟨⟨⟨⟨⟨⟨⟨⟨⟨⟨⟨⟨⟨⟨⟨⟨⟨⟨⟨⟨?_,jo3⟩,jlD⟩,?_⟩,?_⟩,?_⟩,jtV⟩,?_⟩,jlF⟩,?_⟩,?_⟩,?_⟩,?_⟩,?_⟩,?_⟩,?_⟩,?_⟩,?_⟩,?_⟩,?_⟩,?_⟩,?_⟩,jlE⟩,?_⟩,jj9⟩,jmI⟩,jrL⟩,jv3⟩,?_⟩,?_⟩,?_⟩,?_⟩
 all_goals (as_aux_lemma=>kernel_rfl)
theorem je5:Tryz.prog.funcNamed "guilloche/guillochelaw08.TrieReads"=some 3:=by kernel_rfl
theorem jiz:false=Rows.trieReadsRow.goesBy Tryz.prog:=by kernel_rfl
theorem jip:Tryz.f3.isWrapper Tryz.pinned.checked.prog Rows.trieReadsRow.wrapper Rows.trieReadsRow.mainSum:=by
 unfold Func.isWrapper;first |(rw[if_pos (by decide +kernel)];kernel_rfl) |(rw[if_neg (by decide +kernel)];exact⟨rfl,rfl⟩)
theorem jio:([22,9].all fun u => !Tryz.prog.wantsStandIn u)=true:=by kernel_rfl
theorem jiA:Rows.TrieReadsSaid:=
 OpenClaim.holds_of_cond 3 Tryz.f3 rfl rfl rfl rfl rfl rfl rfl ⟨rfl,rfl,rfl,rfl,rfl⟩ rfl rfl rfl rfl rfl je5 Tryz.func3 jg2
  (of_decide_eq_true vY) jip
  (fun os started H enc _ F=>by rw[OpenClaim.pre_eq_preRow];exact jg3 os started H enc F)
theorem trieReadsCard_holds:Rows.TrieReadsCardSaid:=
 Claim7.holds_tied_plain_at .later [] [.handle,.data] true (true, "8c5f272a4f50c57b89adc642ff179197ab23413d260365b3032a29931c6330fb") true
  jiA (fun _ h=>by cases h) vY (fun _ h=>by cases h) trieReads_row_tie rfl ⟨rfl,rfl⟩ jv2 rfl
  (fun f fn hf hfn=>by
   obtain rfl:f=3:=Option.some.inj (je5.symm.trans hf) |>.symm;obtain rfl:fn=Tryz.f3:=(Option.some.inj (Tryz.func3.symm.trans hfn)).symm
   exact⟨jtU,fun j t ht=>by
    rw[Tryz.params3]at ht;have hm:t∈[22,9]:=by simpa using Array.mem_of_getElem? ht
    exact (show Tryz.prog.wantsStandIn t=false by simpa using List.all_eq_true.1 jio t hm)⟩)
  jiz
end
end Go.Proofs.YtcpnjmcipainpaaGreatDoor
