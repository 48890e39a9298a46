/- Parts of the proof, one behind the other: CursorAnyP. Each is under no condition but those that it states. -/
import Derived.Test.YtcpnjmcipainpaaGreatDoorPa41
import Derived.Test.YtcpnjmcipainpaaGreatDoorPa36
import Derived.Test.YtcpnjmcipainpaaGreatDoorPa39
import Derived.Test.YtcpnjmcipainpaaGreatDoorPa40
import Derived.Test.YtcpnjmcipainpaaGreatDoorPa37
import Derived.WalkKit
import Derived.ProofKit
import Derived.OpenShut
import Derived.Lib.SmallJoins
import Derived.Deep.DeepHandedRow
import Derived.Lay
import Derived.Carry
import Derived.ChangeMaps5
namespace Go.Proofs.YtcpnjmcipainpaaGreatDoor
set_option linter.unusedSimpArgs false
set_option linter.unusedVariables false
set_option maxRecDepth 100000
set_option maxHeartbeats 16000000
section
open Go Go.ChangeShapes Go.WideShapes Go.ChangeAt Go.RowKit Go.ChangeMaps
theorem jd6(H:Type)(enc:TypeId × Value→H)(W:World)(base:Nat)(args:Array Value)(ds gs:List (DataW H))(before:List MemPlace)
  (hval:∀ (j:Nat) t v,Tryz.f6.params[j]?=some t→args[j]?=some v→Value.okWide Tryz.prog W .any base t v)
  (hW:DataW.Whole enc Tryz.prog Tryz.f6.params.toList Rows.cursorAnySpec.vars false W args.toList ds gs before) (hL:laidMetH Tryz.prog Rows.cursorAnyRow.laid W) :
  Calls Tryz.prog 6 args W fun e W'=>∃ v,e=.returned v∧Rows.cursorAnySpec.post enc Tryz.prog Tryz.f6 false true false false W args v W':=by
 have hW':=hW
 obtain⟨p,q,hA0,hV,rfl,hfz,hnd⟩:=hW
 have hA:DataW.TrodAll enc Tryz.prog W 0 (fun _=>true) true Tryz.f6.params.toList args.toList ds p:=hA0;rw[Tryz.params6]at hA hval
 obtain⟨v0,v1,v2,v3,d0,d1,d2,d3,p0,p1,p2,p3,rfl,rfl,rfl,h0,h1,h2,h3⟩:=trodAll_four hA
 obtain⟨rfl,rfl⟩:=trodVars_none hV
 obtain⟨l0,hl0,hn0,hs0⟩:=jkp (okWide_slice Tryz.underlying34 (hval 0 34 v0 rfl rfl)) h0
 obtain⟨s1,rfl,rfl,rfl,ws1⟩:=open_string Tryz.underlying9 (hval 1 9 v1 rfl rfl) h1
 have hk1:=Nat.le_trans ws1 jdH
 obtain⟨s2,rfl,rfl,rfl,ws2⟩:=open_string Tryz.underlying9 (hval 2 9 v2 rfl rfl) h2
 have hk2:=Nat.le_trans ws2 jdH
 obtain⟨s3,rfl,rfl,rfl,ws3⟩:=open_int Tryz.underlying3 (hval 3 3 v3 rfl rfl) h3
 clear hA0;simp only[List.append_nil,List.nil_append]at hW';have hlt:∀ x∈p0,x.block < W.heap.size:=fun x hx=>by simpa using hW'.lt x (by simpa using hx)
 refine (jqh W (jnd hL) (jqo hL) v0 l0 s1 s2 s3 hl0 hn0 hs0 hk1 hk2).mono fun e W' ⟨he,hE⟩=>?_;subst he;have hb:Below W.heap.size W W':=⟨hE.os,hE.tape,hE.output,hE.size,fun k hk=>hE.block k hk (fun h=>h)⟩;have hres:DataW.TrodAll enc Tryz.prog W' 0 (fun b=>decide (b < W.heap.size)) true [34,9,9,3] [v0,.string s1,.string s2,.int .i64 s3] [d0,.lit (.string s1.data.toList),.lit (.string s2.data.toList),.lit (.int .i64 s3)] (p0):=by
  simpa using trodAll_mk4 (Below.trod Tryz.laidOutK (by kernel_rfl) (of_decide_eq_true (by kernel_rfl)) h0 hb (fun x hx=>hlt x (by simp[hx]))) (shut_string Tryz.underlying9 ws1) (shut_string Tryz.underlying9 ws2) (shut_int Tryz.underlying3 ws3)
 refine⟨_,rfl,_,_,_,[],p0,[],hW',trodAll_mk1 (shut_bool Tryz.underlying4 _),?_,rfl,hb.frame _,fun h=>by cases h⟩
 exact hres
theorem je9(os:Os){H:Type}(enc:TypeId × Value→H):∃ places,DataW.whole enc Tryz.prog ((laidWorld os).forCall (fun _ _=>0) ⟨#[],#[.slice none 0 0,.string ⟨#[]⟩,.string ⟨#[]⟩,.int .i64 0],[]⟩).memory Tryz.f6.params.toList Rows.cursorAnySpec.vars false #[.slice none 0 0,.string ⟨#[]⟩,.string ⟨#[]⟩,.int .i64 0].toList 8=some ([.nil,.lit (.string []),.lit (.string []),.lit (.int .i64 0)],[],places):=
 ⟨[],by kernel_rfl⟩
theorem jeO(os:Os)(started:os.Started)(H:Type)(enc:TypeId × Value→H)(F:Stop.Interp) :
  ReturnsInHanded {} Tryz.checked os 6 .any ((OpenSpec.ofChange Rows.cursorAnySpec).preRow enc Tryz.prog Tryz.f6 Rows.cursorAnyRow.domain false Rows.cursorAnyRow.laid) (((OpenSpec.ofChange Rows.cursorAnySpec).at F).post enc Tryz.prog Tryz.f6 false true false false):=by
 obtain⟨places,hx⟩:=je9 os enc
 refine returnsInHanded_of_row (C:=Tryz.checked) (s:=OpenSpec.ofChange Rows.cursorAnySpec) Tryz.ownK started (by kernel_rfl) Tryz.func6
  (witness_row_at (enc:=enc) (C:=Tryz.checked) false (laidWorld os) #[.slice none 0 0,.string ⟨#[]⟩,.string ⟨#[]⟩,.int .i64 0] rfl (by kernel_rfl) (by kernel_rfl) (by kernel_rfl)
   (OpenSpec.preRow_of_cond 8 hx (by kernel_rfl) (fun k hk=>by cases hk) (by kernel_rfl) (jnH os _))) ?_
 intro W base args ds gs before hval hW _ _ _ hL _ _;exact jd6 H enc W base args ds gs before hval hW hL
theorem jeN:joinedFacts Tryz.pinned.checked.prog 6 Tryz.f6 (OpenSpec.ofChange Rows.cursorAnySpec).bare Rows.cursorAnyRow=true:=by
 unfold joinedFacts;simp only[Bool.and_eq_true]
 refine⟨⟨⟨⟨⟨⟨⟨⟨⟨⟨⟨⟨⟨⟨⟨⟨⟨⟨⟨⟨⟨⟨⟨⟨⟨⟨⟨⟨⟨⟨⟨?_,jkD⟩,jia⟩,?_⟩,?_⟩,?_⟩,joi⟩,?_⟩,jic⟩,?_⟩,?_⟩,?_⟩,?_⟩,?_⟩,?_⟩,?_⟩,?_⟩,?_⟩,?_⟩,?_⟩,?_⟩,?_⟩,jib⟩,?_⟩,jgX⟩,jiO⟩,jmw⟩,jpQ⟩,?_⟩,?_⟩,?_⟩,?_⟩
 all_goals (as_aux_lemma=>kernel_rfl)
theorem jdo:Tryz.prog.funcNamed "guilloche/guillochelaw09.CursorAny"=some 6:=by kernel_rfl
theorem jfT:false=Rows.cursorAnyRow.goesBy Tryz.prog:=by kernel_rfl
theorem jfb:Tryz.f6.isWrapper Tryz.pinned.checked.prog Rows.cursorAnyRow.wrapper Rows.cursorAnyRow.mainSum:=by
 unfold Func.isWrapper;first |(rw[if_pos (by decide +kernel)];kernel_rfl) |(rw[if_neg (by decide +kernel)];exact⟨rfl,rfl⟩)
theorem jfa:([34,9,9,3].all fun u => !Tryz.prog.wantsStandIn u)=true:=by kernel_rfl
theorem jfU:Rows.CursorAnySaid:=
 OpenClaim.holds_of_cond 6 Tryz.f6 rfl rfl rfl rfl rfl rfl rfl ⟨rfl,rfl,rfl,rfl,rfl⟩ rfl rfl rfl rfl rfl jdo Tryz.func6 jeN
  (of_decide_eq_true (by kernel_rfl)) jfb
  (fun os started H enc _ F=>by rw[OpenClaim.pre_eq_preRow];exact jeO os started H enc F)
theorem cursorAnyCard_holds:Rows.CursorAnyCardSaid:=
 Claim7.holds_tied_plain_at .later [] [.handle,.data] true (true, "8c5f272a4f50c57b89adc642ff179197ab23413d260365b3032a29931c6330fb") true
  jfU (fun _ h=>by cases h) (by kernel_rfl) (fun _ h=>by cases h) cursorAny_row_tie rfl ⟨rfl,rfl⟩ jpP rfl
  (fun f fn hf hfn=>by
   obtain rfl:f=6:=Option.some.inj (jdo.symm.trans hf) |>.symm;obtain rfl:fn=Tryz.f6:=(Option.some.inj (Tryz.func6.symm.trans hfn)).symm
   exact⟨joh,fun j t ht=>by
    rw[Tryz.params6]at ht;have hm:t∈[34,9,9,3]:=by simpa using Array.mem_of_getElem? ht
    exact (show Tryz.prog.wantsStandIn t=false by simpa using List.all_eq_true.1 jfa t hm)⟩)
  jfT
end
end Go.Proofs.YtcpnjmcipainpaaGreatDoor
