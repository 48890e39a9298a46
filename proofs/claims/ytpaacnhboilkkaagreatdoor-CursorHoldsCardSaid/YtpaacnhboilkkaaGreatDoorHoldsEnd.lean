import Derived.Test.YtpaacnhboilkkaaGreatDoorPh32
import Derived.Test.YtpaacnhboilkkaaGreatDoorPh49
import Derived.Test.YtpaacnhboilkkaaGreatDoorPh12
import Derived.Test.YtpaacnhboilkkaaGreatDoorPh31
import Derived.Test.YtpaacnhboilkkaaGreatDoorPh13
import Derived.Test.YtpaacnhboilkkaaGreatDoorPh30
import Derived.WalkKit
import Derived.ProofKit
import Derived.OpenShut
import Derived.Lib.SmallJoins
import Derived.Deep.DeepHandedRow
import Derived.Lay
import Derived.Carry
import Derived.ChangeMaps5
namespace Go.Proofs.YtpaacnhboilkkaaGreatDoor
set_option linter.unusedSimpArgs false
set_option linter.unusedVariables false
set_option maxRecDepth 100000
set_option maxHeartbeats 16000000
section
open Go Go.ChangeShapes Go.WideShapes Go.ChangeAt Go.RowKit Go.ChangeMaps
theorem jfu(H:Type)(enc:TypeId × Value→H)(W:World)(base:Nat)(args:Array Value)(ds gs:List (DataW H))(before:List MemPlace)
  (hval:∀ (j:Nat) t v,Tryz.f11.params[j]?=some t→args[j]?=some v→Value.okWide Tryz.prog W .any base t v)
  (hW:DataW.Whole enc Tryz.prog Tryz.f11.params.toList Rows.cursorHoldsSpec.vars false W args.toList ds gs before) (hL:laidMetH Tryz.prog Rows.cursorHoldsRow.laid W) :
  Calls Tryz.prog 11 args W fun e W'=>∃ v,e=.returned v∧Rows.cursorHoldsSpec.post enc Tryz.prog Tryz.f11 false true false false W args v W':=by
 have hW':=hW
 obtain⟨p,q,hA0,hV,rfl,hfz,hnd⟩:=hW
 have hA:DataW.TrodAll enc Tryz.prog W 0 (fun _=>true) true Tryz.f11.params.toList args.toList ds p:=hA0;rw[Tryz.params11]at hA hval
 obtain⟨v0,v1,v2,v3,d0,d1,d2,d3,p0,p1,p2,p3,rfl,rfl,rfl,h0,h1,h2,h3⟩:=trodAll_four hA
 obtain⟨rfl,rfl⟩:=trodVars_none hV
 obtain⟨l0,hl0,hn0,hs0⟩:=jkM (okWide_slice Tryz.underlying22 (hval 0 22 v0 rfl rfl)) h0
 obtain⟨s1,rfl,rfl,rfl,ws1⟩:=open_string Tryz.underlying9 (hval 1 9 v1 rfl rfl) h1
 have hk1:=Nat.le_trans ws1 jda
 obtain⟨l2,hl2,hn2,hs2⟩:=jkL (okWide_slice Tryz.underlying41 (hval 2 41 v2 rfl rfl)) h2
 obtain⟨s3,rfl,rfl,rfl,ws3⟩:=open_int Tryz.underlying5 (hval 3 5 v3 rfl rfl) h3
 obtain⟨u3,rfl,hu3⟩:=jw7 ws3
 clear hA0;simp only[List.append_nil,List.nil_append]at hW';have hlt:∀ x∈p0++p2,x.block < W.heap.size:=fun x hx=>by simpa using hW'.lt x (by simpa using hx)
 refine (juK W (jrY hL) (jwp hL) v0 v2 l0 l2 hl0 hn0 hs0 s1 hk1 hl2 hn2 hs2 u3 hu3).mono fun e W' ⟨he,hE⟩=>?_;subst he;have hb:Below W.heap.size W W':=⟨hE.os,hE.tape,hE.output,hE.size,fun k hk=>hE.block k hk (fun h=>h)⟩;have hres:DataW.TrodAll enc Tryz.prog W' 0 (fun b=>decide (b < W.heap.size)) true [22,9,41,5] [v0,.string s1,v2,.int .u8 (u3:Int)] [d0,.lit (.string s1.data.toList),d2,.lit (.int .u8 (u3:Int))] (p0++p2):=by
  simpa using trodAll_mk4 (Below.trod Tryz.laidOutK (by kernel_rfl) (of_decide_eq_true (by kernel_rfl)) h0 hb (fun x hx=>hlt x (by simp[hx]))) (shut_string Tryz.underlying9 ws1) (Below.trod Tryz.laidOutK (by kernel_rfl) (of_decide_eq_true (by kernel_rfl)) h2 hb (fun x hx=>hlt x (by simp[hx]))) (shut_int Tryz.underlying5 ws3)
 refine⟨_,rfl,_,_,_,[],p0++p2,[],hW',trodAll_mk1 (shut_bool Tryz.underlying4 _),?_,rfl,hb.frame _,fun h=>by cases h⟩
 exact hres
theorem jgx(os:Os){H:Type}(enc:TypeId × Value→H):∃ places,DataW.whole enc Tryz.prog ((laidWorld os).forCall (fun _ _=>0) ⟨#[],#[.slice none 0 0,.string ⟨#[]⟩,.slice none 0 0,.int .u8 0],[]⟩).memory Tryz.f11.params.toList Rows.cursorHoldsSpec.vars false #[.slice none 0 0,.string ⟨#[]⟩,.slice none 0 0,.int .u8 0].toList 8=some ([.nil,.lit (.string []),.nil,.lit (.int .u8 0)],[],places):=
 ⟨[],by kernel_rfl⟩
theorem jfZ(os:Os)(started:os.Started)(H:Type)(enc:TypeId × Value→H)(F:Stop.Interp) :
  ReturnsInHanded {} Tryz.checked os 11 .any ((OpenSpec.ofChange Rows.cursorHoldsSpec).preRow enc Tryz.prog Tryz.f11 Rows.cursorHoldsRow.domain false Rows.cursorHoldsRow.laid) (((OpenSpec.ofChange Rows.cursorHoldsSpec).at F).post enc Tryz.prog Tryz.f11 false true false false):=by
 obtain⟨places,hx⟩:=jgx os enc
 refine returnsInHanded_of_row (C:=Tryz.checked) (s:=OpenSpec.ofChange Rows.cursorHoldsSpec) Tryz.ownK started (by kernel_rfl) Tryz.func11
  (witness_row_at (enc:=enc) (C:=Tryz.checked) false (laidWorld os) #[.slice none 0 0,.string ⟨#[]⟩,.slice none 0 0,.int .u8 0] rfl (by kernel_rfl) (by kernel_rfl) (by kernel_rfl)
   (OpenSpec.preRow_of_cond 8 hx (by kernel_rfl) (fun k hk=>by cases hk) (by kernel_rfl) (jsB os _))) ?_
 intro W base args ds gs before hval hW _ _ _ hL _ _;exact jfu H enc W base args ds gs before hval hW hL
theorem jfY:joinedFacts Tryz.pinned.checked.prog 11 Tryz.f11 (OpenSpec.ofChange Rows.cursorHoldsSpec).bare Rows.cursorHoldsRow=true:=by
 unfold joinedFacts;simp only[Bool.and_eq_true]
 refine⟨⟨⟨⟨⟨⟨⟨⟨⟨⟨⟨⟨⟨⟨⟨⟨⟨⟨⟨⟨⟨⟨⟨⟨⟨⟨⟨⟨⟨⟨⟨?_,jor⟩,jk5⟩,?_⟩,?_⟩,?_⟩,jtf⟩,?_⟩,jk7⟩,?_⟩,?_⟩,?_⟩,?_⟩,?_⟩,?_⟩,?_⟩,?_⟩,?_⟩,?_⟩,?_⟩,?_⟩,?_⟩,jk6⟩,?_⟩,jjB⟩,jl2⟩,jrd⟩,jvn⟩,?_⟩,?_⟩,?_⟩,?_⟩
 all_goals (as_aux_lemma=>kernel_rfl)
theorem jd2:Tryz.prog.funcNamed "guilloche/guillochelaw09.CursorHolds"=some 11:=by kernel_rfl
theorem jgY:false=Rows.cursorHoldsRow.goesBy Tryz.prog:=by kernel_rfl
theorem jgz:Tryz.f11.isWrapper Tryz.pinned.checked.prog Rows.cursorHoldsRow.wrapper Rows.cursorHoldsRow.mainSum:=by
 unfold Func.isWrapper;first |(rw[if_pos (by decide +kernel)];kernel_rfl) |(rw[if_neg (by decide +kernel)];exact⟨rfl,rfl⟩)
theorem jgy:([22,9,41,5].all fun u => !Tryz.prog.wantsStandIn u)=true:=by kernel_rfl
theorem jgZ:Rows.CursorHoldsSaid:=
 OpenClaim.holds_of_cond 11 Tryz.f11 rfl rfl rfl rfl rfl rfl rfl ⟨rfl,rfl,rfl,rfl,rfl⟩ rfl rfl rfl rfl rfl jd2 Tryz.func11 jfY
  (of_decide_eq_true (by kernel_rfl)) jgz
  (fun os started H enc _ F=>by rw[OpenClaim.pre_eq_preRow];exact jfZ os started H enc F)
theorem cursorHoldsCard_holds:Rows.CursorHoldsCardSaid:=
 Claim7.holds_tied_plain_at .later [] [.handle,.data] true (true, "9fb79214ed06701ec0b3f3513425a8bf5e13fc2681c6014fe8d6313db7ec54e5") true
  jgZ (fun _ h=>by cases h) (by kernel_rfl) (fun _ h=>by cases h) cursorHolds_row_tie rfl ⟨rfl,rfl⟩ jvm rfl
  (fun f fn hf hfn=>by
   obtain rfl:f=11:=Option.some.inj (jd2.symm.trans hf) |>.symm;obtain rfl:fn=Tryz.f11:=(Option.some.inj (Tryz.func11.symm.trans hfn)).symm
   exact⟨jte,fun j t ht=>by
    rw[Tryz.params11]at ht;have hm:t∈[22,9,41,5]:=by simpa using Array.mem_of_getElem? ht
    exact (show Tryz.prog.wantsStandIn t=false by simpa using List.all_eq_true.1 jgy t hm)⟩)
  jgY
end
end Go.Proofs.YtpaacnhboilkkaaGreatDoor
