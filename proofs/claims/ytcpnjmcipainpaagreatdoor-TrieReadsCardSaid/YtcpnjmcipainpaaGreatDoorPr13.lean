/- Lemmas; each is under no condition but those that it states. -/
import Derived.Test.YtcpnjmcipainpaaGreatDoorPr12
import Derived.Test.YtcpnjmcipainpaaGreatDoorPr3
namespace Go.Proofs.YtcpnjmcipainpaaGreatDoor
set_option linter.unusedSimpArgs false
set_option linter.unusedVariables false
set_option maxRecDepth 100000
set_option maxHeartbeats 16000000
open Go Go.RowKit
def St(C:World->Prop):Prop:=∀ W W',C W->Ext W W'->C W'
def jpj(P:Program)(l:Nat)(args:Array Value)(W:World)(Ct Cf:World->Prop):Prop:=
 YieldAt Fence.wide 0 P l args W fun e W'=>(e=.returned (.bool true)/\Ct W')\/(e=.returned (.bool false)/\Cf W')
def jpf(N:Nat)(C Cx:Nat->World->Prop)(e:Ending)(W':World):Prop:=(∃ v,e=.returned v)/\(C N W'\/∃ k,k<=N/\0 < k/\Cx k W')
def jsc(P:Program)(gf:FuncId)(lb:Array Value)(N:Nat)(vals:Nat->Array Value)(S:World->Prop):Prop:=
 ∀ (l:Nat) (C:Nat->World->Prop) (Cx:Nat->World->Prop),(∀ k,St (C k))->(∀ k,St (Cx k))->(∀ k W,C k W->S W) ->
  ∀ W,(∀ k W',k < N->C k W'->jpj P l (vals k) W' (C (k+1)) (Cx (k+1)))->C 0 W ->
   CallsIn Fence.wide 0 P gf (#[.func (.yield l) #[] #[]]++lb) W (jpf N C Cx)
def jwK(g:Nat)(W:World)(Ct:World->Prop)(Cj:Code->World->Prop):Exit->Act->World->Prop
 | .normal,_,W'=>jae (fun b=>b≠g/\b≠g+1) W W'/\Ct W'
 | .ret,_,W'=>jae (fun b=>b≠g/\b≠g+1) W W'/\Cj .ret W'
 | .exit i,_,W'=>jae (fun b=>b≠g/\b≠g+1) W W'/\Cj (.exit i) W'
 | _,_,_=>False
theorem jei{P:Program}{g:Operand}{ps:Array Tmp}{assign body:Code}{Q:Exit->Act->World->Prop}{a:Act}{w:World}
  {gf:Nat} {lb:Array Value} (hg:a.eval g=.func (.func gf) #[] lb) (eg:∀ args w,(callFunc gf args).run P w=.ok (.enter gf args) w)
  {N:Nat} {vals:Nat->Array Value} {S:World->Prop} (IS:jsc P gf lb N vals S)
  (hps:∀ k,(vals k).size=ps.size)
  (C:Nat->World->Prop) (Cj:Code->Nat->World->Prop) (hC:∀ k,St (C k)) (hCj:∀ c k,St (Cj c k)) (hS:∀ k W,C k W->S W)
  (hup:∀ k W o,C k W->C k (W.putObj w.heap.size o)) (hup1:∀ k W o,C k W->C k (W.putObj (w.heap.size+1) o)) (hupj:∀ c k W o,Cj c k W->Cj c k (W.putObj (w.heap.size+1) o))
  (h0:C 0 w) (a₁:Nat->Act)
  (hassign:∀ (l k:Nat) (W:World) (K:Act->World->Prop),K (a₁ k) W ->
   assign.wpIn (Fence.wide.inRound l) 0 P (Exit.then K (fun _ _ _=>False)) { tmps:=(ps.zip (vals k)).foldl (fun t (p,v)=>t.setIfInBounds p v) a.tmps,defers:=[] } W)
  (hbody:∀ (l k:Nat) (W:World),k < N->C k W->w.heap.size+1 < W.heap.size->body.wpIn (Fence.wide.inRound l) 0 P (jwK w.heap.size W (C (k+1)) (fun c=>Cj c (k+1))) (a₁ k) W)
  (hdone:∀ (W:World),C N W->Blk W w.heap.size (.deferred (some []))->Q .normal { a with defers:={ target:=.collected w.heap.size,args:=#[] } :: a.defers } W)
  (hstop:∀ (c:Code) (k:Nat) (W:World),k<=N->0 < k->Cj c k W->Blk W w.heap.size (.deferred (some [])) ->
   c.wpIn Fence.wide 0 P Q { a with defers:={ target:=.collected w.heap.size,args:=#[] } :: a.defers } W) :
  (Code.rangeFunc g ps assign body).wpIn Fence.wide 0 P Q a w:=by
 refine wpIn_rangeFunc ?_;intro fn _;show ∃ l mark w₁ d w₁' f args w₂,(Instr.enterLoop fn a.tmps ps assign body none).run P w=_/\_
 obtain⟨rec,hrec⟩:∃ rec:LoopState->Option Code->Loop,rec=fun st pe=>{ state:=st,pending:=pe,fn,tmps:=a.tmps,params:=ps,assign,body,defers:=w.heap.size }:=⟨_,rfl⟩
 obtain⟨W1,hW1⟩:∃ W1,(w.alloc (.deferred (some []))).alloc (.loop (rec .ready none))=W1:=⟨_,rfl⟩
 have hL1:Blk W1 (w.heap.size+1) (.loop (rec .ready none)):=by
  rw[<-hW1];have:=Blk.new (w.alloc (.deferred (some []))) (.loop (rec .ready none));rwa [World.size_alloc]at this
 have hK1:Blk W1 w.heap.size (.deferred (some [])):=by
  rw[<-hW1];exact (Blk.new w _).alloc _
 have hX1:Ext w W1:=by rw[<-hW1];exact ((jae.refl _ w).alloc _).alloc _
 refine⟨w.heap.size+1,[{ target:=.collected w.heap.size,args:=#[] }],W1,{ target:=.fn (.func gf) lb,args:=#[.func (.yield (w.heap.size+1)) #[] #[]] },W1,gf,
  #[.func (.yield (w.heap.size+1)) #[] #[]]++lb,W1,?_,?_,?_,?_,fun h=>by simp[Fence.wide]at h,?_⟩
 ·rw[<-hW1,hrec];exact run_enterLoop_outer _ _ _ _ _
 ·simp only[resolve,hg]
  simp[go_sem]
 ·intro f' _;trivial
 ·simp[invoke,go_sem,eg]
 ·let CC:Nat->World->Prop:=fun k W=>C k W/\Blk W (w.heap.size+1) (.loop (rec .ready none))/\Blk W w.heap.size (.deferred (some []))
  let CX:Nat->World->Prop:=fun k W=>∃ c,Cj c k W/\Blk W (w.heap.size+1) (.loop (rec .done (some c)))/\Blk W w.heap.size (.deferred (some []))
  have key:=IS (w.heap.size+1) CC CX (fun k W W' ⟨h1,h2,h3⟩ e=>⟨hC k _ _ h1 e,h2.keeps e (fun h=>h),h3.keeps e (fun h=>h)⟩)
   (fun k W W' ⟨c,h1,h2,h3⟩ e=>⟨c,hCj c k _ _ h1 e,h2.keeps e (fun h=>h),h3.keeps e (fun h=>h)⟩) (fun k W h=>hS k W h.1) W1 ?_ ⟨hC 0 _ _ h0 hX1,hL1,hK1⟩
  ·refine CallsIn.mono key ?_
   rintro e W' ⟨⟨v,rfl⟩,hcase⟩;rcases hcase with⟨h1,h3,h4⟩ |⟨k,hk1,hk2,c,h1,h3,h4⟩
   ·obtain⟨ox,he⟩:∃ ox,(Instr.endLoop (w.heap.size+1)).run P W'=.ok none (W'.putObj (w.heap.size+1) ox):=⟨_,(run_endLoop (r:=rec .ready none) h3 (by rw[hrec];simp)).trans (by rw[hrec])⟩
    exact⟨none,_,he,hdone _ (hup1 N _ _ h1) (h4.put_other vO _)⟩
   ·obtain⟨ox,he⟩:∃ ox,(Instr.endLoop (w.heap.size+1)).run P W'=.ok (some c) (W'.putObj (w.heap.size+1) ox):=⟨_,(run_endLoop (r:=rec .done (some c)) h3 (by rw[hrec];simp)).trans (by rw[hrec])⟩
    exact⟨some c,_,he,hstop c k _ hk1 hk2 (hupj c k _ _ h1) (h4.put_other vO _)⟩
  ·rintro k W hk ⟨h1,h3,h4⟩
   refine⟨_,_,_,_,run_yield h3 (by rw[hrec];exact hps k),?_⟩
   refine roundIn_of_wpIn trivial ?_;rw[show (rec .ready none).tmps=a.tmps from by rw[hrec],show (rec .ready none).params=ps from by rw[hrec],show (rec .ready none).assign=assign from by rw[hrec],show (rec .ready none).body=body from by rw[hrec]];refine hassign _ k W _ ?_
   refine⟨_,run_beginRound h3 (by rw[hrec]),?_⟩
   have hb1:C k (W.putObj (w.heap.size+1) (.loop { rec .ready none with state:=.busy })):=hup1 k _ _ h1;refine Code.wpIn_mono ?_ (hbody (w.heap.size+1) k _ hk hb1 (by rw[World.putObj_size];exact h3.lt));have fin:∀ (j:Option Code) (W':World),jae (fun b=>b≠w.heap.size/\b≠w.heap.size+1) (W.putObj (w.heap.size+1) (.loop { rec .ready none with state:=.busy })) W' ->
     (Instr.endRound (w.heap.size+1) j).run P W'=.ok (.bool j.isNone) (W'.putObj (w.heap.size+1) (.loop (rec (if j.isNone then .ready else .done) j))) /\
     Blk (W'.putObj (w.heap.size+1) (.loop (rec (if j.isNone then .ready else .done) j))) (w.heap.size+1) (.loop (rec (if j.isNone then .ready else .done) j)) /\
     Blk (W'.putObj (w.heap.size+1) (.loop (rec (if j.isNone then .ready else .done) j))) w.heap.size (.deferred (some [])):=by
    intro j W' hK;have hl:Blk W' (w.heap.size+1) (.loop { rec .ready none with state:=.busy }):=(h3.put_same _).keeps hK (fun h=>h.2 rfl);have hd:Blk W' w.heap.size (.deferred (some [])):=(h4.put_other vO _).keeps hK (fun h=>h.1 rfl)
    refine⟨?_,hl.put_same _,hd.put_other vO _⟩
    rw[run_endRound j hl,hrec]
   intro e a' W' hq;cases e with
   | normal =>
    obtain⟨hK,hc⟩:=hq
    obtain⟨f1,f2,f3⟩:=fin none W' hK
    exact⟨_,_,f1,.inl ⟨rfl,hup1 _ _ _ hc,f2,f3⟩⟩
   | ret =>
    obtain⟨hK,hc⟩:=hq
    obtain⟨f1,f2,f3⟩:=fin (some .ret) W' hK
    exact⟨_,_,f1,.inr ⟨rfl,.ret,hupj _ _ _ _ hc,f2,f3⟩⟩
   | exit i =>
    obtain⟨hK,hc⟩:=hq
    obtain⟨f1,f2,f3⟩:=fin (some (.exit i)) W' hK
    exact⟨_,_,f1,.inr ⟨rfl,.exit i,hupj _ _ _ _ hc,f2,f3⟩⟩
   | goto t=>exact hq.elim
   | panic ch=>exact hq.elim
   | outgrown=>exact hq.elim
end Go.Proofs.YtcpnjmcipainpaaGreatDoor
