/- Lemmas; each is under no condition but those that it states. -/
import Derived.Test.YtcpnjmcipainpaaGreatDoorPr15
import Derived.RangeFuncCalls
namespace Go.Proofs.YtcpnjmcipainpaaGreatDoor
set_option linter.unusedSimpArgs false
set_option linter.unusedVariables false
set_option maxRecDepth 100000
set_option maxHeartbeats 16000000
open Go Go.RowKit
section
section mixr
variable {P:Program} {l:List Oper} {lr:Nat} {R:Act->World->Prop}
def jdU(R:Act->World->Prop):Exit->Act->World->Prop:=fun e a w=>e=.normal/\R a w
theorem jiV:¬ LetsOut (jdU R):=fun ⟨_,_,h,_⟩=>by cases h
theorem jgR{o:Oper}{a:Act}{w:World}{K K':Act->World->Prop}{Q:Exit->Act->World->Prop}(hd:∀ c,o.op≠.defer c)(hK:∀ a w,K a w->K' a w)(h:o.wp P a w K (jdU R)) :
  o.wpIn (Fence.wide.inRound lr) 0 P a w K' Q:=by
 unfold Oper.wp at h
 refine⟨fun _ _=>trivial,?_⟩
 rw[Oper.semAt_eq _ _ _ hd];generalize (execOp a.eval o).run P w=r at *;cases r with
 | ok x w' =>
  cases x with
  | value v=>exact hK _ _ h
  | skip=>exact hK _ _ h
  | defer d=>exact hK _ _ h
  | enter f args =>
   refine And.intro (fun hh=>absurd hh (by simp[Fence.wide])) (CallsIn.inRound lr (callsIn_wide.2 (Calls.mono h fun e w'' he=>?_)));cases e with
   | returned v=>exact hK _ _ he
   | panicked c=>cases he.1
   | outgrown=>exact absurd he jiV
  | row r args=>exact And.intro (fun hh=>absurd hh (by simp[Fence.wide])) (fun c cs _=>let ⟨v,w',r,s⟩:=h c cs;⟨v,w',hK _ _ r,stepsIn_wide.2 s⟩)
  | round l f t a b=>exact h.elim
  | _=>exact h.elim
 | halt x w' =>
  cases x <;> first | exact h.elim | cases h.1
theorem jku(hnd:jjK l.toArray=true):∀ (fuel:Nat) (listed:Array Bool) (a:Act) (w:World),wpAny P .any l.toArray (jdU R) fuel listed a w->wpAnyIn (Fence.wide.inRound lr) 0 P .any l.toArray (jdU R) fuel listed a w:=by
 have hnd':∀ (i:Nat) (o:Oper),l.toArray[i]?=some o->∀ c,o.op≠.defer c:=by
  intro i o ho c hc;unfold jjK at hnd;rw[List.all_eq_true]at hnd
  have:=hnd o (by simpa using List.mem_of_getElem? (by simpa using ho))
  rw[hc]at this;simp at this
 intro fuel;induction fuel with
 | zero=>exact fun _ _ _ h=>h
 | succ fuel ih =>
  intro listed a w h
  refine⟨h.1,fun i hi=>?_⟩
  have hh:=h.2 i hi;unfold wpOp at hh;unfold wpOpIn;split
  ·rename_i ho;simp only[ho]at hh;exact ih _ _ _ hh
  ·rename_i o ho
   simp only[ho]at hh;split
   ·rename_i hw;simp only[hw,if_true]at hh
    rcases hh with hh | hh
    ·exact jgR (hnd' i o ho) (fun a w h=>ih _ a w h) hh
    ·exact absurd hh.2 jiV
   ·rename_i hw;simp only[hw]at hh
    exact⟨fun _ _=>trivial,ih _ _ _ hh⟩
theorem jkj(hm:P.follows .mixedOrders=true)(hnd:jjK l.toArray=true){id:Nat}{Q:Exit->Act->World->Prop}{a:Act}{w:World}(hq:∀ a w,R a w->Q .normal a w)
  (h:wpAny P .any l.toArray (jdU R) l.toArray.size (Array.replicate l.toArray.size false) a w.drew):(Code.region id l.toArray true).wpIn (Fence.wide.inRound lr) 0 P Q a w:=
 wpIn_mono (wpIn_region_any hm (jku hnd _ _ _ _ h)) fun e a w ⟨he,hr⟩=>by subst he;exact hq _ _ hr
theorem jgS(ord hd:List Nat)(E:World->World->Prop)(hE:∀ w,E w w)(hT:∀ x y z,E x y->E y z->E x z){id:Nat}{Q:Exit->Act->World->Prop}{a:Act}{w:World}
  (hm:P.follows .mixedOrders=true) (hnd:jjK l.toArray=true) (hs:Region.noSelect l.toArray=true) (hl:ord.length=l.toArray.size)
  (h:Mix P l hd E (fun a w=>Q .normal a w) ord [] a w.drew):(Code.region id l.toArray true).wpIn (Fence.wide.inRound lr) 0 P Q a w:=by
 refine jkj (R:=fun a w=>Q .normal a w) hm hnd (fun _ _ h=>h) ?_;rw[<-hl]
 have:=jek hE hT hs ord _ _ _ h
 unfold jbd at this;rw[hl]at this ⊢;exact jgm hE (fun _ _ h=>⟨rfl,h⟩) _ _ _ _ this
theorem jlP{ops:Array Oper}{rest:List Oper}{o:Oper}{a:Act}{w:World}{Q:Exit->Act->World->Prop}{T:TypeId}{cs:List Value}(hrun:∀ w,(Instr.alloc T true (.tuple #[])).run P w=.ok (.pointer (some ⟨w.heap.size,0,none⟩)) (w.alloc (.cells cs.toArray T)))(hgd:o.guard=none)(ho:o.op=.alloc T)
  (h:∀ W,Blk W w.heap.size (.cells cs.toArray T)->Ext w W->wpListIn (Fence.wide.inRound lr) 0 P ops Q rest (a.put o.dst (.pointer (some ⟨w.heap.size,0,none⟩))) W):wpListIn (Fence.wide.inRound lr) 0 P ops Q (o :: rest) a w:=
 wpListIn_plain hgd fun K hK=>jgR (R:=fun _ _=>False) (by rw[ho];intro c hc;cases hc) (fun _ _ h=>h) (jcy (v:=.pointer (some ⟨w.heap.size,0,none⟩)) (w':=w.alloc (.cells cs.toArray T)) (by simp only[execOp,ho,Sem.run_bind,hrun,Result.andThen,Sem.run_pure]) (hK _ _ (h _ (Blk.new w _) ((ExtR w).alloc _))))
theorem jkk{ops:Array Oper}{rest:List Oper}{o:Oper}{a:Act}{w:World}{Q:Exit->Act->World->Prop}{T T2:TypeId}{x y:Operand}{b:Nat}{old vs:List Value}(hgd:o.guard=none)(ho:o.op=.store T x y)(hx:a.eval x=.pointer (some ⟨b,0,none⟩))(hy:a.eval y=.agg vs.toArray)
  (hB:Blk w b (.cells old.toArray T2)) (hl:old.length=vs.length) (hi:(P.info? T).map (·.size)=some vs.length) (h1:∀ v∈vs,v.oneCell'=true)
  (h:∀ W,Blk W b (.cells vs.toArray T2)->jae (fun z=>z=b) w W->wpListIn (Fence.wide.inRound lr) 0 P ops Q rest (a.put o.dst undef) W):wpListIn (Fence.wide.inRound lr) 0 P ops Q (o :: rest) a w:=by
 refine wpListIn_plain hgd fun K hK=>jgR (R:=fun _ _=>False) (by rw[ho];intro c hc;cases hc) (fun _ _ h=>h) ?_;refine wp_store_mid T x y ho b 0 vs.toArray hx hy (by have:=jkc hB;rw[hl]at this;simpa using this) (by simpa using hi) (all_oneCell_toArray h1) (hK _ _ (h _ ?_ (jae.oneSetCells b vs 0 w)))
 have:=Blk.setCells vs 0 w old hB vO
 rw[List.drop_of_length_le vO]at this;simpa using this
end mixr
end
end Go.Proofs.YtcpnjmcipainpaaGreatDoor
