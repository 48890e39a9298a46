/- Lemmas; each is under no condition but those that it states. -/
import Derived.Test.YtdofbjccfkaijaaGreatDoorPn0
import Derived.BigQuiet
import Derived.Lib.Hide
namespace Go.Proofs.YtdofbjccfkaijaaGreatDoor
set_option linter.unusedSimpArgs false
set_option linter.unusedVariables false
set_option maxRecDepth 100000
set_option maxHeartbeats 16000000
theorem vP{G G':Prop}(k:G')(h:G'->G:=by (intro k;refine jvF _ rfl vY rfl rfl (fun K e=>?_);go_big_quiet_op;refine e _ ?_;clear e K;exact k)):G:=h k
theorem vK{G G':Prop}(k:G')(h:G'->G:=by (intro k;refine js1 _ rfl vY rfl rfl (fun K e=>?_);go_big_quiet_op;refine e _ ?_;clear e K;exact k)):G:=h k
theorem vD{G G':Prop}(k:G')(h:G'->G:=by (intro k;refine jsY _ rfl vY rfl rfl (fun K e=>?_);go_big_quiet_op;refine e _ ?_;clear e K;exact k)):G:=h k
theorem vZ{G G':Prop}(k:G')(h:G'->G:=by (intro k;refine js3 _ rfl vY rfl rfl (fun K e=>?_);go_big_quiet_op;refine e _ ?_;clear e K;exact k)):G:=h k
theorem vS{G G':Prop}(k:G')(h:G'->G:=by (intro k;simp only[Act.put,sA,sB,sC];exact k)):G:=h k
open Go Go.RowKit
section
theorem joA{k:Nat}{l:List Nat}:l.contains k=false↔k ∉ l:=by simp
section mix
variable {P:Program} {l:List Oper} {E:vW->vW->Prop}
abbrev NoQ:Exit->Act->vW->Prop:=fun _ _ _=>False
def jn3(P:Program)(E:vW->vW->Prop)(w:vW)(v:vV):Result Next->Prop
 | .ok (.value u) w'=>w'=w/\u=v
 | .ok .skip w'=>w'=w/\v=undef
 | .ok (.enter f args) w'=>w'=w/\Calls P f args w (fun e w''=>e=.returned v/\E w w'')
 | _=>False
def jbO(P:Program)(ops:Array Oper)(E:vW->vW->Prop)(w:vW)(o:Oper)(v:vV)(a:Act):Prop:=
 (Region.wanted o (yielded ops a.tmps)=true/\∀ w1,E w w1->jn3 P E w1 v ((execOp a.eval o).run P w1))\/(Region.wanted o (yielded ops a.tmps)=false/\v=undef)
theorem jbO.of_same{ops:Array Oper}{w:vW}{o:Oper}{v:vV}{a a':Act}(hy:jbO P ops E w o v a)(he:execOp a'.eval o=execOp a.eval o)
  (hw:Region.wanted o (yielded ops a'.tmps)=Region.wanted o (yielded ops a.tmps)):jbO P ops E w o v a':=by
 unfold jbO at *;rw[he,hw];exact hy
theorem jbO.st(hT:∀ x y z,E x y->E y z->E x z){ops:Array Oper}{w w1:vW}{o:Oper}{v:vV}{a:Act}(hy:jbO P ops E w o v a)(h:E w w1):jbO P ops E w1 o v a:=
 hy.imp (fun ⟨e,A⟩=>⟨e,fun H J=>A H (hT _ _ _ h J)⟩) id
def anyM(P:Program)(ops:Array Oper)(hd:List Nat)(E:vW->vW->Prop)(Q:Act->vW->Prop):Nat->Array Bool->Act->vW->Prop
 | 0,listed,a,w=>∀ w1,E w w1->Region.ready .any ops listed=[]/\Q a w1
 | fuel+1,listed,a,w=>∀ w1,E w w1 ->
  (Region.ready .any ops listed=[]->Q a w1) /\
  ∀ i∈Region.ready .any ops listed,wpOp P ops NoQ i (fun a' w'=>(i ∉ hd->E w1 w')/\anyM P ops hd E Q fuel (listed.setIfInBounds i true) a' w') a w1
theorem jrx(hT:∀ x y z,E x y->E y z->E x z){ops:Array Oper}{hd:List Nat}{Q:Act->vW->Prop}:∀ (fuel:Nat) (listed:Array Bool) (a:Act) (w w1:vW),anyM P ops hd E Q fuel listed a w->E w w1->anyM P ops hd E Q fuel listed a w1
 | 0,_,_,_,_,h,he=>fun e o=>h e (hT _ _ _ he o)
 | _+1,_,_,_,_,h,he=>fun e o=>h e (hT _ _ _ he o)
theorem jic{ops:Array Oper}{Q:Exit->Act->vW->Prop}{i:Nat}{K K':Act->vW->Prop}{a:Act}{w:vW}(hK:∀ a w,K a w->K' a w)(h:wpOp P ops NoQ i K a w):wpOp P ops Q i K' a w:=by
 unfold wpOp at *;split
 ·rename_i ho;simp only[ho]at h;exact hK _ _ h
 ·rename_i o ho
  simp only[ho]at h;split
  ·rename_i hw
   simp only[hw,if_true]at h;rcases h with h |⟨_,_,_,h⟩
   ·refine .inl ?_
    unfold Oper.wp at *;generalize (execOp a.eval o).run P w=r at *;cases r with
    | ok n w' =>
     cases n <;> simp only[Oper.upon]at h ⊢ <;>
      first
       | exact hK _ _ h
       | exact Calls.mono h (fun e A z=>by
         cases e with
         | returned v=>exact hK _ _ z
         | panicked c=>exact (z:False).elim
         | outgrown=>obtain⟨_,_,E⟩:=z;exact (E:False).elim)
       | exact Rows.mono h (fun _ _ z=>hK _ _ z)
    | halt x w'=>cases x <;> simp only[Oper.upon]at h ⊢ <;> exact (h:False).elim
   ·exact h.elim
  ·rename_i hw;simp only[hw]at h;exact hK _ _ h
theorem jg6(hE:∀ w,E w w){ops:Array Oper}{hd:List Nat}{Q:Act->vW->Prop}{Q':Exit->Act->vW->Prop}(hQ:∀ a w,Q a w->Q' .normal a w) :
  ∀ (fuel:Nat) (listed:Array Bool) (a:Act) (w:vW),anyM P ops hd E Q fuel listed a w->wpAny P .any ops Q' fuel listed a w
 | 0,_,_,w,h=>let ⟨h1,h2⟩:=h w (hE w);⟨h1,hQ _ _ h2⟩
 | fuel+1,_,_,w,h=>let ⟨h1,h2⟩:=h w (hE w)
  ⟨fun e=>hQ _ _ (h1 e),fun i o=>jic (fun z w' ⟨_,A⟩=>jg6 hE hQ fuel _ z w' A) (h2 i o)⟩
theorem jbO.wpOp{ops:Array Oper}{i:Nat}{o:Oper}{v:vV}{a:Act}{w:vW}(hi:ops[i]?=some o)(hy:jbO P ops E w o v a){K:Act->vW->Prop}{w1:vW}(H:E w w1)(hE:∀ w,E w w)
  (h:∀ w',E w1 w'->K (a.put o.dst v) w'):wpOp P ops NoQ i K a w1:=by
 unfold Go.wpOp;simp only[hi];rcases hy with⟨hw,hv⟩ |⟨hw,rfl⟩
 ·simp only[hw,if_true]
  refine .inl ?_;have z:=hv w1 H;unfold Oper.wp;generalize (execOp a.eval o).run P w1=r at *;cases r with
  | ok n w' =>
   cases n <;> simp only[jn3]at z <;> simp only[Oper.upon]
   case value u=>obtain⟨A,J⟩:=z;rw[A,J];exact h _ (hE w1)
   case skip=>obtain⟨A,J⟩:=z;rw[A, <-J];exact h _ (hE w1)
   case enter f args =>
    obtain⟨A,O⟩:=z;rw[A]
    exact O.mono fun e Q ⟨X,H⟩=>by subst X;exact h _ H
  | halt x w'=>simp only[jn3]at z
 ·simp only[hw,cI,if_false];exact h _ (hE w1)
theorem jfu{ops:Array Oper}{j:Nat}{oi oj:Oper}{v:vV}(hj:ops[j]?=some oj)(hap:oi.apart ops oj=true)
  (hsi:∀ cs b,oi.op≠.select cs b) (hsj:∀ cs b,oj.op≠.select cs b) {K:Act->vW->Prop} {Y:Act->Prop} {a:Act} {w:vW}
  (hY:∀ a E,Y a->execOp E.eval oi=execOp a.eval oi->Region.wanted oi (yielded ops E.tmps)=Region.wanted oi (yielded ops a.tmps)->Y E)
  (z:Y a) (h:wpOp P ops NoQ j K (a.put oi.dst v) w) :
  wpOp P ops NoQ j (fun E w'=>Y E/\K (E.put oi.dst v) w') a w:=by
 obtain⟨Q,H,X⟩:=Oper.apart_spec hap
 have o:∀ (a:Act),Y a->∀ u,Y (a.put oj.dst u):=fun a z u =>
  hY _ _ z (execOp_put oi hsi a oj.dst u X) (wanted_put oi a oj.dst u X)
 have A:∀ d,Y { a with defers:=d :: a.defers }:=fun d=>hY _ _ z rfl rfl;unfold wpOp at *;simp only[hj]at *;rw[wanted_put oj a oi.dst v Q]at h;split
 ·rename_i hw
  simp only[hw,if_true]at h;rcases h with h |⟨_,_,_,hf⟩
  case inr=>exact hf.elim
  refine .inl ?_;unfold Oper.wp at *;rw[execOp_put oj hsj a oi.dst v Q]at h;generalize (execOp a.eval oj).run P w=r at *;cases r with
  | ok n w' =>
   cases n <;> simp only[Oper.upon]at h ⊢
   case value u=>exact⟨o a z u,by rw[<-iX a v u H];exact h⟩
   case skip=>exact⟨o a z _,by rw[<-iX a v undef H];exact h⟩
   case defer d =>
    refine⟨o _ (A d) _,?_⟩
    rw[<-iX _ v undef H, <-Act.put_defers];exact h
   case enter f args =>
    refine Calls.mono h fun e O J=>?_;cases e with
    | returned u=>exact⟨o a z u,by rw[<-iX a v u H];exact J⟩
    | panicked c=>exact J
    | outgrown=>exact J
   case row row args=>exact Rows.mono h fun u O J=>⟨o a z u,by rw[<-iX a v u H];exact J⟩
  | halt x w' =>
   cases x <;> simp only[Oper.upon]at h ⊢ <;> exact h
 ·rename_i hw
  simp only[hw]at h
  exact⟨o a z _,by rw[<-iX a v undef H];exact h⟩
def jp2(ops:Array Oper)(hd:List Nat)(listed:Array Bool)(i:Nat):Bool:=
 hd.all fun j=>listed.getD j true || match ops[j]? with | some oj=>oj.after.any (fun e=>Region.binds .any e && e.on == i) | none=>true
theorem jqc(hE:∀ w,E w w)(hT:∀ x y z,E x y->E y z->E x z){ops:Array Oper}{hd:List Nat}{Q:Act->vW->Prop}{i:Nat}{oi:Oper}{v:vV}(hi:ops[i]?=some oi)(hsel:∀ (j:Nat) (o:Oper) cs b,ops[j]?=some o->o.op≠.select cs b)(hih:i ∉ hd) :
  ∀ (J:Nat) (A:Array Bool) (a:Act) (w:vW),
   (∀ j oj,ops[j]?=some oj->j≠i->A.getD j true=false->(∀ e∈oj.after,Region.binds .any e=true->e.on≠i)->oi.apart ops oj=true) ->
   i∈Region.ready .any ops A->jbO P ops E w oi v a ->
   ((∀ j oj,ops[j]?=some oj->j∈hd->A.getD j true=false->∃ e∈oj.after,Region.binds .any e=true/\e.on=i)\/∀ w' a',execOp a'.eval oi=execOp a.eval oi->Region.wanted oi (yielded ops a'.tmps)=Region.wanted oi (yielded ops a.tmps)->jbO P ops E w' oi v a') ->
   anyM P ops hd E Q J (A.setIfInBounds i true) (a.put oi.dst v) w->anyM P ops hd E Q (J+1) A a w:=by
 intro J;induction J with
 | zero =>
  intro A a w _ hr hy _ H w1 he
  refine⟨fun h=>(by rw[h]at hr;cases hr),fun j hj=>?_⟩
  by_cases hji:j=i
  ·subst hji;exact hy.wpOp hi he hE (fun w' X=>⟨fun _=>X,jrx hT _ _ _ _ _ H (hT _ _ _ he X)⟩)
  ·have:=ready_mono hj hji
   rw[(H w1 he).1]at this;cases this
 | succ J ih =>
  intro A a w a0 hr hy Z H w1 he
  refine⟨fun h=>(by rw[h]at hr;cases hr),fun j hj=>?_⟩
  by_cases hji:j=i
  ·subst hji;exact hy.wpOp hi he hE (fun w' X=>⟨fun _=>X,jrx hT _ _ _ _ _ H (hT _ _ _ he X)⟩)
  ·have X:=(H w1 he).2 j (ready_mono hj hji)
   obtain⟨O,oj,a6,a8⟩:=mem_ready.1 hj
   have a4:∀ b,A.getD i b=false\/True:=fun _=>.inr trivial;have a5:∀ e∈oj.after,Region.binds .any e=true->e.on≠i:=fun e he hb a9=>by
    have X:=a8 e he hb;have h0:=(mem_ready.1 hr).1;rw[a9]at X;rcases fQ i A.size with h' | h'
    ·simp[h']at h0 X;rw[h0]at X;cases X
    ·simp[gN h']at X
   have h2:=jfu (v:=v) (Y:=fun a'=>execOp a'.eval oi=execOp a.eval oi/\Region.wanted oi (yielded ops a'.tmps)=Region.wanted oi (yielded ops a.tmps)) a6 (a0 j oj a6 hji O a5) (fun cs b=>hsel i oi cs b hi) (fun cs b=>hsel j oj cs b a6)
    (fun a1 a2 h e1 e2=>⟨e1.trans h.1,e2.trans h.2⟩) ⟨rfl,rfl⟩ X
   have a3:∀ k ok,ops[k]?=some ok->k≠i->(A.setIfInBounds j true).getD k true=false ->
     (∀ e∈ok.after,Region.binds .any e=true->e.on≠i)->oi.apart ops ok=true:=fun k ok hk b0 a4 b1=>by
    refine a0 k ok hk b0 ?_ b1
    by_cases hjk:j=k
    ·subst hjk;exact O
    ·rw[getD_set_ne true hjk]at a4;exact a4
   refine wpOp_mono (fun a' w' h3=>⟨h3.2.1,?_⟩) h2
   obtain⟨⟨e1,e2⟩,h4,h5⟩:=h3
   have b2:jbO P ops E w' oi v a':=by
    rcases Z with Z | K
    ·have a7:j ∉ hd:=fun a7=>by
      obtain⟨e,he,hb,b3⟩:=Z j oj a6 a7 O
      exact a5 e he hb b3
     exact (hy.of_same e1 e2).st hT (hT _ _ _ he (h4 a7))
    ·exact K w' a' e1 e2
   refine ih (A.setIfInBounds j true) a' w' a3 (ready_mono hr (Ne.symm hji)) b2 ?_ ?_
   ·refine Z.imp (fun Z k ok hk b4 a4=>Z k ok hk b4 ?_) (fun K w2 a2 e3 e4=>K w2 a2 (e3.trans e1) (e4.trans e2))
    by_cases hjk:j=k
    ·subst hjk;exact O
    ·rw[getD_set_ne true hjk]at a4;exact a4
   ·rw[gV _ _ hji]
    exact h5
def jbj(l:List Oper)(done:List Nat):Array Bool:=done.foldr (fun k b=>b.setIfInBounds k true) (Array.replicate l.toArray.size false)
def Mix(P:Program)(l:List Oper)(hd:List Nat)(E:vW->vW->Prop)(Q:Act->vW->Prop):List Nat->List Nat->Act->vW->Prop
 | [],done,a,w=>∀ w1,E w w1->Region.ready .any l.toArray (jbj l done)=[]/\Q a w1
 | k :: ord,done,a,w =>
  (k ∉ hd/\k∈Region.ready .any l.toArray (jbj l done)/\Region.free .any l.toArray (jbj l done) k=true/\∃ o v,l[k]?=some o/\jbO P l.toArray E w o v a /\
   (jp2 l.toArray hd (jbj l done) k=true\/∀ w' a',execOp a'.eval o=execOp a.eval o->Region.wanted o (yielded l.toArray a'.tmps)=Region.wanted o (yielded l.toArray a.tmps)->jbO P l.toArray E w' o v a')/\Mix P l hd E Q ord (k :: done) (a.put o.dst v) w) \/
  (Region.ready .any l.toArray (jbj l done)=[k]/\k∈hd/\∀ w1,E w w1->wpOp P l.toArray NoQ k (fun a' w'=>Mix P l hd E Q ord (k :: done) a' w') a w1)
theorem jeG(hE:∀ w,E w w)(hT:∀ x y z,E x y->E y z->E x z)(hs:Region.noSelect l.toArray=true){hd:List Nat}{Q:Act->vW->Prop}:∀ (ord:List Nat) (done:List Nat) (a:Act) (w:vW),
  Mix P l hd E Q ord done a w->anyM P l.toArray hd E Q ord.length (jbj l done) a w
 | [],_,_,_,h=>h
 | k :: ord,done,a,w,h=>by
  rcases h with⟨hk,hr,hf,o,v,ho,hy,hwt,h⟩ |⟨hr,hk,h⟩
  ·have A:l.toArray[k]?=some o:=by simpa using ho
   refine jqc hE hT A (iI hs) hk ord.length (jbj l done) a w (iU A hf) hr hy (hwt.imp (fun Z j oj hj H J=>?_) id) (jeG hE hT hs ord _ _ _ h)
   have:=fB.1 Z j H
   simp only[J,Bool.false_or,hj]at this
   obtain⟨e,K,hb⟩:=Array.any_eq_true'.1 this
   simp only[cU,beq_iff_eq]at hb
   exact⟨e,K,hb.1,hb.2⟩
  ·intro w1 K
   refine⟨fun O=>(by rw[hr]at O;cases O),fun i X=>?_⟩
   rw[hr]at X;obtain rfl:i=k:=by simpa using X
   exact wpOp_mono (fun a' w' h2=>⟨fun hn=>absurd hk hn,jeG hE hT hs ord _ _ _ h2⟩) (h w1 K)
theorem jaz(ord hd:List Nat)(E:vW->vW->Prop)(hE:∀ w,E w w)(hT:∀ x y z,E x y->E y z->E x z){id:Nat}{Q:Exit->Act->vW->Prop}{a:Act}{w:vW}
  (hm:P.follows .mixedOrders=true) (hs:Region.noSelect l.toArray=true) (hl:ord.length=l.toArray.size)
  (h:Mix P l hd E (fun a w=>Q .normal a w) ord [] a w.drew):(Code.region id l.toArray true).wp P Q a w:=by
 refine wp_region_any hm ?_;rw[<-hl]
 have:=jeG hE hT hs ord _ _ _ h
 unfold jbj at this;rw[hl]at this ⊢;exact jg6 hE (fun _ _ h=>h) _ _ _ _ this
def jjS:Op->Bool
 | .call c=>match c.callee with | .builtin .len=>true | .builtin .min=>true | .builtin .max=>true | _=>false
 | .move _ | .assign _ | .pick .. | .build .. | .load .. | .binOp .. | .unOp .. | .convert .. | .slice .. | .fieldAddr .. | .field .. | .indexAddr .. | .index .. | .extract .. | .lookup .. | .makeFunc .. | .makeInterface .. | .typeAssert ..=>true
 | _=>false
def jcR(s:Sem Next):Prop:=∀ (P:Program) (w w':vW) (f:FuncId) (args:Array vV),s.run P w≠.ok (.enter f args) w'
theorem jcR.bind{α:Type}{s:Sem α}{k:α->Sem Next}(h:∀ x,jcR (k x)):jcR (s >>= k):=by
 intro P w w' f args;rw[bX];cases s.run P w with
 | ok x w1=>exact h x P w1 w' f args
 | halt x w1=>simp[Result.andThen]
theorem jcR.value(v:vV):jcR (pure (.value v)):=by intro P w w' f args;simp[cO]
theorem jk2{ρ:Operand->vV}{o:Oper}(h:jjS o.op=true):jcR (execOp ρ o):=by
 unfold execOp;cases ho:o.op <;> rw[ho]at h <;> simp only[jjS,cI]at h
 case move=>exact jcR.value _
 case assign=>exact jcR.value _
 case pick=>exact jcR.bind fun _=>jcR.value _
 case call c =>
  obtain⟨e,z,A⟩:=c
  cases e with
  | builtin b =>
   intro P w w' f args;simp only[resolve,bX,cO,Result.andThen,invoke];cases b <;> simp only[cI]at h <;> exact (jcR.bind fun _=>jcR.value _) P w w' f args
  | value f=>simp at h
  | invoke r m=>simp at h
 all_goals exact jcR.bind fun _=>jcR.value _
variable {Q:Act->vW->Prop} {ord done hd:List Nat} {a:Act} {w:vW} {k:Nat} {o:Oper}
def jhJ(l:List Oper)(hd done:List Nat)(k:Nat):Bool := !hd.contains k && (Region.ready .any l.toArray (jbj l done)).contains k && Region.free .any l.toArray (jbj l done) k
def jj7(l:List Oper)(hd done:List Nat)(k:Nat):Bool:=jhJ l hd done k && jp2 l.toArray hd (jbj l done) k
def jni(l:List Oper)(hd done:List Nat)(k:Nat):Bool:=Region.ready .any l.toArray (jbj l done) == [k] && hd.contains k
theorem jvF(o:Oper)(ho:l[k]?=some o)(hk:jhJ l hd done k=true)(hw:Region.wanted o (yielded l.toArray a.tmps)=true)(hq:jjS o.op=true)
  (h:∀ K:Act->Prop,(∀ e,Mix P l hd E Q ord (k :: done) e w->K e)->o.quiet P a (fun _=>True) K):Mix P l hd E Q (k :: ord) done a w:=by
 simp only[jhJ,cU,dC,iE,joA]at hk
 obtain⟨v,H,J⟩:=h _ (fun _ h=>h)
 have z:∀ w' e,execOp e.eval o=execOp a.eval o->Region.wanted o (yielded l.toArray e.tmps)=Region.wanted o (yielded l.toArray a.tmps)->jbO P l.toArray E w' o v e:=by
  refine fun w' e O X=>.inl ⟨X.trans hw,fun w1 _=>?_⟩;rw[O];have A:=H w1 trivial;unfold Oper.quietAt at A;have Z:=fun f args w'=>jk2 (ρ:=a.eval) hq P w1 w' f args;generalize (execOp a.eval o).run P w1=r at *;cases r with
  | ok n w'=>cases n <;> simp only[Oper.quietUpon]at A <;> first | exact A | exact absurd rfl (Z _ _ _)
  | halt x w'=>simp only[Oper.quietUpon]at A
 exact .inl ⟨hk.1.1,hk.1.2,hk.2,o,v,ho,z w a rfl rfl,.inr z,J⟩
theorem jsV(o:Oper)(v:vV)(ho:l[k]?=some o)(hk:jj7 l hd done k=true)(hw:Region.wanted o (yielded l.toArray a.tmps)=true)
  (hv:∀ w1,E w w1->(execOp a.eval o).run P w1=.ok (.value v) w1) (h:Mix P l hd E Q ord (k :: done) (a.put o.dst v) w):Mix P l hd E Q (k :: ord) done a w:=by
 simp only[jj7,jhJ,cU,dC,iE,joA]at hk;exact .inl ⟨hk.1.1.1,hk.1.1.2,hk.1.2,o,v,ho,.inl ⟨hw,fun w1 e=>by rw[hv w1 e];exact⟨rfl,rfl⟩⟩,.inl hk.2,h⟩
theorem jvE(p:Addr)(v:vV){t:TypeId}{x:Operand}{d:Option Tmp}{ty:TypeId}{pos:String}{af:Array Edge}{g:Option (Nat × Bool)}(ho:l[k]?=some ⟨d,.load t x,ty,pos,af,g⟩)(hk:jj7 l hd done k=true)
  (hw:Region.wanted ⟨d,.load t x,ty,pos,af,g⟩ (yielded l.toArray a.tmps)=true) (hx:a.eval x=.pointer (some p))
  (hv:∀ w1,E w w1->(Instr.loadAt t (.pointer (some p))).run P w1=.ok v w1) (h:Mix P l hd E Q ord (k :: done) (a.put d v) w):Mix P l hd E Q (k :: ord) done a w:=by
 refine jsV _ v ho hk hw (fun w1 e=>?_) h
 have:=hv w1 e
 simp only[execOp,hx,bX,this,Result.andThen,cO]
theorem qL{t:TypeId}{x:Operand}{d:Option Tmp}{ty:TypeId}{pos:String}{af:Array Edge}{g:Option (Nat × Bool)}(p:Addr)(v:vV)(ho:l[k]?=some ⟨d,.load t x,ty,pos,af,g⟩)(hv:∀ w1,E w w1->(Instr.loadAt t (.pointer (some p))).run P w1=.ok v w1)(h:Mix P l hd E Q ord (k :: done) (a.put d v) w)(hk:jj7 l hd done k=true:=by kernel_rfl)(hw:Region.wanted ⟨d,.load t x,ty,pos,af,g⟩ (yielded l.toArray a.tmps)=true:=by rfl)(hx:a.eval x=.pointer (some p):=by rfl):Mix P l hd E Q (k :: ord) done a w:=jvE p v ho hk hw hx hv h
theorem jc9(o:Oper)(f:FuncId)(args:Array vV)(v:vV)(ho:l[k]?=some o)(hk:jj7 l hd done k=true)(hw:Region.wanted o (yielded l.toArray a.tmps)=true)
  (hv:∀ w1,(execOp a.eval o).run P w1=.ok (.enter f args) w1) (hc:∀ w1,E w w1->Calls P f args w1 (fun e A=>e=.returned v/\E w1 A))
  (h:Mix P l hd E Q ord (k :: done) (a.put o.dst v) w):Mix P l hd E Q (k :: ord) done a w:=by
 simp only[jj7,jhJ,cU,dC,iE,joA]at hk;exact .inl ⟨hk.1.1.1,hk.1.1.2,hk.1.2,o,v,ho,.inl ⟨hw,fun w1 z=>by rw[hv w1];exact⟨rfl,hc w1 z⟩⟩,.inl hk.2,h⟩
theorem jvD(o:Oper)(ho:l[k]?=some o)(hk:jni l hd done k=true)(hw:Region.wanted o (yielded l.toArray a.tmps)=true)
  (h:∀ w1,E w w1->∀ K:Act->vW->Prop,(∀ a' w',Mix P l hd E Q ord (k :: done) a' w'->K a' w')->o.wp P a w1 K NoQ):Mix P l hd E Q (k :: ord) done a w:=by
 simp only[jni,cU,beq_iff_eq,dC]at hk;refine .inr ⟨hk.1,hk.2,fun w1 z=>?_⟩;unfold wpOp;have e:l.toArray[k]?=some o:=by simpa using ho
 simp only[e,hw,if_true];exact .inl (h w1 z _ (fun _ _ A=>A))
theorem qH(o:Oper)(ho:l[k]?=some o)(h:∀ w1,E w w1->∀ K:Act->vW->Prop,(∀ a' w',Mix P l hd E Q ord (k :: done) a' w'->K a' w')->o.wp P a w1 K NoQ)(hk:jni l hd done k=true:=by kernel_rfl)(hw:Region.wanted o (yielded l.toArray a.tmps)=true:=by rfl):Mix P l hd E Q (k :: ord) done a w:=jvD o ho hk hw h
theorem jx5(hk:(Region.ready .any l.toArray (jbj l done)).isEmpty=true)(h:∀ w1,E w w1->Q a w1):Mix P l hd E Q [] done a w:=
 fun w1 e=>⟨by simpa using hk,h w1 e⟩
theorem qE(h:∀ w1,E w w1->Q a w1)(hk:(Region.ready .any l.toArray (jbj l done)).isEmpty=true:=by kernel_rfl):Mix P l hd E Q [] done a w:=jx5 hk h
theorem jcb{K:Act->vW->Prop}{Q:Exit->Act->vW->Prop}{v:vV}{w':vW}(hr:(execOp a.eval o).run P w=.ok (.value v) w')(h:K (a.put o.dst v) w'):o.wp P a w K Q:=by
 unfold Oper.wp;rw[hr];exact h
end mix
end
