/- Lemmas; each is under no condition but those that it states. -/
import Derived.Test.YtfjmkebdhojanaaGreatDoorPt0
import Derived.BigQuiet
import Derived.Lib.Hide
namespace Go.Proofs.YtfjmkebdhojanaaGreatDoor
set_option linter.unusedSimpArgs false
set_option linter.unusedVariables false
set_option maxRecDepth 100000
set_option maxHeartbeats 16000000
theorem vP{G G':Prop}(k:G')(h:G'->G:=by (intro k;refine jvB _ rfl vY rfl rfl (fun K e=>?_);go_big_quiet_op;refine e _ ?_;clear e K;exact k)):G:=h k
theorem vK{G G':Prop}(k:G')(h:G'->G:=by (intro k;refine js0 _ rfl vY rfl rfl (fun K e=>?_);go_big_quiet_op;refine e _ ?_;clear e K;exact k)):G:=h k
theorem vD{G G':Prop}(k:G')(h:G'->G:=by (intro k;refine jsX _ rfl vY rfl rfl (fun K e=>?_);go_big_quiet_op;refine e _ ?_;clear e K;exact k)):G:=h k
theorem vZ{G G':Prop}(k:G')(h:G'->G:=by (intro k;refine js2 _ rfl vY rfl rfl (fun K e=>?_);go_big_quiet_op;refine e _ ?_;clear e K;exact k)):G:=h k
theorem vS{G G':Prop}(k:G')(h:G'->G:=by (intro k;simp only[Act.put,sA,sB,sC];exact k)):G:=h k
open Go Go.RowKit
section
theorem joN{k:Nat}{l:List Nat}:l.contains k=false↔k ∉ l:=by simp
section mix
variable {P:Program} {l:List Oper} {E:vW->vW->Prop}
abbrev NoQ:Exit->Act->vW->Prop:=fun _ _ _=>False
def joi(P:Program)(E:vW->vW->Prop)(w:vW)(v:vV):Result Next->Prop
 | .ok (.value u) w'=>w'=w/\u=v
 | .ok .skip w'=>w'=w/\v=undef
 | .ok (.enter f args) w'=>w'=w/\Calls P f args w (fun e w''=>e=.returned v/\E w w'')
 | _=>False
def jbO(P:Program)(ops:Array Oper)(E:vW->vW->Prop)(w:vW)(o:Oper)(v:vV)(a:Act):Prop:=
 (Region.wanted o (yielded ops a.tmps)=true/\∀ w1,E w w1->joi P E w1 v ((execOp a.eval o).run P w1))\/(Region.wanted o (yielded ops a.tmps)=false/\v=undef)
theorem jbO.of_same{ops:Array Oper}{w:vW}{o:Oper}{v:vV}{a a':Act}(hy:jbO P ops E w o v a)(he:execOp a'.eval o=execOp a.eval o)
  (hw:Region.wanted o (yielded ops a'.tmps)=Region.wanted o (yielded ops a.tmps)):jbO P ops E w o v a':=by
 unfold jbO at *;rw[he,hw];exact hy
theorem jbO.st(hT:∀ x y z,E x y->E y z->E x z){ops:Array Oper}{w w1:vW}{o:Oper}{v:vV}{a:Act}(hy:jbO P ops E w o v a)(h:E w w1):jbO P ops E w1 o v a:=
 hy.imp (fun ⟨e,A⟩=>⟨e,fun H J=>A H (hT _ _ _ h J)⟩) id
def anyM(P:Program)(ops:Array Oper)(hd:List Nat)(E:vW->vW->Prop)(Q:Act->vW->Prop):Nat->Array Bool->Act->vW->Prop
 | 0,listed,a,w=>∀ w1,E w w1->Region.ready .any ops listed=[]/\Q a w1
 | fuel+1,listed,a,w=>∀ w1,E w w1 ->
  (Region.ready .any ops listed=[]->Q a w1) /\
  ∀ i∈Region.ready .any ops listed,wpOp P ops NoQ i (fun a' w'=>(i ∉ hd->E w1 w')/\anyM P ops hd E Q fuel (listed.setIfInBounds i true) a' w') a w1
theorem jrv(hT:∀ x y z,E x y->E y z->E x z){ops:Array Oper}{hd:List Nat}{Q:Act->vW->Prop}:∀ (fuel:Nat) (listed:Array Bool) (a:Act) (w w1:vW),anyM P ops hd E Q fuel listed a w->E w w1->anyM P ops hd E Q fuel listed a w1
 | 0,_,_,_,_,h,he=>fun e o=>h e (hT _ _ _ he o)
 | _+1,_,_,_,_,h,he=>fun e o=>h e (hT _ _ _ he o)
theorem jh9{ops:Array Oper}{Q:Exit->Act->vW->Prop}{i:Nat}{K K':Act->vW->Prop}{a:Act}{w:vW}(hK:∀ a w,K a w->K' a w)(h:wpOp P ops NoQ i K a w):wpOp P ops Q i K' a w:=by
 unfold wpOp at *;split
 ·rename_i ho;simp only[ho]at h;exact hK _ _ h
 ·rename_i o ho
  simp only[ho]at h;split
  ·rename_i hw
   simp only[hw,if_true]at h;rcases h with h |⟨_,_,_,h⟩
   ·refine .inl ?_
    unfold Oper.wp at *;generalize (execOp a.eval o).run P w=r at *;cases r with
    | ok n w' =>
     cases n <;> simp only[Oper.upon]at h ⊢ <;>
      first
       | exact hK _ _ h
       | exact Calls.mono h (fun e E A=>by
         cases e with
         | returned v=>exact hK _ _ A
         | panicked c=>exact (A:False).elim
         | outgrown=>obtain⟨_,_,H⟩:=A;exact (H:False).elim)
       | exact Rows.mono h (fun _ _ A=>hK _ _ A)
    | halt x w'=>cases x <;> simp only[Oper.upon]at h ⊢ <;> exact (h:False).elim
   ·exact h.elim
  ·rename_i hw;simp only[hw]at h;exact hK _ _ h
theorem jg2(hE:∀ w,E w w){ops:Array Oper}{hd:List Nat}{Q:Act->vW->Prop}{Q':Exit->Act->vW->Prop}(hQ:∀ a w,Q a w->Q' .normal a w) :
  ∀ (fuel:Nat) (listed:Array Bool) (a:Act) (w:vW),anyM P ops hd E Q fuel listed a w->wpAny P .any ops Q' fuel listed a w
 | 0,_,_,w,h=>let ⟨h1,h2⟩:=h w (hE w);⟨h1,hQ _ _ h2⟩
 | fuel+1,_,_,w,h=>let ⟨h1,h2⟩:=h w (hE w)
  ⟨fun e=>hQ _ _ (h1 e),fun i o=>jh9 (fun A w' ⟨_,H⟩=>jg2 hE hQ fuel _ A w' H) (h2 i o)⟩
theorem jbO.wpOp{ops:Array Oper}{i:Nat}{o:Oper}{v:vV}{a:Act}{w:vW}(hi:ops[i]?=some o)(hy:jbO P ops E w o v a){K:Act->vW->Prop}{w1:vW}(J:E w w1)(hE:∀ w,E w w)
  (h:∀ w',E w1 w'->K (a.put o.dst v) w'):wpOp P ops NoQ i K a w1:=by
 unfold Go.wpOp;simp only[hi];rcases hy with⟨hw,hv⟩ |⟨hw,rfl⟩
 ·simp only[hw,if_true]
  refine .inl ?_;have A:=hv w1 J;unfold Oper.wp;generalize (execOp a.eval o).run P w1=r at *;cases r with
  | ok n w' =>
   cases n <;> simp only[joi]at A <;> simp only[Oper.upon]
   case value u=>obtain⟨H,O⟩:=A;rw[H,O];exact h _ (hE w1)
   case skip=>obtain⟨H,O⟩:=A;rw[H, <-O];exact h _ (hE w1)
   case enter f args =>
    obtain⟨H,Q⟩:=A;rw[H]
    exact Q.mono fun e X ⟨Z,J⟩=>by subst Z;exact h _ J
  | halt x w'=>simp only[joi]at A
 ·simp only[hw,cR,if_false];exact h _ (hE w1)
theorem jfy{ops:Array Oper}{j:Nat}{oi oj:Oper}{v:vV}(hj:ops[j]?=some oj)(hap:oi.apart ops oj=true)
  (hsi:∀ cs b,oi.op≠.select cs b) (hsj:∀ cs b,oj.op≠.select cs b) {K:Act->vW->Prop} {Y:Act->Prop} {a:Act} {w:vW}
  (hY:∀ a H,Y a->execOp H.eval oi=execOp a.eval oi->Region.wanted oi (yielded ops H.tmps)=Region.wanted oi (yielded ops a.tmps)->Y H)
  (A:Y a) (h:wpOp P ops NoQ j K (a.put oi.dst v) w) :
  wpOp P ops NoQ j (fun H w'=>Y H/\K (H.put oi.dst v) w') a w:=by
 obtain⟨X,J,Z⟩:=Oper.apart_spec hap
 have o:∀ (a:Act),Y a->∀ u,Y (a.put oj.dst u):=fun a A u =>
  hY _ _ A (execOp_put oi hsi a oj.dst u Z) (wanted_put oi a oj.dst u Z)
 have E:∀ d,Y { a with defers:=d :: a.defers }:=fun d=>hY _ _ A rfl rfl;unfold wpOp at *;simp only[hj]at *;rw[wanted_put oj a oi.dst v X]at h;split
 ·rename_i hw
  simp only[hw,if_true]at h;rcases h with h |⟨_,_,_,hf⟩
  case inr=>exact hf.elim
  refine .inl ?_;unfold Oper.wp at *;rw[execOp_put oj hsj a oi.dst v X]at h;generalize (execOp a.eval oj).run P w=r at *;cases r with
  | ok n w' =>
   cases n <;> simp only[Oper.upon]at h ⊢
   case value u=>exact⟨o a A u,by rw[<-iX a v u J];exact h⟩
   case skip=>exact⟨o a A _,by rw[<-iX a v undef J];exact h⟩
   case defer d =>
    refine⟨o _ (E d) _,?_⟩
    rw[<-iX _ v undef J, <-Act.put_defers];exact h
   case enter f args =>
    refine Calls.mono h fun e Q O=>?_;cases e with
    | returned u=>exact⟨o a A u,by rw[<-iX a v u J];exact O⟩
    | panicked c=>exact O
    | outgrown=>exact O
   case row row args=>exact Rows.mono h fun u Q O=>⟨o a A u,by rw[<-iX a v u J];exact O⟩
  | halt x w' =>
   cases x <;> simp only[Oper.upon]at h ⊢ <;> exact h
 ·rename_i hw
  simp only[hw]at h
  exact⟨o a A _,by rw[<-iX a v undef J];exact h⟩
def jp6(ops:Array Oper)(hd:List Nat)(listed:Array Bool)(i:Nat):Bool:=
 hd.all fun j=>listed.getD j true || match ops[j]? with | some oj=>oj.after.any (fun e=>Region.binds .any e && e.on == i) | none=>true
theorem jqg(hE:∀ w,E w w)(hT:∀ x y z,E x y->E y z->E x z){ops:Array Oper}{hd:List Nat}{Q:Act->vW->Prop}{i:Nat}{oi:Oper}{v:vV}(hi:ops[i]?=some oi)(hsel:∀ (j:Nat) (o:Oper) cs b,ops[j]?=some o->o.op≠.select cs b)(hih:i ∉ hd) :
  ∀ (J:Nat) (A:Array Bool) (a:Act) (w:vW),
   (∀ j oj,ops[j]?=some oj->j≠i->A.getD j true=false->(∀ e∈oj.after,Region.binds .any e=true->e.on≠i)->oi.apart ops oj=true) ->
   i∈Region.ready .any ops A->jbO P ops E w oi v a ->
   ((∀ j oj,ops[j]?=some oj->j∈hd->A.getD j true=false->∃ e∈oj.after,Region.binds .any e=true/\e.on=i)\/∀ w' a',execOp a'.eval oi=execOp a.eval oi->Region.wanted oi (yielded ops a'.tmps)=Region.wanted oi (yielded ops a.tmps)->jbO P ops E w' oi v a') ->
   anyM P ops hd E Q J (A.setIfInBounds i true) (a.put oi.dst v) w->anyM P ops hd E Q (J+1) A a w:=by
 intro J;induction J with
 | zero =>
  intro A a w _ hr hy _ H w1 he
  refine⟨fun h=>(by rw[h]at hr;cases hr),fun j hj=>?_⟩
  by_cases hji:j=i
  ·subst hji;exact hy.wpOp hi he hE (fun w' X=>⟨fun _=>X,jrv hT _ _ _ _ _ H (hT _ _ _ he X)⟩)
  ·have:=ready_mono hj hji
   rw[(H w1 he).1]at this;cases this
 | succ J ih =>
  intro A a w a0 hr hy Z H w1 he
  refine⟨fun h=>(by rw[h]at hr;cases hr),fun j hj=>?_⟩
  by_cases hji:j=i
  ·subst hji;exact hy.wpOp hi he hE (fun w' X=>⟨fun _=>X,jrv hT _ _ _ _ _ H (hT _ _ _ he X)⟩)
  ·have X:=(H w1 he).2 j (ready_mono hj hji)
   obtain⟨O,oj,a6,a8⟩:=mem_ready.1 hj
   have a4:∀ b,A.getD i b=false\/True:=fun _=>.inr trivial;have a5:∀ e∈oj.after,Region.binds .any e=true->e.on≠i:=fun e he hb a9=>by
    have X:=a8 e he hb;have h0:=(mem_ready.1 hr).1;rw[a9]at X;rcases fQ i A.size with h' | h'
    ·simp[h']at h0 X;rw[h0]at X;cases X
    ·simp[gP h']at X
   have h2:=jfy (v:=v) (Y:=fun a'=>execOp a'.eval oi=execOp a.eval oi/\Region.wanted oi (yielded ops a'.tmps)=Region.wanted oi (yielded ops a.tmps)) a6 (a0 j oj a6 hji O a5) (fun cs b=>hsel i oi cs b hi) (fun cs b=>hsel j oj cs b a6)
    (fun a1 a2 h e1 e2=>⟨e1.trans h.1,e2.trans h.2⟩) ⟨rfl,rfl⟩ X
   have a3:∀ k ok,ops[k]?=some ok->k≠i->(A.setIfInBounds j true).getD k true=false ->
     (∀ e∈ok.after,Region.binds .any e=true->e.on≠i)->oi.apart ops ok=true:=fun k ok hk b0 a4 b1=>by
    refine a0 k ok hk b0 ?_ b1
    by_cases hjk:j=k
    ·subst hjk;exact O
    ·rw[getD_set_ne true hjk]at a4;exact a4
   refine wpOp_mono (fun a' w' h3=>⟨h3.2.1,?_⟩) h2
   obtain⟨⟨e1,e2⟩,h4,h5⟩:=h3
   have b2:jbO P ops E w' oi v a':=by
    rcases Z with Z | K
    ·have a7:j ∉ hd:=fun a7=>by
      obtain⟨e,he,hb,b3⟩:=Z j oj a6 a7 O
      exact a5 e he hb b3
     exact (hy.of_same e1 e2).st hT (hT _ _ _ he (h4 a7))
    ·exact K w' a' e1 e2
   refine ih (A.setIfInBounds j true) a' w' a3 (ready_mono hr (Ne.symm hji)) b2 ?_ ?_
   ·refine Z.imp (fun Z k ok hk b4 a4=>Z k ok hk b4 ?_) (fun K w2 a2 e3 e4=>K w2 a2 (e3.trans e1) (e4.trans e2))
    by_cases hjk:j=k
    ·subst hjk;exact O
    ·rw[getD_set_ne true hjk]at a4;exact a4
   ·rw[gX _ _ hji]
    exact h5
def jbj(l:List Oper)(done:List Nat):Array Bool:=done.foldr (fun k b=>b.setIfInBounds k true) (Array.replicate l.toArray.size false)
def Mix(P:Program)(l:List Oper)(hd:List Nat)(E:vW->vW->Prop)(Q:Act->vW->Prop):List Nat->List Nat->Act->vW->Prop
 | [],done,a,w=>∀ w1,E w w1->Region.ready .any l.toArray (jbj l done)=[]/\Q a w1
 | k :: ord,done,a,w =>
  (k ∉ hd/\k∈Region.ready .any l.toArray (jbj l done)/\Region.free .any l.toArray (jbj l done) k=true/\∃ o v,l[k]?=some o/\jbO P l.toArray E w o v a /\
   (jp6 l.toArray hd (jbj l done) k=true\/∀ w' a',execOp a'.eval o=execOp a.eval o->Region.wanted o (yielded l.toArray a'.tmps)=Region.wanted o (yielded l.toArray a.tmps)->jbO P l.toArray E w' o v a')/\Mix P l hd E Q ord (k :: done) (a.put o.dst v) w) \/
  (Region.ready .any l.toArray (jbj l done)=[k]/\k∈hd/\∀ w1,E w w1->wpOp P l.toArray NoQ k (fun a' w'=>Mix P l hd E Q ord (k :: done) a' w') a w1)
theorem jeF(hE:∀ w,E w w)(hT:∀ x y z,E x y->E y z->E x z)(hs:Region.noSelect l.toArray=true){hd:List Nat}{Q:Act->vW->Prop}:∀ (ord:List Nat) (done:List Nat) (a:Act) (w:vW),
  Mix P l hd E Q ord done a w->anyM P l.toArray hd E Q ord.length (jbj l done) a w
 | [],_,_,_,h=>h
 | k :: ord,done,a,w,h=>by
  rcases h with⟨hk,hr,hf,o,v,ho,hy,hwt,h⟩ |⟨hr,hk,h⟩
  ·have A:l.toArray[k]?=some o:=by simpa using ho
   refine jqg hE hT A (iK hs) hk ord.length (jbj l done) a w (iU A hf) hr hy (hwt.imp (fun Z j oj hj H J=>?_) id) (jeF hE hT hs ord _ _ _ h)
   have:=fH.1 Z j H
   simp only[J,Bool.false_or,hj]at this
   obtain⟨e,K,hb⟩:=Array.any_eq_true'.1 this
   simp only[cY,beq_iff_eq]at hb
   exact⟨e,K,hb.1,hb.2⟩
  ·intro w1 K
   refine⟨fun O=>(by rw[hr]at O;cases O),fun i X=>?_⟩
   rw[hr]at X;obtain rfl:i=k:=by simpa using X
   exact wpOp_mono (fun a' w' h2=>⟨fun hn=>absurd hk hn,jeF hE hT hs ord _ _ _ h2⟩) (h w1 K)
theorem jay(ord hd:List Nat)(E:vW->vW->Prop)(hE:∀ w,E w w)(hT:∀ x y z,E x y->E y z->E x z){id:Nat}{Q:Exit->Act->vW->Prop}{a:Act}{w:vW}
  (hm:P.follows .mixedOrders=true) (hs:Region.noSelect l.toArray=true) (hl:ord.length=l.toArray.size)
  (h:Mix P l hd E (fun a w=>Q .normal a w) ord [] a w.drew):(Code.region id l.toArray true).wp P Q a w:=by
 refine wp_region_any hm ?_;rw[<-hl]
 have:=jeF hE hT hs ord _ _ _ h
 unfold jbj at this;rw[hl]at this ⊢;exact jg2 hE (fun _ _ h=>h) _ _ _ _ this
def jjW:Op->Bool
 | .call c=>match c.callee with | .builtin .len=>true | .builtin .min=>true | .builtin .max=>true | _=>false
 | .move _ | .assign _ | .pick .. | .build .. | .load .. | .binOp .. | .unOp .. | .convert .. | .slice .. | .fieldAddr .. | .field .. | .indexAddr .. | .index .. | .extract .. | .lookup .. | .makeFunc .. | .makeInterface .. | .typeAssert ..=>true
 | _=>false
def jcV(s:Sem Next):Prop:=∀ (P:Program) (w w':vW) (f:FuncId) (args:Array vV),s.run P w≠.ok (.enter f args) w'
theorem jcV.bind{α:Type}{s:Sem α}{k:α->Sem Next}(h:∀ x,jcV (k x)):jcV (s >>= k):=by
 intro P w w' f args;rw[cA];cases s.run P w with
 | ok x w1=>exact h x P w1 w' f args
 | halt x w1=>simp[Result.andThen]
theorem jcV.value(v:vV):jcV (pure (.value v)):=by intro P w w' f args;simp[cO]
theorem jk8{ρ:Operand->vV}{o:Oper}(h:jjW o.op=true):jcV (execOp ρ o):=by
 unfold execOp;cases ho:o.op <;> rw[ho]at h <;> simp only[jjW,cR]at h
 case move=>exact jcV.value _
 case assign=>exact jcV.value _
 case pick=>exact jcV.bind fun _=>jcV.value _
 case call c =>
  obtain⟨e,A,E⟩:=c
  cases e with
  | builtin b =>
   intro P w w' f args;simp only[resolve,cA,cO,Result.andThen,invoke];cases b <;> simp only[cR]at h <;> exact (jcV.bind fun _=>jcV.value _) P w w' f args
  | value f=>simp at h
  | invoke r m=>simp at h
 all_goals exact jcV.bind fun _=>jcV.value _
variable {Q:Act->vW->Prop} {ord done hd:List Nat} {a:Act} {w:vW} {k:Nat} {o:Oper}
def jhF(l:List Oper)(hd done:List Nat)(k:Nat):Bool := !hd.contains k && (Region.ready .any l.toArray (jbj l done)).contains k && Region.free .any l.toArray (jbj l done) k
def jkc(l:List Oper)(hd done:List Nat)(k:Nat):Bool:=jhF l hd done k && jp6 l.toArray hd (jbj l done) k
def jnx(l:List Oper)(hd done:List Nat)(k:Nat):Bool:=Region.ready .any l.toArray (jbj l done) == [k] && hd.contains k
theorem jvB(o:Oper)(ho:l[k]?=some o)(hk:jhF l hd done k=true)(hw:Region.wanted o (yielded l.toArray a.tmps)=true)(hq:jjW o.op=true)
  (h:∀ K:Act->Prop,(∀ e,Mix P l hd E Q ord (k :: done) e w->K e)->o.quiet P a (fun _=>True) K):Mix P l hd E Q (k :: ord) done a w:=by
 simp only[jhF,cY,dC,iF,joN]at hk
 obtain⟨v,J,O⟩:=h _ (fun _ h=>h)
 have A:∀ w' e,execOp e.eval o=execOp a.eval o->Region.wanted o (yielded l.toArray e.tmps)=Region.wanted o (yielded l.toArray a.tmps)->jbO P l.toArray E w' o v e:=by
  refine fun w' e X Z=>.inl ⟨Z.trans hw,fun w1 _=>?_⟩;rw[X];have H:=J w1 trivial;unfold Oper.quietAt at H;have h4:=fun f args w'=>jk8 (ρ:=a.eval) hq P w1 w' f args;generalize (execOp a.eval o).run P w1=r at *;cases r with
  | ok n w'=>cases n <;> simp only[Oper.quietUpon]at H <;> first | exact H | exact absurd rfl (h4 _ _ _)
  | halt x w'=>simp only[Oper.quietUpon]at H
 exact .inl ⟨hk.1.1,hk.1.2,hk.2,o,v,ho,A w a rfl rfl,.inr A,O⟩
theorem jsU(o:Oper)(v:vV)(ho:l[k]?=some o)(hk:jkc l hd done k=true)(hw:Region.wanted o (yielded l.toArray a.tmps)=true)
  (hv:∀ w1,E w w1->(execOp a.eval o).run P w1=.ok (.value v) w1) (h:Mix P l hd E Q ord (k :: done) (a.put o.dst v) w):Mix P l hd E Q (k :: ord) done a w:=by
 simp only[jkc,jhF,cY,dC,iF,joN]at hk;exact .inl ⟨hk.1.1.1,hk.1.1.2,hk.1.2,o,v,ho,.inl ⟨hw,fun w1 e=>by rw[hv w1 e];exact⟨rfl,rfl⟩⟩,.inl hk.2,h⟩
theorem jvA(p:Addr)(v:vV){t:TypeId}{x:Operand}{d:Option Tmp}{ty:TypeId}{pos:String}{af:Array Edge}{g:Option (Nat × Bool)}(ho:l[k]?=some ⟨d,.load t x,ty,pos,af,g⟩)(hk:jkc l hd done k=true)
  (hw:Region.wanted ⟨d,.load t x,ty,pos,af,g⟩ (yielded l.toArray a.tmps)=true) (hx:a.eval x=.pointer (some p))
  (hv:∀ w1,E w w1->(Instr.loadAt t (.pointer (some p))).run P w1=.ok v w1) (h:Mix P l hd E Q ord (k :: done) (a.put d v) w):Mix P l hd E Q (k :: ord) done a w:=by
 refine jsU _ v ho hk hw (fun w1 e=>?_) h
 have:=hv w1 e
 simp only[execOp,hx,cA,this,Result.andThen,cO]
theorem qL{t:TypeId}{x:Operand}{d:Option Tmp}{ty:TypeId}{pos:String}{af:Array Edge}{g:Option (Nat × Bool)}(p:Addr)(v:vV)(ho:l[k]?=some ⟨d,.load t x,ty,pos,af,g⟩)(hv:∀ w1,E w w1->(Instr.loadAt t (.pointer (some p))).run P w1=.ok v w1)(h:Mix P l hd E Q ord (k :: done) (a.put d v) w)(hk:jkc l hd done k=true:=by kernel_rfl)(hw:Region.wanted ⟨d,.load t x,ty,pos,af,g⟩ (yielded l.toArray a.tmps)=true:=by rfl)(hx:a.eval x=.pointer (some p):=by rfl):Mix P l hd E Q (k :: ord) done a w:=jvA p v ho hk hw hx hv h
theorem jdb(o:Oper)(f:FuncId)(args:Array vV)(v:vV)(ho:l[k]?=some o)(hk:jkc l hd done k=true)(hw:Region.wanted o (yielded l.toArray a.tmps)=true)
  (hv:∀ w1,(execOp a.eval o).run P w1=.ok (.enter f args) w1) (hc:∀ w1,E w w1->Calls P f args w1 (fun e H=>e=.returned v/\E w1 H))
  (h:Mix P l hd E Q ord (k :: done) (a.put o.dst v) w):Mix P l hd E Q (k :: ord) done a w:=by
 simp only[jkc,jhF,cY,dC,iF,joN]at hk;exact .inl ⟨hk.1.1.1,hk.1.1.2,hk.1.2,o,v,ho,.inl ⟨hw,fun w1 A=>by rw[hv w1];exact⟨rfl,hc w1 A⟩⟩,.inl hk.2,h⟩
theorem jvz(o:Oper)(ho:l[k]?=some o)(hk:jnx l hd done k=true)(hw:Region.wanted o (yielded l.toArray a.tmps)=true)
  (h:∀ w1,E w w1->∀ K:Act->vW->Prop,(∀ a' w',Mix P l hd E Q ord (k :: done) a' w'->K a' w')->o.wp P a w1 K NoQ):Mix P l hd E Q (k :: ord) done a w:=by
 simp only[jnx,cY,beq_iff_eq,dC]at hk;refine .inr ⟨hk.1,hk.2,fun w1 A=>?_⟩;unfold wpOp;have e:l.toArray[k]?=some o:=by simpa using ho
 simp only[e,hw,if_true];exact .inl (h w1 A _ (fun _ _ H=>H))
theorem qH(o:Oper)(ho:l[k]?=some o)(h:∀ w1,E w w1->∀ K:Act->vW->Prop,(∀ a' w',Mix P l hd E Q ord (k :: done) a' w'->K a' w')->o.wp P a w1 K NoQ)(hk:jnx l hd done k=true:=by kernel_rfl)(hw:Region.wanted o (yielded l.toArray a.tmps)=true:=by rfl):Mix P l hd E Q (k :: ord) done a w:=jvz o ho hk hw h
theorem jx1(hk:(Region.ready .any l.toArray (jbj l done)).isEmpty=true)(h:∀ w1,E w w1->Q a w1):Mix P l hd E Q [] done a w:=
 fun w1 e=>⟨by simpa using hk,h w1 e⟩
theorem qE(h:∀ w1,E w w1->Q a w1)(hk:(Region.ready .any l.toArray (jbj l done)).isEmpty=true:=by kernel_rfl):Mix P l hd E Q [] done a w:=jx1 hk h
theorem jcd{K:Act->vW->Prop}{Q:Exit->Act->vW->Prop}{v:vV}{w':vW}(hr:(execOp a.eval o).run P w=.ok (.value v) w')(h:K (a.put o.dst v) w'):o.wp P a w K Q:=by
 unfold Oper.wp;rw[hr];exact h
end mix
end
