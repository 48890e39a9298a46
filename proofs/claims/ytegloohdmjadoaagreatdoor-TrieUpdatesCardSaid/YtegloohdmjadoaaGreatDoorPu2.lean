/- Lemmas; each is under no condition but those that it states. -/
import Derived.Test.YtegloohdmjadoaaGreatDoorPu0
import Derived.BigQuiet
import Derived.Lib.Hide
namespace Go.Proofs.YtegloohdmjadoaaGreatDoor
set_option linter.unusedSimpArgs false
set_option linter.unusedVariables false
set_option maxRecDepth 100000
set_option maxHeartbeats 16000000
theorem vP{G G':Prop}(k:G')(h:G'->G:=by (intro k;refine juU _ rfl vY rfl rfl (fun K e=>?_);go_big_quiet_op;refine e _ ?_;clear e K;exact k)):G:=h k
theorem vK{G G':Prop}(k:G')(h:G'->G:=by (intro k;refine jso _ rfl vY rfl rfl (fun K e=>?_);go_big_quiet_op;refine e _ ?_;clear e K;exact k)):G:=h k
theorem vD{G G':Prop}(k:G')(h:G'->G:=by (intro k;refine jsl _ rfl vY rfl rfl (fun K e=>?_);go_big_quiet_op;refine e _ ?_;clear e K;exact k)):G:=h k
theorem vZ{G G':Prop}(k:G')(h:G'->G:=by (intro k;refine jsr _ rfl vY rfl rfl (fun K e=>?_);go_big_quiet_op;refine e _ ?_;clear e K;exact k)):G:=h k
theorem vS{G G':Prop}(k:G')(h:G'->G:=by (intro k;simp only[Act.put,sA,sB,sC];exact k)):G:=h k
open Go Go.RowKit
section
theorem jn6{k:Nat}{l:List Nat}:l.contains k=false↔k ∉ l:=by simp
section mix
variable {P:Program} {l:List Oper} {E:vW->vW->Prop}
abbrev NoQ:Exit->Act->vW->Prop:=fun _ _ _=>False
def jnB(P:Program)(E:vW->vW->Prop)(w:vW)(v:vV):Result Next->Prop
 | .ok (.value u) w'=>w'=w/\u=v
 | .ok .skip w'=>w'=w/\v=undef
 | .ok (.enter f args) w'=>w'=w/\Calls P f args w (fun e w''=>e=.returned v/\E w w'')
 | _=>False
def jbN(P:Program)(ops:Array Oper)(E:vW->vW->Prop)(w:vW)(o:Oper)(v:vV)(a:Act):Prop:=
 (Region.wanted o (yielded ops a.tmps)=true/\∀ w1,E w w1->jnB P E w1 v ((execOp a.eval o).run P w1))\/(Region.wanted o (yielded ops a.tmps)=false/\v=undef)
theorem jbN.of_same{ops:Array Oper}{w:vW}{o:Oper}{v:vV}{a a':Act}(hy:jbN P ops E w o v a)(he:execOp a'.eval o=execOp a.eval o)
  (hw:Region.wanted o (yielded ops a'.tmps)=Region.wanted o (yielded ops a.tmps)):jbN P ops E w o v a':=by
 unfold jbN at *;rw[he,hw];exact hy
theorem jbN.st(hT:∀ x y z,E x y->E y z->E x z){ops:Array Oper}{w w1:vW}{o:Oper}{v:vV}{a:Act}(hy:jbN P ops E w o v a)(h:E w w1):jbN P ops E w1 o v a:=
 hy.imp (fun ⟨e,m⟩=>⟨e,fun A H=>m A (hT _ _ _ h H)⟩) id
def anyM(P:Program)(ops:Array Oper)(hd:List Nat)(E:vW->vW->Prop)(Q:Act->vW->Prop):Nat->Array Bool->Act->vW->Prop
 | 0,listed,a,w=>∀ w1,E w w1->Region.ready .any ops listed=[]/\Q a w1
 | fuel+1,listed,a,w=>∀ w1,E w w1 ->
  (Region.ready .any ops listed=[]->Q a w1) /\
  ∀ i∈Region.ready .any ops listed,wpOp P ops NoQ i (fun a' w'=>(i ∉ hd->E w1 w')/\anyM P ops hd E Q fuel (listed.setIfInBounds i true) a' w') a w1
theorem jqX(hT:∀ x y z,E x y->E y z->E x z){ops:Array Oper}{hd:List Nat}{Q:Act->vW->Prop}:∀ (fuel:Nat) (listed:Array Bool) (a:Act) (w w1:vW),anyM P ops hd E Q fuel listed a w->E w w1->anyM P ops hd E Q fuel listed a w1
 | 0,_,_,_,_,h,he=>fun e m=>h e (hT _ _ _ he m)
 | _+1,_,_,_,_,h,he=>fun e m=>h e (hT _ _ _ he m)
theorem jh5{ops:Array Oper}{Q:Exit->Act->vW->Prop}{i:Nat}{K K':Act->vW->Prop}{a:Act}{w:vW}(hK:∀ a w,K a w->K' a w)(h:wpOp P ops NoQ i K a w):wpOp P ops Q i K' a w:=by
 unfold wpOp at *;split
 ·rename_i ho;simp only[ho]at h;exact hK _ _ h
 ·rename_i o ho
  simp only[ho]at h;split
  ·rename_i hw
   simp only[hw,if_true]at h;rcases h with h |⟨_,_,_,h⟩
   ·refine .inl ?_
    unfold Oper.wp at *;generalize (execOp a.eval o).run P w=r at *;cases r with
    | ok n w' =>
     cases n <;> simp only[Oper.upon]at h ⊢ <;>
      first
       | exact hK _ _ h
       | exact Calls.mono h (fun e A m=>by
         cases e with
         | returned v=>exact hK _ _ m
         | panicked c=>exact (m:False).elim
         | outgrown=>obtain⟨_,_,E⟩:=m;exact (E:False).elim)
       | exact Rows.mono h (fun _ _ m=>hK _ _ m)
    | halt x w'=>cases x <;> simp only[Oper.upon]at h ⊢ <;> exact (h:False).elim
   ·exact h.elim
  ·rename_i hw;simp only[hw]at h;exact hK _ _ h
theorem jgP(hE:∀ w,E w w){ops:Array Oper}{hd:List Nat}{Q:Act->vW->Prop}{Q':Exit->Act->vW->Prop}(hQ:∀ a w,Q a w->Q' .normal a w) :
  ∀ (fuel:Nat) (listed:Array Bool) (a:Act) (w:vW),anyM P ops hd E Q fuel listed a w->wpAny P .any ops Q' fuel listed a w
 | 0,_,_,w,h=>let ⟨h1,h2⟩:=h w (hE w);⟨h1,hQ _ _ h2⟩
 | fuel+1,_,_,w,h=>let ⟨h1,h2⟩:=h w (hE w)
  ⟨fun e=>hQ _ _ (h1 e),fun i m=>jh5 (fun o w' ⟨_,A⟩=>jgP hE hQ fuel _ o w' A) (h2 i m)⟩
theorem jbN.wpOp{ops:Array Oper}{i:Nat}{o:Oper}{v:vV}{a:Act}{w:vW}(hi:ops[i]?=some o)(hy:jbN P ops E w o v a){K:Act->vW->Prop}{w1:vW}(H:E w w1)(hE:∀ w,E w w)
  (h:∀ w',E w1 w'->K (a.put o.dst v) w'):wpOp P ops NoQ i K a w1:=by
 unfold Go.wpOp;simp only[hi];rcases hy with⟨hw,hv⟩ |⟨hw,rfl⟩
 ·simp only[hw,if_true]
  refine .inl ?_;have m:=hv w1 H;unfold Oper.wp;generalize (execOp a.eval o).run P w1=r at *;cases r with
  | ok n w' =>
   cases n <;> simp only[jnB]at m <;> simp only[Oper.upon]
   case value u=>obtain⟨A,J⟩:=m;rw[A,J];exact h _ (hE w1)
   case skip=>obtain⟨A,J⟩:=m;rw[A, <-J];exact h _ (hE w1)
   case enter f args =>
    obtain⟨A,O⟩:=m;rw[A]
    exact O.mono fun e Q ⟨X,H⟩=>by subst X;exact h _ H
  | halt x w'=>simp only[jnB]at m
 ·simp only[hw,cI,if_false];exact h _ (hE w1)
theorem jfr{ops:Array Oper}{j:Nat}{oi oj:Oper}{v:vV}(hj:ops[j]?=some oj)(hap:oi.apart ops oj=true)
  (hsi:∀ cs b,oi.op≠.select cs b) (hsj:∀ cs b,oj.op≠.select cs b) {K:Act->vW->Prop} {Y:Act->Prop} {a:Act} {w:vW}
  (hY:∀ a E,Y a->execOp E.eval oi=execOp a.eval oi->Region.wanted oi (yielded ops E.tmps)=Region.wanted oi (yielded ops a.tmps)->Y E)
  (o:Y a) (h:wpOp P ops NoQ j K (a.put oi.dst v) w) :
  wpOp P ops NoQ j (fun E w'=>Y E/\K (E.put oi.dst v) w') a w:=by
 obtain⟨Q,H,X⟩:=Oper.apart_spec hap
 have m:∀ (a:Act),Y a->∀ u,Y (a.put oj.dst u):=fun a o u =>
  hY _ _ o (execOp_put oi hsi a oj.dst u X) (wanted_put oi a oj.dst u X)
 have A:∀ d,Y { a with defers:=d :: a.defers }:=fun d=>hY _ _ o rfl rfl;unfold wpOp at *;simp only[hj]at *;rw[wanted_put oj a oi.dst v Q]at h;split
 ·rename_i hw
  simp only[hw,if_true]at h;rcases h with h |⟨_,_,_,hf⟩
  case inr=>exact hf.elim
  refine .inl ?_;unfold Oper.wp at *;rw[execOp_put oj hsj a oi.dst v Q]at h;generalize (execOp a.eval oj).run P w=r at *;cases r with
  | ok n w' =>
   cases n <;> simp only[Oper.upon]at h ⊢
   case value u=>exact⟨m a o u,by rw[<-iW a v u H];exact h⟩
   case skip=>exact⟨m a o _,by rw[<-iW a v undef H];exact h⟩
   case defer d =>
    refine⟨m _ (A d) _,?_⟩
    rw[<-iW _ v undef H, <-Act.put_defers];exact h
   case enter f args =>
    refine Calls.mono h fun e O J=>?_;cases e with
    | returned u=>exact⟨m a o u,by rw[<-iW a v u H];exact J⟩
    | panicked c=>exact J
    | outgrown=>exact J
   case row row args=>exact Rows.mono h fun u O J=>⟨m a o u,by rw[<-iW a v u H];exact J⟩
  | halt x w' =>
   cases x <;> simp only[Oper.upon]at h ⊢ <;> exact h
 ·rename_i hw
  simp only[hw]at h
  exact⟨m a o _,by rw[<-iW a v undef H];exact h⟩
def jpp(ops:Array Oper)(hd:List Nat)(listed:Array Bool)(i:Nat):Bool:=
 hd.all fun j=>listed.getD j true || match ops[j]? with | some oj=>oj.after.any (fun e=>Region.binds .any e && e.on == i) | none=>true
theorem jpy(hE:∀ w,E w w)(hT:∀ x y z,E x y->E y z->E x z){ops:Array Oper}{hd:List Nat}{Q:Act->vW->Prop}{i:Nat}{oi:Oper}{v:vV}(hi:ops[i]?=some oi)(hsel:∀ (j:Nat) (o:Oper) cs b,ops[j]?=some o->o.op≠.select cs b)(hih:i ∉ hd) :
  ∀ (A:Nat) (m:Array Bool) (a:Act) (w:vW),
   (∀ j oj,ops[j]?=some oj->j≠i->m.getD j true=false->(∀ e∈oj.after,Region.binds .any e=true->e.on≠i)->oi.apart ops oj=true) ->
   i∈Region.ready .any ops m->jbN P ops E w oi v a ->
   ((∀ j oj,ops[j]?=some oj->j∈hd->m.getD j true=false->∃ e∈oj.after,Region.binds .any e=true/\e.on=i)\/∀ w' a',execOp a'.eval oi=execOp a.eval oi->Region.wanted oi (yielded ops a'.tmps)=Region.wanted oi (yielded ops a.tmps)->jbN P ops E w' oi v a') ->
   anyM P ops hd E Q A (m.setIfInBounds i true) (a.put oi.dst v) w->anyM P ops hd E Q (A+1) m a w:=by
 intro A;induction A with
 | zero =>
  intro m a w _ hr hy _ H w1 he
  refine⟨fun h=>(by rw[h]at hr;cases hr),fun j hj=>?_⟩
  by_cases hji:j=i
  ·subst hji;exact hy.wpOp hi he hE (fun w' O=>⟨fun _=>O,jqX hT _ _ _ _ _ H (hT _ _ _ he O)⟩)
  ·have:=ready_mono hj hji
   rw[(H w1 he).1]at this;cases this
 | succ A ih =>
  intro m a w a0 hr hy X H w1 he
  refine⟨fun h=>(by rw[h]at hr;cases hr),fun j hj=>?_⟩
  by_cases hji:j=i
  ·subst hji;exact hy.wpOp hi he hE (fun w' O=>⟨fun _=>O,jqX hT _ _ _ _ _ H (hT _ _ _ he O)⟩)
  ·have O:=(H w1 he).2 j (ready_mono hj hji)
   obtain⟨K,oj,a5,a7⟩:=mem_ready.1 hj
   have Z:∀ b,m.getD i b=false\/True:=fun _=>.inr trivial;have a4:∀ e∈oj.after,Region.binds .any e=true->e.on≠i:=fun e he hb a8=>by
    have O:=a7 e he hb;have h0:=(mem_ready.1 hr).1;rw[a8]at O;rcases fH i m.size with h' | h'
    ·simp[h']at h0 O;rw[h0]at O;cases O
    ·simp[gH h']at O
   have h2:=jfr (v:=v) (Y:=fun a'=>execOp a'.eval oi=execOp a.eval oi/\Region.wanted oi (yielded ops a'.tmps)=Region.wanted oi (yielded ops a.tmps)) a5 (a0 j oj a5 hji K a4) (fun cs b=>hsel i oi cs b hi) (fun cs b=>hsel j oj cs b a5)
    (fun a1 a2 h e1 e2=>⟨e1.trans h.1,e2.trans h.2⟩) ⟨rfl,rfl⟩ O
   have a3:∀ k ok,ops[k]?=some ok->k≠i->(m.setIfInBounds j true).getD k true=false ->
     (∀ e∈ok.after,Region.binds .any e=true->e.on≠i)->oi.apart ops ok=true:=fun k ok hk a9 Z b0=>by
    refine a0 k ok hk a9 ?_ b0
    by_cases hjk:j=k
    ·subst hjk;exact K
    ·rw[getD_set_ne true hjk]at Z;exact Z
   refine wpOp_mono (fun a' w' h3=>⟨h3.2.1,?_⟩) h2
   obtain⟨⟨e1,e2⟩,h4,h5⟩:=h3
   have b1:jbN P ops E w' oi v a':=by
    rcases X with X | J
    ·have a6:j ∉ hd:=fun a6=>by
      obtain⟨e,he,hb,b2⟩:=X j oj a5 a6 K
      exact a4 e he hb b2
     exact (hy.of_same e1 e2).st hT (hT _ _ _ he (h4 a6))
    ·exact J w' a' e1 e2
   refine ih (m.setIfInBounds j true) a' w' a3 (ready_mono hr (Ne.symm hji)) b1 ?_ ?_
   ·refine X.imp (fun X k ok hk b3 Z=>X k ok hk b3 ?_) (fun J w2 a2 e3 e4=>J w2 a2 (e3.trans e1) (e4.trans e2))
    by_cases hjk:j=k
    ·subst hjk;exact K
    ·rw[getD_set_ne true hjk]at Z;exact Z
   ·rw[gQ _ _ hji]
    exact h5
def jbc(l:List Oper)(done:List Nat):Array Bool:=done.foldr (fun k b=>b.setIfInBounds k true) (Array.replicate l.toArray.size false)
def Mix(P:Program)(l:List Oper)(hd:List Nat)(E:vW->vW->Prop)(Q:Act->vW->Prop):List Nat->List Nat->Act->vW->Prop
 | [],done,a,w=>∀ w1,E w w1->Region.ready .any l.toArray (jbc l done)=[]/\Q a w1
 | k :: ord,done,a,w =>
  (k ∉ hd/\k∈Region.ready .any l.toArray (jbc l done)/\Region.free .any l.toArray (jbc l done) k=true/\∃ o v,l[k]?=some o/\jbN P l.toArray E w o v a /\
   (jpp l.toArray hd (jbc l done) k=true\/∀ w' a',execOp a'.eval o=execOp a.eval o->Region.wanted o (yielded l.toArray a'.tmps)=Region.wanted o (yielded l.toArray a.tmps)->jbN P l.toArray E w' o v a')/\Mix P l hd E Q ord (k :: done) (a.put o.dst v) w) \/
  (Region.ready .any l.toArray (jbc l done)=[k]/\k∈hd/\∀ w1,E w w1->wpOp P l.toArray NoQ k (fun a' w'=>Mix P l hd E Q ord (k :: done) a' w') a w1)
theorem jeB(hE:∀ w,E w w)(hT:∀ x y z,E x y->E y z->E x z)(hs:Region.noSelect l.toArray=true){hd:List Nat}{Q:Act->vW->Prop}:∀ (ord:List Nat) (done:List Nat) (a:Act) (w:vW),
  Mix P l hd E Q ord done a w->anyM P l.toArray hd E Q ord.length (jbc l done) a w
 | [],_,_,_,h=>h
 | k :: ord,done,a,w,h=>by
  rcases h with⟨hk,hr,hf,o,v,ho,hy,hwt,h⟩ |⟨hr,hk,h⟩
  ·have m:l.toArray[k]?=some o:=by simpa using ho
   refine jpy hE hT m (gJ hs) hk ord.length (jbc l done) a w (gZ m hf) hr hy (hwt.imp (fun X j oj Z A H=>?_) id) (jeB hE hT hs ord _ _ _ h)
   have:=fG.1 X j A
   simp only[H,Bool.false_or,Z]at this
   obtain⟨e,J,hb⟩:=Array.any_eq_true'.1 this
   simp only[cJ,beq_iff_eq]at hb
   exact⟨e,J,hb.1,hb.2⟩
  ·intro w1 J
   refine⟨fun K=>(by rw[hr]at K;cases K),fun i O=>?_⟩
   rw[hr]at O;obtain rfl:i=k:=by simpa using O
   exact wpOp_mono (fun a' w' h2=>⟨fun hn=>absurd hk hn,jeB hE hT hs ord _ _ _ h2⟩) (h w1 J)
theorem jay(ord hd:List Nat)(E:vW->vW->Prop)(hE:∀ w,E w w)(hT:∀ x y z,E x y->E y z->E x z){id:Nat}{Q:Exit->Act->vW->Prop}{a:Act}{w:vW}
  (hm:P.follows .mixedOrders=true) (hs:Region.noSelect l.toArray=true) (hl:ord.length=l.toArray.size)
  (h:Mix P l hd E (fun a w=>Q .normal a w) ord [] a w.drew):(Code.region id l.toArray true).wp P Q a w:=by
 refine wp_region_any hm ?_;rw[<-hl]
 have:=jeB hE hT hs ord _ _ _ h
 unfold jbc at this;rw[hl]at this ⊢;exact jgP hE (fun _ _ h=>h) _ _ _ _ this
def jiH:Op->Bool
 | .call c=>match c.callee with | .builtin .len=>true | .builtin .min=>true | .builtin .max=>true | _=>false
 | .move _ | .assign _ | .pick .. | .build .. | .load .. | .binOp .. | .unOp .. | .convert .. | .slice .. | .fieldAddr .. | .field .. | .indexAddr .. | .index .. | .extract .. | .lookup .. | .makeFunc .. | .makeInterface .. | .typeAssert ..=>true
 | _=>false
def jcV(s:Sem Next):Prop:=∀ (P:Program) (w w':vW) (f:FuncId) (args:Array vV),s.run P w≠.ok (.enter f args) w'
theorem jcV.bind{α:Type}{s:Sem α}{k:α->Sem Next}(h:∀ x,jcV (k x)):jcV (s >>= k):=by
 intro P w w' f args;rw[cA];cases s.run P w with
 | ok x w1=>exact h x P w1 w' f args
 | halt x w1=>simp[Result.andThen]
theorem jcV.value(v:vV):jcV (pure (.value v)):=by intro P w w' f args;simp[cR]
theorem jiW{ρ:Operand->vV}{o:Oper}(h:jiH o.op=true):jcV (execOp ρ o):=by
 unfold execOp;cases ho:o.op <;> rw[ho]at h <;> simp only[jiH,cI]at h
 case move=>exact jcV.value _
 case assign=>exact jcV.value _
 case pick=>exact jcV.bind fun _=>jcV.value _
 case call c =>
  obtain⟨e,A,E⟩:=c
  cases e with
  | builtin b =>
   intro P w w' f args;simp only[resolve,cA,cR,Result.andThen,invoke];cases b <;> simp only[cI]at h <;> exact (jcV.bind fun _=>jcV.value _) P w w' f args
  | value f=>simp at h
  | invoke r m=>simp at h
 all_goals exact jcV.bind fun _=>jcV.value _
variable {Q:Act->vW->Prop} {ord done hd:List Nat} {a:Act} {w:vW} {k:Nat} {o:Oper}
def jhz(l:List Oper)(hd done:List Nat)(k:Nat):Bool := !hd.contains k && (Region.ready .any l.toArray (jbc l done)).contains k && Region.free .any l.toArray (jbc l done) k
def jjU(l:List Oper)(hd done:List Nat)(k:Nat):Bool:=jhz l hd done k && jpp l.toArray hd (jbc l done) k
def jmT(l:List Oper)(hd done:List Nat)(k:Nat):Bool:=Region.ready .any l.toArray (jbc l done) == [k] && hd.contains k
theorem juU(o:Oper)(ho:l[k]?=some o)(hk:jhz l hd done k=true)(hw:Region.wanted o (yielded l.toArray a.tmps)=true)(hq:jiH o.op=true)
  (h:∀ K:Act->Prop,(∀ e,Mix P l hd E Q ord (k :: done) e w->K e)->o.quiet P a (fun _=>True) K):Mix P l hd E Q (k :: ord) done a w:=by
 simp only[jhz,cJ,cO,gX,jn6]at hk
 obtain⟨v,H,J⟩:=h _ (fun _ h=>h)
 have m:∀ w' e,execOp e.eval o=execOp a.eval o->Region.wanted o (yielded l.toArray e.tmps)=Region.wanted o (yielded l.toArray a.tmps)->jbN P l.toArray E w' o v e:=by
  refine fun w' e O X=>.inl ⟨X.trans hw,fun w1 _=>?_⟩;rw[O];have A:=H w1 trivial;unfold Oper.quietAt at A;have Z:=fun f args w'=>jiW (ρ:=a.eval) hq P w1 w' f args;generalize (execOp a.eval o).run P w1=r at *;cases r with
  | ok n w'=>cases n <;> simp only[Oper.quietUpon]at A <;> first | exact A | exact absurd rfl (Z _ _ _)
  | halt x w'=>simp only[Oper.quietUpon]at A
 exact .inl ⟨hk.1.1,hk.1.2,hk.2,o,v,ho,m w a rfl rfl,.inr m,J⟩
theorem jsi(o:Oper)(v:vV)(ho:l[k]?=some o)(hk:jjU l hd done k=true)(hw:Region.wanted o (yielded l.toArray a.tmps)=true)
  (hv:∀ w1,E w w1->(execOp a.eval o).run P w1=.ok (.value v) w1) (h:Mix P l hd E Q ord (k :: done) (a.put o.dst v) w):Mix P l hd E Q (k :: ord) done a w:=by
 simp only[jjU,jhz,cJ,cO,gX,jn6]at hk;exact .inl ⟨hk.1.1.1,hk.1.1.2,hk.1.2,o,v,ho,.inl ⟨hw,fun w1 e=>by rw[hv w1 e];exact⟨rfl,rfl⟩⟩,.inl hk.2,h⟩
theorem juT(p:Addr)(v:vV){t:TypeId}{x:Operand}{d:Option Tmp}{ty:TypeId}{pos:String}{af:Array Edge}{g:Option (Nat × Bool)}(ho:l[k]?=some ⟨d,.load t x,ty,pos,af,g⟩)(hk:jjU l hd done k=true)
  (hw:Region.wanted ⟨d,.load t x,ty,pos,af,g⟩ (yielded l.toArray a.tmps)=true) (hx:a.eval x=.pointer (some p))
  (hv:∀ w1,E w w1->(Instr.loadAt t (.pointer (some p))).run P w1=.ok v w1) (h:Mix P l hd E Q ord (k :: done) (a.put d v) w):Mix P l hd E Q (k :: ord) done a w:=by
 refine jsi _ v ho hk hw (fun w1 e=>?_) h
 have:=hv w1 e
 simp only[execOp,hx,cA,this,Result.andThen,cR]
theorem qL{t:TypeId}{x:Operand}{d:Option Tmp}{ty:TypeId}{pos:String}{af:Array Edge}{g:Option (Nat × Bool)}(p:Addr)(v:vV)(ho:l[k]?=some ⟨d,.load t x,ty,pos,af,g⟩)(hv:∀ w1,E w w1->(Instr.loadAt t (.pointer (some p))).run P w1=.ok v w1)(h:Mix P l hd E Q ord (k :: done) (a.put d v) w)(hk:jjU l hd done k=true:=by kernel_rfl)(hw:Region.wanted ⟨d,.load t x,ty,pos,af,g⟩ (yielded l.toArray a.tmps)=true:=by rfl)(hx:a.eval x=.pointer (some p):=by rfl):Mix P l hd E Q (k :: ord) done a w:=juT p v ho hk hw hx hv h
theorem jdb(o:Oper)(f:FuncId)(args:Array vV)(v:vV)(ho:l[k]?=some o)(hk:jjU l hd done k=true)(hw:Region.wanted o (yielded l.toArray a.tmps)=true)
  (hv:∀ w1,(execOp a.eval o).run P w1=.ok (.enter f args) w1) (hc:∀ w1,E w w1->Calls P f args w1 (fun e A=>e=.returned v/\E w1 A))
  (h:Mix P l hd E Q ord (k :: done) (a.put o.dst v) w):Mix P l hd E Q (k :: ord) done a w:=by
 simp only[jjU,jhz,cJ,cO,gX,jn6]at hk;exact .inl ⟨hk.1.1.1,hk.1.1.2,hk.1.2,o,v,ho,.inl ⟨hw,fun w1 m=>by rw[hv w1];exact⟨rfl,hc w1 m⟩⟩,.inl hk.2,h⟩
theorem juS(o:Oper)(ho:l[k]?=some o)(hk:jmT l hd done k=true)(hw:Region.wanted o (yielded l.toArray a.tmps)=true)
  (h:∀ w1,E w w1->∀ K:Act->vW->Prop,(∀ a' w',Mix P l hd E Q ord (k :: done) a' w'->K a' w')->o.wp P a w1 K NoQ):Mix P l hd E Q (k :: ord) done a w:=by
 simp only[jmT,cJ,beq_iff_eq,cO]at hk;refine .inr ⟨hk.1,hk.2,fun w1 m=>?_⟩;unfold wpOp;have e:l.toArray[k]?=some o:=by simpa using ho
 simp only[e,hw,if_true];exact .inl (h w1 m _ (fun _ _ A=>A))
theorem qH(o:Oper)(ho:l[k]?=some o)(h:∀ w1,E w w1->∀ K:Act->vW->Prop,(∀ a' w',Mix P l hd E Q ord (k :: done) a' w'->K a' w')->o.wp P a w1 K NoQ)(hk:jmT l hd done k=true:=by kernel_rfl)(hw:Region.wanted o (yielded l.toArray a.tmps)=true:=by rfl):Mix P l hd E Q (k :: ord) done a w:=juS o ho hk hw h
theorem jxn(hk:(Region.ready .any l.toArray (jbc l done)).isEmpty=true)(h:∀ w1,E w w1->Q a w1):Mix P l hd E Q [] done a w:=
 fun w1 e=>⟨by simpa using hk,h w1 e⟩
theorem qE(h:∀ w1,E w w1->Q a w1)(hk:(Region.ready .any l.toArray (jbc l done)).isEmpty=true:=by kernel_rfl):Mix P l hd E Q [] done a w:=jxn hk h
theorem jcu{K:Act->vW->Prop}{Q:Exit->Act->vW->Prop}{v:vV}{w':vW}(hr:(execOp a.eval o).run P w=.ok (.value v) w')(h:K (a.put o.dst v) w'):o.wp P a w K Q:=by
 unfold Oper.wp;rw[hr];exact h
end mix
end
end Go.Proofs.YtegloohdmjadoaaGreatDoor
