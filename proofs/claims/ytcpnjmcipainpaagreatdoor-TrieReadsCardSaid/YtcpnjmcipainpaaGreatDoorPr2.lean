/- Lemmas; each is under no condition but those that it states. -/
import Derived.Test.YtcpnjmcipainpaaGreatDoorPr0
import Derived.BigQuiet
import Derived.Lib.Hide
namespace Go.Proofs.YtcpnjmcipainpaaGreatDoor
set_option linter.unusedSimpArgs false
set_option linter.unusedVariables false
set_option maxRecDepth 100000
set_option maxHeartbeats 16000000
theorem vP{G G':Prop}(k:G')(h:G'->G:=by (intro k;refine jti _ rfl vY rfl rfl (fun K hK=>?_);go_big_quiet_op;refine hK _ ?_;clear hK K;exact k)):G:=h k
theorem vK{G G':Prop}(k:G')(h:G'->G:=by (intro k;refine jqP _ rfl vY rfl rfl (fun K hK=>?_);go_big_quiet_op;refine hK _ ?_;clear hK K;exact k)):G:=h k
theorem vD{G G':Prop}(k:G')(h:G'->G:=by (intro k;refine jqM _ rfl vY rfl rfl (fun K hK=>?_);go_big_quiet_op;refine hK _ ?_;clear hK K;exact k)):G:=h k
theorem vZ{G G':Prop}(k:G')(h:G'->G:=by (intro k;refine jqR _ rfl vY rfl rfl (fun K hK=>?_);go_big_quiet_op;refine hK _ ?_;clear hK K;exact k)):G:=h k
theorem vS{G G':Prop}(k:G')(h:G'->G:=by (intro k;simp only[Act.put,sA,sB,sC];exact k)):G:=h k
open Go Go.RowKit
section
theorem jmZ{k:Nat}{l:List Nat}:l.contains k=false↔k ∉ l:=by simp
section mix
variable {P:Program} {l:List Oper} {E:World->World->Prop}
abbrev NoQ:Exit->Act->World->Prop:=fun _ _ _=>False
def jmA(P:Program)(E:World->World->Prop)(w:World)(v:Value):Result Next->Prop
 | .ok (.value u) w'=>w'=w/\u=v
 | .ok .skip w'=>w'=w/\v=undef
 | .ok (.enter f args) w'=>w'=w/\Calls P f args w (fun e w''=>e=.returned v/\E w w'')
 | _=>False
def jbG(P:Program)(ops:Array Oper)(E:World->World->Prop)(w:World)(o:Oper)(v:Value)(a:Act):Prop:=
 (Region.wanted o (yielded ops a.tmps)=true/\∀ w1,E w w1->jmA P E w1 v ((execOp a.eval o).run P w1))\/(Region.wanted o (yielded ops a.tmps)=false/\v=undef)
theorem jbG.of_same{ops:Array Oper}{w:World}{o:Oper}{v:Value}{a a':Act}(hy:jbG P ops E w o v a)(he:execOp a'.eval o=execOp a.eval o)
  (hw:Region.wanted o (yielded ops a'.tmps)=Region.wanted o (yielded ops a.tmps)):jbG P ops E w o v a':=by
 unfold jbG at *;rw[he,hw];exact hy
theorem jbG.st(hT:∀ x y z,E x y->E y z->E x z){ops:Array Oper}{w w1:World}{o:Oper}{v:Value}{a:Act}(hy:jbG P ops E w o v a)(h:E w w1):jbG P ops E w1 o v a:=
 hy.imp (fun ⟨h1,h2⟩=>⟨h1,fun w2 h'=>h2 w2 (hT _ _ _ h h')⟩) id
def anyM(P:Program)(ops:Array Oper)(hd:List Nat)(E:World->World->Prop)(Q:Act->World->Prop):Nat->Array Bool->Act->World->Prop
 | 0,listed,a,w=>∀ w1,E w w1->Region.ready .any ops listed=[]/\Q a w1
 | fuel+1,listed,a,w=>∀ w1,E w w1 ->
  (Region.ready .any ops listed=[]->Q a w1) /\
  ∀ i∈Region.ready .any ops listed,wpOp P ops NoQ i (fun a' w'=>(i ∉ hd->E w1 w')/\anyM P ops hd E Q fuel (listed.setIfInBounds i true) a' w') a w1
theorem jps(hT:∀ x y z,E x y->E y z->E x z){ops:Array Oper}{hd:List Nat}{Q:Act->World->Prop}:∀ (fuel:Nat) (listed:Array Bool) (a:Act) (w w1:World),anyM P ops hd E Q fuel listed a w->E w w1->anyM P ops hd E Q fuel listed a w1
 | 0,_,_,_,_,h,he=>fun w2 h2=>h w2 (hT _ _ _ he h2)
 | _+1,_,_,_,_,h,he=>fun w2 h2=>h w2 (hT _ _ _ he h2)
theorem jhn{ops:Array Oper}{Q:Exit->Act->World->Prop}{i:Nat}{K K':Act->World->Prop}{a:Act}{w:World}(hK:∀ a w,K a w->K' a w)(h:wpOp P ops NoQ i K a w):wpOp P ops Q i K' a w:=by
 unfold wpOp at *;split
 ·rename_i ho;simp only[ho]at h;exact hK _ _ h
 ·rename_i o ho
  simp only[ho]at h;split
  ·rename_i hw
   simp only[hw,if_true]at h;rcases h with h |⟨_,_,_,h⟩
   ·refine .inl ?_
    unfold Oper.wp at *;generalize (execOp a.eval o).run P w=r at *;cases r with
    | ok n w' =>
     cases n <;> simp only[Oper.upon]at h ⊢ <;>
      first
       | exact hK _ _ h
       | exact Calls.mono h (fun e w'' he=>by
         cases e with
         | returned v=>exact hK _ _ he
         | panicked c=>exact (he:False).elim
         | outgrown=>obtain⟨_,_,hf⟩:=he;exact (hf:False).elim)
       | exact Rows.mono h (fun _ _ he=>hK _ _ he)
    | halt x w'=>cases x <;> simp only[Oper.upon]at h ⊢ <;> exact (h:False).elim
   ·exact h.elim
  ·rename_i hw;simp only[hw]at h;exact hK _ _ h
theorem jgm(hE:∀ w,E w w){ops:Array Oper}{hd:List Nat}{Q:Act->World->Prop}{Q':Exit->Act->World->Prop}(hQ:∀ a w,Q a w->Q' .normal a w) :
  ∀ (fuel:Nat) (listed:Array Bool) (a:Act) (w:World),anyM P ops hd E Q fuel listed a w->wpAny P .any ops Q' fuel listed a w
 | 0,_,_,w,h=>let ⟨h1,h2⟩:=h w (hE w);⟨h1,hQ _ _ h2⟩
 | fuel+1,_,_,w,h=>let ⟨h1,h2⟩:=h w (hE w)
  ⟨fun h0=>hQ _ _ (h1 h0),fun i hi=>jhn (fun a' w' ⟨_,h'⟩=>jgm hE hQ fuel _ a' w' h') (h2 i hi)⟩
theorem jbG.wpOp{ops:Array Oper}{i:Nat}{o:Oper}{v:Value}{a:Act}{w:World}(hi:ops[i]?=some o)(hy:jbG P ops E w o v a){K:Act->World->Prop}{w1:World}(h1:E w w1)(hE:∀ w,E w w)
  (h:∀ w',E w1 w'->K (a.put o.dst v) w'):wpOp P ops NoQ i K a w1:=by
 unfold Go.wpOp;simp only[hi];rcases hy with⟨hw,hv⟩ |⟨hw,rfl⟩
 ·simp only[hw,if_true]
  refine .inl ?_;have h3:=hv w1 h1;unfold Oper.wp;generalize (execOp a.eval o).run P w1=r at *;cases r with
  | ok n w' =>
   cases n <;> simp only[jmA]at h3 <;> simp only[Oper.upon]
   case value u=>obtain⟨e1,e2⟩:=h3;rw[e1,e2];exact h _ (hE w1)
   case skip=>obtain⟨e1,e2⟩:=h3;rw[e1, <-e2];exact h _ (hE w1)
   case enter f args =>
    obtain⟨e1,hcc⟩:=h3;rw[e1]
    exact hcc.mono fun e w'' ⟨he,h1⟩=>by subst he;exact h _ h1
  | halt x w'=>simp only[jmA]at h3
 ·simp only[hw,Bool.false_eq_true,if_false];exact h _ (hE w1)
theorem je6{ops:Array Oper}{j:Nat}{oi oj:Oper}{v:Value}(hj:ops[j]?=some oj)(hap:oi.apart ops oj=true)
  (hsi:∀ cs b,oi.op≠.select cs b) (hsj:∀ cs b,oj.op≠.select cs b) {K:Act->World->Prop} {Y:Act->Prop} {a:Act} {w:World}
  (hY:∀ a a',Y a->execOp a'.eval oi=execOp a.eval oi->Region.wanted oi (yielded ops a'.tmps)=Region.wanted oi (yielded ops a.tmps)->Y a')
  (hy:Y a) (h:wpOp P ops NoQ j K (a.put oi.dst v) w) :
  wpOp P ops NoQ j (fun a' w'=>Y a'/\K (a'.put oi.dst v) w') a w:=by
 obtain⟨h1,h2,h3⟩:=Oper.apart_spec hap
 have keep:∀ (a:Act),Y a->∀ u,Y (a.put oj.dst u):=fun a hy u =>
  hY _ _ hy (execOp_put oi hsi a oj.dst u h3) (wanted_put oi a oj.dst u h3)
 have keepD:∀ d,Y { a with defers:=d :: a.defers }:=fun d=>hY _ _ hy rfl rfl;unfold wpOp at *;simp only[hj]at *;rw[wanted_put oj a oi.dst v h1]at h;split
 ·rename_i hw
  simp only[hw,if_true]at h;rcases h with h |⟨_,_,_,hf⟩
  case inr=>exact hf.elim
  refine .inl ?_;unfold Oper.wp at *;rw[execOp_put oj hsj a oi.dst v h1]at h;generalize (execOp a.eval oj).run P w=r at *;cases r with
  | ok n w' =>
   cases n <;> simp only[Oper.upon]at h ⊢
   case value u=>exact⟨keep a hy u,by rw[<-Act.put_comm a v u h2];exact h⟩
   case skip=>exact⟨keep a hy _,by rw[<-Act.put_comm a v undef h2];exact h⟩
   case defer d =>
    refine⟨keep _ (keepD d) _,?_⟩
    rw[<-Act.put_comm _ v undef h2, <-Act.put_defers];exact h
   case enter f args =>
    refine Calls.mono h fun e w'' he=>?_;cases e with
    | returned u=>exact⟨keep a hy u,by rw[<-Act.put_comm a v u h2];exact he⟩
    | panicked c=>exact he
    | outgrown=>exact he
   case row row args=>exact Rows.mono h fun u w'' he=>⟨keep a hy u,by rw[<-Act.put_comm a v u h2];exact he⟩
  | halt x w' =>
   cases x <;> simp only[Oper.upon]at h ⊢ <;> exact h
 ·rename_i hw
  simp only[hw]at h
  exact⟨keep a hy _,by rw[<-Act.put_comm a v undef h2];exact h⟩
def jn3(ops:Array Oper)(hd:List Nat)(listed:Array Bool)(i:Nat):Bool:=
 hd.all fun j=>listed.getD j true || match ops[j]? with | some oj=>oj.after.any (fun e=>Region.binds .any e && e.on == i) | none=>true
theorem job(hE:∀ w,E w w)(hT:∀ x y z,E x y->E y z->E x z){ops:Array Oper}{hd:List Nat}{Q:Act->World->Prop}{i:Nat}{oi:Oper}{v:Value}(hi:ops[i]?=some oi)(hsel:∀ (j:Nat) (o:Oper) cs b,ops[j]?=some o->o.op≠.select cs b)(hih:i ∉ hd) :
  ∀ (fuel:Nat) (listed:Array Bool) (a:Act) (w:World),
   (∀ j oj,ops[j]?=some oj->j≠i->listed.getD j true=false->(∀ e∈oj.after,Region.binds .any e=true->e.on≠i)->oi.apart ops oj=true) ->
   i∈Region.ready .any ops listed->jbG P ops E w oi v a ->
   ((∀ j oj,ops[j]?=some oj->j∈hd->listed.getD j true=false->∃ e∈oj.after,Region.binds .any e=true/\e.on=i)\/∀ w' a',execOp a'.eval oi=execOp a.eval oi->Region.wanted oi (yielded ops a'.tmps)=Region.wanted oi (yielded ops a.tmps)->jbG P ops E w' oi v a') ->
   anyM P ops hd E Q fuel (listed.setIfInBounds i true) (a.put oi.dst v) w->anyM P ops hd E Q (fuel+1) listed a w:=by
 intro fuel;induction fuel with
 | zero =>
  intro listed a w _ hr hy _ H w1 he
  refine⟨fun h=>(by rw[h]at hr;cases hr),fun j hj=>?_⟩
  by_cases hji:j=i
  ·subst hji;exact hy.wpOp hi he hE (fun w' h1=>⟨fun _=>h1,jps hT _ _ _ _ _ H (hT _ _ _ he h1)⟩)
  ·have:=ready_mono hj hji
   rw[(H w1 he).1]at this;cases this
 | succ fuel ih =>
  intro listed a w hfree hr hy hwt H w1 he
  refine⟨fun h=>(by rw[h]at hr;cases hr),fun j hj=>?_⟩
  by_cases hji:j=i
  ·subst hji;exact hy.wpOp hi he hE (fun w' h1=>⟨fun _=>h1,jps hT _ _ _ _ _ H (hT _ _ _ he h1)⟩)
  ·have h1:=(H w1 he).2 j (ready_mono hj hji)
   obtain⟨hjun,oj,hoj,hall⟩:=mem_ready.1 hj
   have hun:∀ b,listed.getD i b=false\/True:=fun _=>.inr trivial;have hnot:∀ e∈oj.after,Region.binds .any e=true->e.on≠i:=fun e he hb heq=>by
    have h1:=hall e he hb;have h0:=(mem_ready.1 hr).1;rw[heq]at h1;rcases Nat.lt_or_ge i listed.size with h' | h'
    ·simp[h']at h0 h1;rw[h0]at h1;cases h1
    ·simp[Array.getElem?_eq_none h']at h1
   have h2:=je6 (v:=v) (Y:=fun a'=>execOp a'.eval oi=execOp a.eval oi/\Region.wanted oi (yielded ops a'.tmps)=Region.wanted oi (yielded ops a.tmps)) hoj (hfree j oj hoj hji hjun hnot) (fun cs b=>hsel i oi cs b hi) (fun cs b=>hsel j oj cs b hoj)
    (fun a1 a2 h e1 e2=>⟨e1.trans h.1,e2.trans h.2⟩) ⟨rfl,rfl⟩ h1
   have hfree':∀ k ok,ops[k]?=some ok->k≠i->(listed.setIfInBounds j true).getD k true=false ->
     (∀ e∈ok.after,Region.binds .any e=true->e.on≠i)->oi.apart ops ok=true:=fun k ok hk hki hun hno=>by
    refine hfree k ok hk hki ?_ hno
    by_cases hjk:j=k
    ·subst hjk;exact hjun
    ·rw[getD_set_ne true hjk]at hun;exact hun
   refine wpOp_mono (fun a' w' h3=>⟨h3.2.1,?_⟩) h2
   obtain⟨⟨e1,e2⟩,h4,h5⟩:=h3
   have hyn:jbG P ops E w' oi v a':=by
    rcases hwt with hwt | hall'
    ·have hjh:j ∉ hd:=fun hjh=>by
      obtain⟨e,he,hb,hon⟩:=hwt j oj hoj hjh hjun
      exact hnot e he hb hon
     exact (hy.of_same e1 e2).st hT (hT _ _ _ he (h4 hjh))
    ·exact hall' w' a' e1 e2
   refine ih (listed.setIfInBounds j true) a' w' hfree' (ready_mono hr (Ne.symm hji)) hyn ?_ ?_
   ·refine hwt.imp (fun hwt k ok hk hkh hun=>hwt k ok hk hkh ?_) (fun hall' w2 a2 e3 e4=>hall' w2 a2 (e3.trans e1) (e4.trans e2))
    by_cases hjk:j=k
    ·subst hjk;exact hjun
    ·rw[getD_set_ne true hjk]at hun;exact hun
   ·rw[Array.setIfInBounds_comm _ _ hji]
    exact h5
def jbd(l:List Oper)(done:List Nat):Array Bool:=done.foldr (fun k b=>b.setIfInBounds k true) (Array.replicate l.toArray.size false)
def Mix(P:Program)(l:List Oper)(hd:List Nat)(E:World->World->Prop)(Q:Act->World->Prop):List Nat->List Nat->Act->World->Prop
 | [],done,a,w=>∀ w1,E w w1->Region.ready .any l.toArray (jbd l done)=[]/\Q a w1
 | k :: ord,done,a,w =>
  (k ∉ hd/\k∈Region.ready .any l.toArray (jbd l done)/\Region.free .any l.toArray (jbd l done) k=true/\∃ o v,l[k]?=some o/\jbG P l.toArray E w o v a /\
   (jn3 l.toArray hd (jbd l done) k=true\/∀ w' a',execOp a'.eval o=execOp a.eval o->Region.wanted o (yielded l.toArray a'.tmps)=Region.wanted o (yielded l.toArray a.tmps)->jbG P l.toArray E w' o v a')/\Mix P l hd E Q ord (k :: done) (a.put o.dst v) w) \/
  (Region.ready .any l.toArray (jbd l done)=[k]/\k∈hd/\∀ w1,E w w1->wpOp P l.toArray NoQ k (fun a' w'=>Mix P l hd E Q ord (k :: done) a' w') a w1)
theorem jek(hE:∀ w,E w w)(hT:∀ x y z,E x y->E y z->E x z)(hs:Region.noSelect l.toArray=true){hd:List Nat}{Q:Act->World->Prop}:∀ (ord:List Nat) (done:List Nat) (a:Act) (w:World),
  Mix P l hd E Q ord done a w->anyM P l.toArray hd E Q ord.length (jbd l done) a w
 | [],_,_,_,h=>h
 | k :: ord,done,a,w,h=>by
  rcases h with⟨hk,hr,hf,o,v,ho,hy,hwt,h⟩ |⟨hr,hk,h⟩
  ·have ho':l.toArray[k]?=some o:=by simpa using ho
   refine job hE hT ho' (Region.noSelect_spec hs) hk ord.length (jbd l done) a w (Region.free_spec ho' hf) hr hy (hwt.imp (fun hw j oj hj hjh hun=>?_) id) (jek hE hT hs ord _ _ _ h)
   have:=List.all_eq_true.1 hw j hjh
   simp only[hun,Bool.false_or,hj]at this
   obtain⟨e,he,hb⟩:=Array.any_eq_true'.1 this
   simp only[Bool.and_eq_true,beq_iff_eq]at hb
   exact⟨e,he,hb.1,hb.2⟩
  ·intro w1 he
   refine⟨fun h0=>(by rw[hr]at h0;cases h0),fun i hi=>?_⟩
   rw[hr]at hi;obtain rfl:i=k:=by simpa using hi
   exact wpOp_mono (fun a' w' h2=>⟨fun hn=>absurd hk hn,jek hE hT hs ord _ _ _ h2⟩) (h w1 he)
theorem jau(ord hd:List Nat)(E:World->World->Prop)(hE:∀ w,E w w)(hT:∀ x y z,E x y->E y z->E x z){id:Nat}{Q:Exit->Act->World->Prop}{a:Act}{w:World}
  (hm:P.follows .mixedOrders=true) (hs:Region.noSelect l.toArray=true) (hl:ord.length=l.toArray.size)
  (h:Mix P l hd E (fun a w=>Q .normal a w) ord [] a w.drew):(Code.region id l.toArray true).wp P Q a w:=by
 refine wp_region_any hm ?_;rw[<-hl]
 have:=jek hE hT hs ord _ _ _ h
 unfold jbd at this;rw[hl]at this ⊢;exact jgm hE (fun _ _ h=>h) _ _ _ _ this
def jiT:Op->Bool
 | .call c=>match c.callee with | .builtin .len=>true | .builtin .min=>true | .builtin .max=>true | _=>false
 | .move _ | .assign _ | .pick .. | .build .. | .load .. | .binOp .. | .unOp .. | .convert .. | .slice .. | .fieldAddr .. | .field .. | .indexAddr .. | .index .. | .extract .. | .lookup .. | .makeFunc .. | .makeInterface .. | .typeAssert ..=>true
 | _=>false
def jcG(s:Sem Next):Prop:=∀ (P:Program) (w w':World) (f:FuncId) (args:Array Value),s.run P w≠.ok (.enter f args) w'
theorem jcG.bind{α:Type}{s:Sem α}{k:α->Sem Next}(h:∀ x,jcG (k x)):jcG (s >>= k):=by
 intro P w w' f args;rw[Sem.run_bind];cases s.run P w with
 | ok x w1=>exact h x P w1 w' f args
 | halt x w1=>simp[Result.andThen]
theorem jcG.value(v:Value):jcG (pure (.value v)):=by intro P w w' f args;simp[Sem.run_pure]
theorem jjW{ρ:Operand->Value}{o:Oper}(h:jiT o.op=true):jcG (execOp ρ o):=by
 unfold execOp;cases ho:o.op <;> rw[ho]at h <;> simp only[jiT,Bool.false_eq_true]at h
 case move=>exact jcG.value _
 case assign=>exact jcG.value _
 case pick=>exact jcG.bind fun _=>jcG.value _
 case call c =>
  obtain⟨callee,ags,ts⟩:=c
  cases callee with
  | builtin b =>
   intro P w w' f args;simp only[resolve,Sem.run_bind,Sem.run_pure,Result.andThen,invoke];cases b <;> simp only[Bool.false_eq_true]at h <;> exact (jcG.bind fun _=>jcG.value _) P w w' f args
  | value f=>simp at h
  | invoke r m=>simp at h
 all_goals exact jcG.bind fun _=>jcG.value _
variable {Q:Act->World->Prop} {ord done hd:List Nat} {a:Act} {w:World} {k:Nat} {o:Oper}
def jgV(l:List Oper)(hd done:List Nat)(k:Nat):Bool := !hd.contains k && (Region.ready .any l.toArray (jbd l done)).contains k && Region.free .any l.toArray (jbd l done) k
def ji6(l:List Oper)(hd done:List Nat)(k:Nat):Bool:=jgV l hd done k && jn3 l.toArray hd (jbd l done) k
def jlX(l:List Oper)(hd done:List Nat)(k:Nat):Bool:=Region.ready .any l.toArray (jbd l done) == [k] && hd.contains k
theorem jti(o:Oper)(ho:l[k]?=some o)(hk:jgV l hd done k=true)(hw:Region.wanted o (yielded l.toArray a.tmps)=true)(hq:jiT o.op=true)
  (h:∀ K:Act->Prop,(∀ a',Mix P l hd E Q ord (k :: done) a' w->K a')->o.quiet P a (fun _=>True) K):Mix P l hd E Q (k :: ord) done a w:=by
 simp only[jgV,Bool.and_eq_true,List.contains_iff_mem,Bool.not_eq_true',jmZ]at hk
 obtain⟨v,h1,h2⟩:=h _ (fun _ h=>h)
 have key:∀ w' a',execOp a'.eval o=execOp a.eval o->Region.wanted o (yielded l.toArray a'.tmps)=Region.wanted o (yielded l.toArray a.tmps)->jbG P l.toArray E w' o v a':=by
  refine fun w' a' e1 e2=>.inl ⟨e2.trans hw,fun w1 _=>?_⟩;rw[e1];have h3:=h1 w1 trivial;unfold Oper.quietAt at h3;have h4:=fun f args w'=>jjW (ρ:=a.eval) hq P w1 w' f args;generalize (execOp a.eval o).run P w1=r at *;cases r with
  | ok n w'=>cases n <;> simp only[Oper.quietUpon]at h3 <;> first | exact h3 | exact absurd rfl (h4 _ _ _)
  | halt x w'=>simp only[Oper.quietUpon]at h3
 exact .inl ⟨hk.1.1,hk.1.2,hk.2,o,v,ho,key w a rfl rfl,.inr key,h2⟩
theorem jqJ(o:Oper)(v:Value)(ho:l[k]?=some o)(hk:ji6 l hd done k=true)(hw:Region.wanted o (yielded l.toArray a.tmps)=true)
  (hv:∀ w1,E w w1->(execOp a.eval o).run P w1=.ok (.value v) w1) (h:Mix P l hd E Q ord (k :: done) (a.put o.dst v) w):Mix P l hd E Q (k :: ord) done a w:=by
 simp only[ji6,jgV,Bool.and_eq_true,List.contains_iff_mem,Bool.not_eq_true',jmZ]at hk;exact .inl ⟨hk.1.1.1,hk.1.1.2,hk.1.2,o,v,ho,.inl ⟨hw,fun w1 hc=>by rw[hv w1 hc];exact⟨rfl,rfl⟩⟩,.inl hk.2,h⟩
theorem jth(p:Addr)(v:Value){t:TypeId}{x:Operand}{d:Option Tmp}{ty:TypeId}{pos:String}{af:Array Edge}{g:Option (Nat × Bool)}(ho:l[k]?=some ⟨d,.load t x,ty,pos,af,g⟩)(hk:ji6 l hd done k=true)
  (hw:Region.wanted ⟨d,.load t x,ty,pos,af,g⟩ (yielded l.toArray a.tmps)=true) (hx:a.eval x=.pointer (some p))
  (hv:∀ w1,E w w1->(Instr.loadAt t (.pointer (some p))).run P w1=.ok v w1) (h:Mix P l hd E Q ord (k :: done) (a.put d v) w):Mix P l hd E Q (k :: ord) done a w:=by
 refine jqJ _ v ho hk hw (fun w1 hc=>?_) h
 have:=hv w1 hc
 simp only[execOp,hx,Sem.run_bind,this,Result.andThen,Sem.run_pure]
theorem qL{t:TypeId}{x:Operand}{d:Option Tmp}{ty:TypeId}{pos:String}{af:Array Edge}{g:Option (Nat × Bool)}(p:Addr)(v:Value)(ho:l[k]?=some ⟨d,.load t x,ty,pos,af,g⟩)(hv:∀ w1,E w w1->(Instr.loadAt t (.pointer (some p))).run P w1=.ok v w1)(h:Mix P l hd E Q ord (k :: done) (a.put d v) w)(hk:ji6 l hd done k=true:=by kernel_rfl)(hw:Region.wanted ⟨d,.load t x,ty,pos,af,g⟩ (yielded l.toArray a.tmps)=true:=by rfl)(hx:a.eval x=.pointer (some p):=by rfl):Mix P l hd E Q (k :: ord) done a w:=jth p v ho hk hw hx hv h
theorem jcY(o:Oper)(f:FuncId)(args:Array Value)(v:Value)(ho:l[k]?=some o)(hk:ji6 l hd done k=true)(hw:Region.wanted o (yielded l.toArray a.tmps)=true)
  (hv:∀ w1,(execOp a.eval o).run P w1=.ok (.enter f args) w1) (hc:∀ w1,E w w1->Calls P f args w1 (fun e w2=>e=.returned v/\E w1 w2))
  (h:Mix P l hd E Q ord (k :: done) (a.put o.dst v) w):Mix P l hd E Q (k :: ord) done a w:=by
 simp only[ji6,jgV,Bool.and_eq_true,List.contains_iff_mem,Bool.not_eq_true',jmZ]at hk;exact .inl ⟨hk.1.1.1,hk.1.1.2,hk.1.2,o,v,ho,.inl ⟨hw,fun w1 hw1=>by rw[hv w1];exact⟨rfl,hc w1 hw1⟩⟩,.inl hk.2,h⟩
theorem jtg(o:Oper)(ho:l[k]?=some o)(hk:jlX l hd done k=true)(hw:Region.wanted o (yielded l.toArray a.tmps)=true)
  (h:∀ w1,E w w1->∀ K:Act->World->Prop,(∀ a' w',Mix P l hd E Q ord (k :: done) a' w'->K a' w')->o.wp P a w1 K NoQ):Mix P l hd E Q (k :: ord) done a w:=by
 simp only[jlX,Bool.and_eq_true,beq_iff_eq,List.contains_iff_mem]at hk;refine .inr ⟨hk.1,hk.2,fun w1 he=>?_⟩;unfold wpOp;have ho':l.toArray[k]?=some o:=by simpa using ho
 simp only[ho',hw,if_true];exact .inl (h w1 he _ (fun _ _ h1=>h1))
theorem qH(o:Oper)(ho:l[k]?=some o)(h:∀ w1,E w w1->∀ K:Act->World->Prop,(∀ a' w',Mix P l hd E Q ord (k :: done) a' w'->K a' w')->o.wp P a w1 K NoQ)(hk:jlX l hd done k=true:=by kernel_rfl)(hw:Region.wanted o (yielded l.toArray a.tmps)=true:=by rfl):Mix P l hd E Q (k :: ord) done a w:=jtg o ho hk hw h
theorem jvC(hk:(Region.ready .any l.toArray (jbd l done)).isEmpty=true)(h:∀ w1,E w w1->Q a w1):Mix P l hd E Q [] done a w:=
 fun w1 he=>⟨by simpa using hk,h w1 he⟩
theorem qE(h:∀ w1,E w w1->Q a w1)(hk:(Region.ready .any l.toArray (jbd l done)).isEmpty=true:=by kernel_rfl):Mix P l hd E Q [] done a w:=jvC hk h
theorem jcy{K:Act->World->Prop}{Q:Exit->Act->World->Prop}{v:Value}{w':World}(hr:(execOp a.eval o).run P w=.ok (.value v) w')(h:K (a.put o.dst v) w'):o.wp P a w K Q:=by
 unfold Oper.wp;rw[hr];exact h
end mix
end
end Go.Proofs.YtcpnjmcipainpaaGreatDoor
