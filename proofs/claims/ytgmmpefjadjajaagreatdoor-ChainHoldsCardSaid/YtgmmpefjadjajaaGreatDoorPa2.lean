/- Lemmas. -/
import Derived.Test.YtgmmpefjadjajaaGreatDoorPa0
import Derived.BigQuiet
import Derived.Lib.Hide
namespace Go.Proofs.YtgmmpefjadjajaaGreatDoor
set_option linter.unusedSimpArgs false
set_option linter.unusedVariables false
set_option maxRecDepth 100000
set_option maxHeartbeats 16000000
variable {G G':Prop}
theorem vP(k:G')(h:G'->G:=by (intro k;refine F0 _ rfl vY rfl rfl (λK e=>?_);go_big_quiet_op;refine e _ ?_;clear e K;exact k)):G:=h k
theorem vK(k:G')(h:G'->G:=by (intro k;refine y4 _ rfl vY rfl rfl (λK e=>?_);go_big_quiet_op;refine e _ ?_;clear e K;exact k)):G:=h k
theorem vD(k:G')(h:G'->G:=by (intro k;refine p8 _ rfl vY rfl rfl (λK e=>?_);go_big_quiet_op;refine e _ ?_;clear e K;exact k)):G:=h k
theorem vZ(k:G')(h:G'->G:=by (intro k;refine y7 _ rfl vY rfl rfl (λK e=>?_);go_big_quiet_op;refine e _ ?_;clear e K;exact k)):G:=h k
theorem vS(k:G')(h:G'->G:=by (intro k;simp only[Act.put,sA,sB,sC];exact k)):G:=h k
open Go Go.RowKit
section
theorem PL{k:Nat}{l:List Nat}:l.contains k=false↔k ∉ l:=by simp
section mix
variable {P:Program} {l:List Oper} {E:vW->vW->Prop}
abbrev Mv:Exit->Act->vW->Prop:=λ_ _ _=>False
def FD(P:Program)(E:vW->vW->Prop)(w:vW)(v:vV):Result Next->Prop
 |.ok (.value u) w'=>w'=w/\u=v
 |.ok .skip w'=>w'=w/\v=undef
 |.ok (.enter f args) w'=>w'=w/\Calls P f args w (λe w''=>e=.returned v/\E w w'')
 |_=>False
def Qc(P:Program)(ops:Array Oper)(E:vW->vW->Prop)(w:vW)(o:Oper)(v:vV)(a:Act):Prop:=
 (Region.wanted o (yielded ops a.tmps)=true/\∀ w1,E w w1->FD P E w1 v ((execOp a.eval o).run P w1))\/(Region.wanted o (yielded ops a.tmps)=false/\v=undef)
theorem Qc.of_same{ops:Array Oper}{w:vW}{o:Oper}{v:vV}{a a':Act}(hy:Qc P ops E w o v a)(he:execOp a'.eval o=execOp a.eval o)
  (hw:Region.wanted o (yielded ops a'.tmps)=Region.wanted o (yielded ops a.tmps)):Qc P ops E w o v a':=by
 unfold Qc at *;rw[he,hw];exact hy
theorem Qc.st(hT:∀ x y z,E x y->E y z->E x z){ops:Array Oper}{w w1:vW}{o:Oper}{v:vV}{a:Act}(hy:Qc P ops E w o v a)(h:E w w1):Qc P ops E w1 o v a:=
 hy.imp (λ⟨e,q⟩=>⟨e,λA H=>q A (hT _ _ _ h H)⟩) id
def Us(P:Program)(ops:Array Oper)(hd:List Nat)(E:vW->vW->Prop)(Q:Act->vW->Prop):Nat->Array Bool->Act->vW->Prop
 |0,listed,a,w=>∀ w1,E w w1->Region.ready .any ops listed=[]/\Q a w1
 |fuel+1,listed,a,w=>∀ w1,E w w1 ->
  (Region.ready .any ops listed=[]->Q a w1) /\
  ∀ i∈Region.ready .any ops listed,wpOp P ops Mv i (λa' w'=>(i ∉ hd->E w1 w')/\Us P ops hd E Q fuel (listed.setIfInBounds i true) a' w') a w1
theorem pW(hT:∀ x y z,E x y->E y z->E x z){ops:Array Oper}{hd:List Nat}{Q:Act->vW->Prop}:∀ (fuel:Nat) (listed:Array Bool) (a:Act) (w w1:vW),Us P ops hd E Q fuel listed a w->E w w1->Us P ops hd E Q fuel listed a w1
 |0,_,_,_,_,h,he=>λe q=>h e (hT _ _ _ he q)
 |_+1,_,_,_,_,h,he=>λe q=>h e (hT _ _ _ he q)
theorem OS{ops:Array Oper}{Q:Exit->Act->vW->Prop}{i:Nat}{K K':Act->vW->Prop}{a:Act}{w:vW}(hK:∀ a w,K a w->K' a w)(h:wpOp P ops Mv i K a w):wpOp P ops Q i K' a w:=by
 unfold wpOp at *;split
 ·rename_i ho;simp only[ho]at h;exact hK _ _ h
 ·rename_i o ho;simp only[ho]at h;split;{rename_i hw;simp only[hw,if_true]at h;rcases h with h|⟨_,_,_,h⟩;{refine .inl ?_;unfold Oper.wp at *;generalize (execOp a.eval o).run P w=r at *;cases r with| ok n w' =>(cases n<;>simp only[Oper.upon]at h ⊢ <;>first|exact hK _ _ h|exact Calls.mono h (λe A q=>by cases e with| returned v=>exact hK _ _ q| panicked c=>exact (q:False).elim| outgrown=>obtain⟨_,_,H⟩:=q;exact (H:False).elim)|exact Rows.mono h (λ_ _ q=>hK _ _ q))| halt x w'=>cases x<;>simp only[Oper.upon]at h ⊢ <;> exact (h:False).elim};exact h.elim};rename_i hw;simp only[hw]at h;exact hK _ _ h
theorem SO(hE:∀ w,E w w){ops:Array Oper}{hd:List Nat}{Q:Act->vW->Prop}{Q':Exit->Act->vW->Prop}(hQ:∀ a w,Q a w->Q' .normal a w):∀ (fuel:Nat) (listed:Array Bool) (a:Act) (w:vW),Us P ops hd E Q fuel listed a w->wpAny P .any ops Q' fuel listed a w
 |0,_,_,w,h=>let ⟨h1,h2⟩:=h w (hE w);⟨h1,hQ _ _ h2⟩
 |fuel+1,_,_,w,h=>let ⟨h1,h2⟩:=h w (hE w)
  ⟨λe=>hQ _ _ (h1 e),λi q=>OS (λA w' ⟨_,H⟩=>SO hE hQ fuel _ A w' H) (h2 i q)⟩
theorem Qc.wpOp{ops:Array Oper}{i:Nat}{o:Oper}{v:vV}{a:Act}{w:vW}(hi:ops[i]?=some o)(hy:Qc P ops E w o v a){K:Act->vW->Prop}{w1:vW}(H:E w w1)(hE:∀ w,E w w)
  (h:∀ w',E w1 w'->K (a.put o.dst v) w'):wpOp P ops Mv i K a w1:=by
 unfold Go.wpOp;simp only[hi];rcases hy with⟨hw,hv⟩|⟨hw,rfl⟩
 ·simp only[hw,if_true];refine .inl ?_;have q:=hv w1 H;unfold Oper.wp;generalize (execOp a.eval o).run P w1=r at *;cases r with| ok n w' =>(cases n<;>simp only[FD]at q<;>simp only[Oper.upon]);(case value u=>obtain⟨A,O⟩:=q;rw[A,O];exact h _ (hE w1));(case skip=>obtain⟨A,O⟩:=q;rw[A, <-O];exact h _ (hE w1));case enter f args =>obtain⟨A,X⟩:=q;rw[A];exact X.mono λe Z ⟨he,H⟩=>by subst he;exact h _ H| halt x w'=>simp only[FD]at q
 ·simp only[hw,cH,if_false];exact h _ (hE w1)
theorem KB{ops:Array Oper}{j:Nat}{oi oj:Oper}{v:vV}(hj:ops[j]?=some oj)(hap:oi.apart ops oj=true)
  (hsi:∀ cs b,oi.op≠.select cs b) (hsj:∀ cs b,oj.op≠.select cs b) {K:Act->vW->Prop} {Y:Act->Prop} {a:Act} {w:vW}
  (hY:∀ a O,Y a->execOp O.eval oi=execOp a.eval oi->Region.wanted oi (yielded ops O.tmps)=Region.wanted oi (yielded ops a.tmps)->Y O)
  (A:Y a) (h:wpOp P ops Mv j K (a.put oi.dst v) w) :
  wpOp P ops Mv j (λO w'=>Y O/\K (O.put oi.dst v) w') a w:=by
 obtain⟨h1,X,h3⟩:=Oper.apart_spec hap
 have q:∀ (a:Act),Y a->∀ u,Y (a.put oj.dst u):=λa A u =>hY _ _ A (execOp_put oi hsi a oj.dst u h3) (wanted_put oi a oj.dst u h3)
 have H:∀ d,Y { a with defers:=d::a.defers }:=λd=>hY _ _ A rfl rfl;unfold wpOp at *;simp only[hj]at *;rw[wanted_put oj a oi.dst v h1]at h;split
 ·rename_i hw;simp only[hw,if_true]at h;rcases h with h|⟨_,_,_,hf⟩;(case inr=>exact hf.elim);refine .inl ?_;unfold Oper.wp at *;rw[execOp_put oj hsj a oi.dst v h1]at h;generalize (execOp a.eval oj).run P w=r at *;cases r with| ok n w' =>(cases n<;>simp only[Oper.upon]at h ⊢);(case value u=>exact⟨q a A u,by rw[<-jF a v u X];exact h⟩);(case skip=>exact⟨q a A _,by rw[<-jF a v undef X];exact h⟩);(case defer d =>refine⟨q _ (H d) _,?_⟩;rw[<-jF _ v undef X, <-Act.put_defers];exact h);(case enter f args =>refine Calls.mono h λe a0 Z=>?_;cases e with| returned u=>exact⟨q a A u,by rw[<-jF a v u X];exact Z⟩| panicked c=>exact Z| outgrown=>exact Z);case row row args=>exact Rows.mono h λu a0 Z=>⟨q a A u,by rw[<-jF a v u X];exact Z⟩| halt x w' =>cases x<;>simp only[Oper.upon]at h ⊢ <;> exact h
 ·rename_i hw;simp only[hw]at h;exact⟨q a A _,by rw[<-jF a v undef X];exact h⟩
def pH(ops:Array Oper)(hd:List Nat)(listed:Array Bool)(i:Nat):Bool:=
 hd.all λj=>listed.getD j true || match ops[j]? with|some oj=>oj.after.any (λe=>Region.binds .any e&&e.on == i)|none=>true
theorem d5(hE:∀ w,E w w)(hT:∀ x y z,E x y->E y z->E x z){ops:Array Oper}{hd:List Nat}{Q:Act->vW->Prop}{i:Nat}{oi:Oper}{v:vV}(hi:ops[i]?=some oi)(hsel:∀ (j:Nat) (o:Oper) cs b,ops[j]?=some o->o.op≠.select cs b)(hih:i ∉ hd):∀ (A:Nat) (q:Array Bool) (a:Act) (w:vW),
   (∀ j oj,ops[j]?=some oj->j≠i->q.getD j true=false->(∀ e∈oj.after,Region.binds .any e=true->e.on≠i)->oi.apart ops oj=true) ->
   i∈Region.ready .any ops q->Qc P ops E w oi v a ->
   ((∀ j oj,ops[j]?=some oj->j∈hd->q.getD j true=false->∃ e∈oj.after,Region.binds .any e=true/\e.on=i)\/∀ w' a',execOp a'.eval oi=execOp a.eval oi->Region.wanted oi (yielded ops a'.tmps)=Region.wanted oi (yielded ops a.tmps)->Qc P ops E w' oi v a') ->
   Us P ops hd E Q A (q.setIfInBounds i true) (a.put oi.dst v) w->Us P ops hd E Q (A+1) q a w:=by
 intro A;induction A with
 |zero =>intro q a w _ hr hy _ H w1 he;refine⟨λh=>(by rw[h]at hr;cases hr),λj hj=>?_⟩;by_cases hji:j=i;{subst hji;exact hy.wpOp hi he hE (λw' X=>⟨λ_=>X,pW hT _ _ _ _ _ H (hT _ _ _ he X)⟩)};have:=ready_mono hj hji;rw[(H w1 he).1]at this;cases this
 |succ A ih =>intro q a w a0 hr hy Z H w1 he;refine⟨λh=>(by rw[h]at hr;cases hr),λj hj=>?_⟩;by_cases hji:j=i;{subst hji;exact hy.wpOp hi he hE (λw' X=>⟨λ_=>X,pW hT _ _ _ _ _ H (hT _ _ _ he X)⟩)};have X:=(H w1 he).2 j (ready_mono hj hji);obtain⟨O,oj,a7,a9⟩:=mem_ready.1 hj;(have a5:∀ e∈oj.after,Region.binds .any e=true->e.on≠i:=λe he hb b0=>by have X:=a9 e he hb;have h0:=(mem_ready.1 hr).1;rw[b0]at X;rcases fH i q.size with h'|h';{simp[h']at h0 X;rw[h0]at X;cases X};simp[gL h']at X);have h2:=KB (v:=v) (Y:=λa'=>execOp a'.eval oi=execOp a.eval oi/\Region.wanted oi (yielded ops a'.tmps)=Region.wanted oi (yielded ops a.tmps)) a7 (a0 j oj a7 hji O a5) (λcs b=>hsel i oi cs b hi) (λcs b=>hsel j oj cs b a7) (λa1 a2 h e1 e2=>⟨e1.trans h.1,e2.trans h.2⟩) ⟨rfl,rfl⟩ X;(have a3:∀ k ok,ops[k]?=some ok->k≠i->(q.setIfInBounds j true).getD k true=false ->(∀ e∈ok.after,Region.binds .any e=true->e.on≠i)->oi.apart ops ok=true:=λk ok hk b1 a4 b2=>by refine a0 k ok hk b1 ?_ b2;by_cases hjk:j=k;{subst hjk;exact O};rw[getD_set_ne true hjk]at a4;exact a4);refine wpOp_mono (λa' w' h3=>⟨h3.2.1,?_⟩) h2;obtain⟨⟨e1,e2⟩,h4,h5⟩:=h3;(have b3:Qc P ops E w' oi v a':=by rcases Z with Z|K;{(have a8:j ∉ hd:=λa8=>by obtain⟨e,he,hb,b4⟩:=Z j oj a7 a8 O;exact a5 e he hb b4);exact (hy.of_same e1 e2).st hT (hT _ _ _ he (h4 a8))};exact K w' a' e1 e2);refine ih (q.setIfInBounds j true) a' w' a3 (ready_mono hr (Ne.symm hji)) b3 ?_ ?_;{refine Z.imp (λZ k ok hk b5 a4=>Z k ok hk b5 ?_) (λK w2 a2 e3 e4=>K w2 a2 (e3.trans e1) (e4.trans e2));by_cases hjk:j=k;{subst hjk;exact O};rw[getD_set_ne true hjk]at a4;exact a4};rw[iA _ _ hji];exact h5
def Ec(l:List Oper)(done:List Nat):Array Bool:=done.foldr (λk b=>b.setIfInBounds k true) (Array.replicate l.toArray.size false)
def Nc(P:Program)(l:List Oper)(hd:List Nat)(E:vW->vW->Prop)(Q:Act->vW->Prop):List Nat->List Nat->Act->vW->Prop
 |[],done,a,w=>∀ w1,E w w1->Region.ready .any l.toArray (Ec l done)=[]/\Q a w1
 |k::ord,done,a,w =>
  (k ∉ hd/\k∈Region.ready .any l.toArray (Ec l done)/\Region.free .any l.toArray (Ec l done) k=true/\∃ o v,l[k]?=some o/\Qc P l.toArray E w o v a /\
   (pH l.toArray hd (Ec l done) k=true\/∀ w' a',execOp a'.eval o=execOp a.eval o->Region.wanted o (yielded l.toArray a'.tmps)=Region.wanted o (yielded l.toArray a.tmps)->Qc P l.toArray E w' o v a')/\Nc P l hd E Q ord (k::done) (a.put o.dst v) w) \/
  (Region.ready .any l.toArray (Ec l done)=[k]/\k∈hd/\∀ w1,E w w1->wpOp P l.toArray Mv k (λa' w'=>Nc P l hd E Q ord (k::done) a' w') a w1)
theorem MS(hE:∀ w,E w w)(hT:∀ x y z,E x y->E y z->E x z)(hs:Region.noSelect l.toArray=true){hd:List Nat}{Q:Act->vW->Prop}:∀ (ord:List Nat) (done:List Nat) (a:Act) (w:vW),
  Nc P l hd E Q ord done a w->Us P l.toArray hd E Q ord.length (Ec l done) a w
 |[],_,_,_,h=>h
 |k::ord,done,a,w,h=>by
  rcases h with⟨hk,hr,hf,o,v,ho,hy,hwt,h⟩|⟨hr,hk,h⟩
  ·have q:l.toArray[k]?=some o:=by simpa using ho
   refine d5 hE hT q (gQ hs) hk ord.length (Ec l done) a w (iL q hf) hr hy (hwt.imp (λZ j oj hj A H=>?_) id) (MS hE hT hs ord _ _ _ h)
   have:=fJ.1 Z j A
   simp only[H,Bool.false_or,hj]at this
   obtain⟨e,K,hb⟩:=Array.any_eq_true'.1 this
   simp only[cI,beq_iff_eq]at hb
   exact⟨e,K,hb.1,hb.2⟩
  ·intro w1 K
   refine⟨λO=>(by rw[hr]at O;cases O),λi X=>?_⟩
   rw[hr]at X;obtain rfl:i=k:=by simpa using X
   exact wpOp_mono (λa' w' h2=>⟨λhn=>absurd hk hn,MS hE hT hs ord _ _ _ h2⟩) (h w1 K)
theorem Lc(ord hd:List Nat)(E:vW->vW->Prop)(hE:∀ w,E w w)(hT:∀ x y z,E x y->E y z->E x z){id:Nat}{Q:Exit->Act->vW->Prop}{a:Act}{w:vW}
  (hm:P.follows .mixedOrders=true) (hs:Region.noSelect l.toArray=true) (hl:ord.length=l.toArray.size)
  (h:Nc P l hd E (λa w=>Q .normal a w) ord [] a w.drew):(Code.region id l.toArray true).wp P Q a w:=by
 refine wp_region_any hm ?_;rw[<-hl]
 have:=MS hE hT hs ord _ _ _ h
 unfold Ec at this;rw[hl]at this ⊢;exact SO hE (λ_ _ h=>h) _ _ _ _ this
def EV:Op->Bool
 |.call c=>match c.callee with | .builtin .len=>true | .builtin .min=>true | .builtin .max=>true|_=>false
 |.move _ | .assign _ | .pick .. | .build .. | .load .. | .binOp .. | .unOp .. | .convert .. | .slice .. | .fieldAddr .. | .field .. | .indexAddr .. | .index .. | .extract .. | .lookup .. | .makeFunc .. | .makeInterface .. | .typeAssert ..=>true
 |_=>false
def Vr(s:Sem Next):Prop:=∀ (P:Program) (w w':vW) (f:FuncId) (args:Array vV),s.run P w≠.ok (.enter f args) w'
theorem Vr.bind{α:Type}{s:Sem α}{k:α->Sem Next}(h:∀ x,Vr (k x)):Vr (s >>= k):=by
 intro P w w' f args;rw[bS];cases s.run P w with
 |ok x w1=>exact h x P w1 w' f args
 |halt x w1=>simp[Result.andThen]
theorem Vr.value(v:vV):Vr (pure (.value v)):=by intro P w w' f args;simp[cT]
theorem LC{ρ:Operand->vV}{o:Oper}(h:EV o.op=true):Vr (execOp ρ o):=by
 unfold execOp;cases ho:o.op<;>rw[ho]at h<;>simp only[EV,cH]at h
 case move=>exact Vr.value _
 case assign=>exact Vr.value _
 case pick=>exact Vr.bind λ_=>Vr.value _
 case call c =>obtain⟨e,q,A⟩:=c;cases e with| builtin b =>intro P w w' f args;simp only[resolve,bS,cT,Result.andThen,invoke];cases b<;>simp only[cH]at h<;>exact (Vr.bind λ_=>Vr.value _) P w w' f args| value f=>simp at h| invoke r m=>simp at h
 all_goals exact Vr.bind λ_=>Vr.value _
variable {Q:Act->vW->Prop} {ord done hd:List Nat} {a:Act} {w:vW} {k:Nat} {o:Oper}
def DB(l:List Oper)(hd done:List Nat)(k:Nat):Bool := !hd.contains k&&(Region.ready .any l.toArray (Ec l done)).contains k&&Region.free .any l.toArray (Ec l done) k
def II(l:List Oper)(hd done:List Nat)(k:Nat):Bool:=DB l hd done k&&pH l.toArray hd (Ec l done) k
def WE(l:List Oper)(hd done:List Nat)(k:Nat):Bool:=Region.ready .any l.toArray (Ec l done) == [k]&&hd.contains k
theorem F0(o:Oper)(ho:l[k]?=some o)(hk:DB l hd done k=true)(hw:Region.wanted o (yielded l.toArray a.tmps)=true)(hq:EV o.op=true)
  (h:∀ K:Act->Prop,(∀ e,Nc P l hd E Q ord (k::done) e w->K e)->o.quiet P a (λ_=>True) K):Nc P l hd E Q (k::ord) done a w:=by
 simp only[DB,cI,cM,gP,PL]at hk
 obtain⟨v,H,O⟩:=h _ (λ_ h=>h)
 have q:∀ w' e,execOp e.eval o=execOp a.eval o->Region.wanted o (yielded l.toArray e.tmps)=Region.wanted o (yielded l.toArray a.tmps)->Qc P l.toArray E w' o v e:=by refine λw' e X Z=>.inl ⟨Z.trans hw,λw1 _=>?_⟩;rw[X];have A:=H w1 trivial;unfold Oper.quietAt at A;have h4:=λf args w'=>LC (ρ:=a.eval) hq P w1 w' f args;generalize (execOp a.eval o).run P w1=r at *;cases r with| ok n w'=>(cases n<;>simp only[Oper.quietUpon]at A<;>first|exact A|exact absurd rfl (h4 _ _ _))| halt x w'=>simp only[Oper.quietUpon]at A
 exact .inl ⟨hk.1.1,hk.1.2,hk.2,o,v,ho,q w a rfl rfl,.inr q,O⟩
theorem qN(o:Oper)(v:vV)(ho:l[k]?=some o)(hk:II l hd done k=true)(hw:Region.wanted o (yielded l.toArray a.tmps)=true)
  (hv:∀ w1,E w w1->(execOp a.eval o).run P w1=.ok (.value v) w1) (h:Nc P l hd E Q ord (k::done) (a.put o.dst v) w):Nc P l hd E Q (k::ord) done a w:=by
 simp only[II,DB,cI,cM,gP,PL]at hk;exact .inl ⟨hk.1.1.1,hk.1.1.2,hk.1.2,o,v,ho,.inl ⟨hw,λw1 e=>by rw[hv w1 e];exact⟨rfl,rfl⟩⟩,.inl hk.2,h⟩
theorem E9(p:Addr)(v:vV){t:TypeId}{x:Operand}{d:Option Tmp}{ty:TypeId}{pos:String}{af:Array Edge}{g:Option (Nat × Bool)}(ho:l[k]?=some ⟨d,.load t x,ty,pos,af,g⟩)(hk:II l hd done k=true)
  (hw:Region.wanted ⟨d,.load t x,ty,pos,af,g⟩ (yielded l.toArray a.tmps)=true) (hx:a.eval x=.pointer (some p))
  (hv:∀ w1,E w w1->(Instr.loadAt t p).run P w1=.ok v w1) (h:Nc P l hd E Q ord (k::done) (a.put d v) w):Nc P l hd E Q (k::ord) done a w:=by
 refine qN _ v ho hk hw (λw1 e=>?_) h
 have:=hv w1 e
 simp only[execOp,hx,bS,this,Result.andThen,cT]
theorem qL{t:TypeId}{x:Operand}{d:Option Tmp}{ty:TypeId}{pos:String}{af:Array Edge}{g:Option (Nat × Bool)}(p:Addr)(v:vV)(ho:l[k]?=some ⟨d,.load t x,ty,pos,af,g⟩)(hv:∀ w1,E w w1->(Instr.loadAt t p).run P w1=.ok v w1)(h:Nc P l hd E Q ord (k::done) (a.put d v) w)(hk:II l hd done k=true:=by kernel_rfl)(hw:Region.wanted ⟨d,.load t x,ty,pos,af,g⟩ (yielded l.toArray a.tmps)=true:=by rfl)(hx:a.eval x=.pointer (some p):=by rfl):Nc P l hd E Q (k::ord) done a w:=E9 p v ho hk hw hx hv h
theorem AC(o:Oper)(f:FuncId)(args:Array vV)(v:vV)(ho:l[k]?=some o)(hk:II l hd done k=true)(hw:Region.wanted o (yielded l.toArray a.tmps)=true)
  (hv:∀ w1,(execOp a.eval o).run P w1=.ok (.enter f args) w1) (hc:∀ w1,E w w1->Calls P f args w1 λe A=>e=.returned v/\E w1 A)
  (h:Nc P l hd E Q ord (k::done) (a.put o.dst v) w):Nc P l hd E Q (k::ord) done a w:=by
 simp only[II,DB,cI,cM,gP,PL]at hk;exact .inl ⟨hk.1.1.1,hk.1.1.2,hk.1.2,o,v,ho,.inl ⟨hw,λw1 q=>by rw[hv w1];exact⟨rfl,hc w1 q⟩⟩,.inl hk.2,h⟩
theorem E8(o:Oper)(ho:l[k]?=some o)(hk:WE l hd done k=true)(hw:Region.wanted o (yielded l.toArray a.tmps)=true)
  (h:∀ w1,E w w1->∀ K:Act->vW->Prop,(∀ a' w',Nc P l hd E Q ord (k::done) a' w'->K a' w')->o.wp P a w1 K Mv):Nc P l hd E Q (k::ord) done a w:=by
 simp only[WE,cI,beq_iff_eq,cM]at hk;refine .inr ⟨hk.1,hk.2,λw1 q=>?_⟩;unfold wpOp;have e:l.toArray[k]?=some o:=by simpa using ho
 simp only[e,hw,if_true];exact .inl (h w1 q _ λ_ _ A=>A)
theorem qH(o:Oper)(ho:l[k]?=some o)(h:∀ w1,E w w1->∀ K:Act->vW->Prop,(∀ a' w',Nc P l hd E Q ord (k::done) a' w'->K a' w')->o.wp P a w1 K Mv)(hk:WE l hd done k=true:=by kernel_rfl)(hw:Region.wanted o (yielded l.toArray a.tmps)=true:=by rfl):Nc P l hd E Q (k::ord) done a w:=E8 o ho hk hw h
theorem U4(hk:(Region.ready .any l.toArray (Ec l done)).isEmpty=true)(h:∀ w1,E w w1->Q a w1):Nc P l hd E Q [] done a w:=
 λw1 e=>⟨by simpa using hk,h w1 e⟩
theorem qE(h:∀ w1,E w w1->Q a w1)(hk:(Region.ready .any l.toArray (Ec l done)).isEmpty=true:=by kernel_rfl):Nc P l hd E Q [] done a w:=U4 hk h
theorem Ro{K:Act->vW->Prop}{Q:Exit->Act->vW->Prop}{v:vV}{w':vW}(hr:(execOp a.eval o).run P w=.ok (.value v) w')(h:K (a.put o.dst v) w'):o.wp P a w K Q:=by
 unfold Oper.wp;rw[hr];exact h
end mix
end
