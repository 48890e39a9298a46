/- Lemmas; each is under no condition but those that it states. -/
import Derived.Test.YtepbencaoiompaaGreatDoorPa14
namespace Go.Proofs.YtepbencaoiompaaGreatDoor
set_option linter.unusedSimpArgs false
set_option linter.unusedVariables false
set_option maxRecDepth 100000
set_option maxHeartbeats 16000000
open Go Go.RowKit
def jjz(xs ys:vM):Prop:=∀ x∈xs,∀ y∈ys,shaB x=shaB y->x=y
theorem jjd{f g:Nat}{T U:PT}{n m:jad}(hT:jdZ f T n)(hU:jdZ g U m)(hr:refB T.text=refB U.text)(H:jjz (jaH (jbG T)) (jaH (jbG U))):T.text=U.text/\jjz (jau T) (jau U):=by
 by_cases h1:T.text.size < 32
 ·by_cases h2:U.text.size < 32
  ·rw[jeH h1,jeH h2]at hr
   refine⟨hr,fun x e y o _=>?_⟩
   rw[jhp hT h1,bP]at e;rw[jhp hU h2,bP]at o;rw[e,o,hr]
  ·have:=jwx h2
   rw[<-hr,jeH h1]at this;omega
 ·by_cases h2:U.text.size < 32
  ·have:=jwx h1
   rw[hr,jeH h2]at this;omega
  ·rw[jfT h1,jfT h2]at hr
   rw[jgH h1,jgH h2]at H
   exact⟨H _ (jbE T) _ (jbE U) (jkq (jbb _) (jbb _) hr),H⟩
theorem jla(B:vL->PT)(l:vL):(jao B l).kind=if l.length=0 then 0 else if l.length=1 then 1 else if 0 < comK l then 2 else 3:=by
 unfold jao;split
 ·rfl
 ·split
  ·rfl
  ·split <;> rfl
theorem jkP(k:Nat):∀ {a b:vL},(∀ p∈a,∀ q∈b,p.l.take k=q.l.take k)->jal k a=jal k b->a=b
 | [],[],_,_=>rfl
 | [],q :: b,_,h=>by simp[jal]at h
 | p :: a,[],_,h=>by simp[jal]at h
 | p :: a,q :: b,h1,h=>by
  unfold jal at h;rw[bV,bV]at h
  obtain⟨o,z⟩:=List.cons.inj h
  have A:p.2=q.2:=(Prod.mk.inj o).2;have E:p.1.extract k p.1.size=q.1.extract k q.1.size:=(Prod.mk.inj o).1;have e:=congrArg (fun b:vB=>b.data.toList) E;simp only[jcV _ _ _ (bL _)]at e;have H:=h1 p bD q bD;have J:p.l=q.l:=by
   rw[<-dD k p.l, <-dD k q.l,H];exact congrArg _ e
  rw[jgP J A,jkP k (fun x K y O=>h1 x (bC _ K) y (bC _ O)) z]
theorem jk6(x:vU)(r:vN):∀ l:vL,look (cutL x.toNat l) (x :: r)=look l (x :: r)
 | []=>rfl
 | p :: l=>by
  have o:=jk6 x r l;unfold cutL at *;rw[dU]
  by_cases hp:jfu x.toNat p=true
  ·rw[if_pos hp,jbl,jbl,o]
  ·rw[if_neg hp,o,jbl,if_neg]
   intro e;exact hp (by unfold jfu;rw[show p.1.data.toList=x :: r from e.symm];simp)
theorem jo2{f:Nat}{l:vL}(h:jav f l){i:Nat}(hi:16<=i):cutL i l=[]:=by
 refine List.eq_nil_iff_forall_not_mem.2 fun p e=>?_
 obtain⟨o,a,r,q,z⟩:=jbv e
 have:=jco (h.size p o).2.2.1 q
 omega
theorem jgJ{a:Pair}{l:vL}(h:(a :: l).Pairwise fun p q=>Lt p.l q.l):look (a :: l) []=if a.1.size=0 then some a.2 else none:=by
 rw[jbl]
 by_cases hz:a.1.size=0
 ·rw[if_pos hz,if_pos]
  exact (bG (show a.1.data.toList.length=0 from hz)).symm
 ·rw[if_neg hz,if_neg]
  ·refine jeB fun o=>?_
   obtain⟨q,z,e⟩:=bI.1 o
   have:=(dE.1 h).1 q z
   rw[show q.l=[]from e]at this;exact not_lt_nil _ this
  ·intro e
   exact hz (by show a.1.data.toList.length=0;rw[show a.1.data.toList=[]from e.symm];rfl)
theorem jj9(B C:vL->PT)(l m:vL)(hn:jao B l=jao C m)(h:l.length<=1\/m.length<=1):l=m:=by
 have e:=congrArg jad.kind hn;rw[jla,jla]at e
 by_cases l0:l.length=0
 ·rw[if_pos l0]at e
  have o:m.length=0:=by
   by_cases o:m.length=0
   ·exact o
   ·rw[if_neg o]at e;split at e
    ·cases e
    ·split at e <;> cases e
  rw[bG l0,bG o]
 by_cases o:m.length=0
 ·rw[if_pos o,if_neg l0]at e;split at e
  ·cases e
  ·split at e <;> cases e
 rw[if_neg l0,if_neg o]at e;have A:l.length=1:=by
  by_cases A:l.length=1
  ·exact A
  ·have z:m.length=1:=vO
   rw[if_neg A,if_pos z]at e;split at e <;> cases e
 rw[if_pos A]at e;have z:m.length=1:=by
  by_cases z:m.length=1
  ·exact z
  ·rw[if_neg z]at e;split at e <;> cases e
 have J:jao B l=⟨1,(l.getD 0 pd).1,(l.getD 0 pd).2,jar 16⟩:=by unfold jao;rw[if_neg l0,if_pos A]
 have K:jao C m=⟨1,(m.getD 0 pd).1,(m.getD 0 pd).2,jar 16⟩:=by unfold jao;rw[if_neg o,if_pos z]
 rw[J,K]at hn
 obtain⟨_,E,H,_⟩:=jad.mk.inj hn
 obtain⟨p,rfl⟩:=fJ.1 A
 obtain⟨q,rfl⟩:=fJ.1 z
 have E:p.1=q.1:=E;have H:p.2=q.2:=H;rw[Prod.ext E H]
theorem jmU(w:vW):∀ (f:Nat) (l m:vL),jav f l->jav f m->jjz (jau (jab (f+1) l)) (jau (jab (f+1) m))->(jab (f+1) l).text=(jab (f+1) m).text->l=m:=by
 intro f;induction f with
 | zero =>
  intro l m A E _ ht;exact jj9 _ _ l m (jdu w (good 0 l A).1 (good 0 m E).1 ht) (.inl (jbD A))
 | succ f ih =>
  intro l m A E hA ht;have hn:jao (jab (f+1)) l=jao (jab (f+1)) m:=jdu w (good (f+1) l A).1 (good (f+1) m E).1 ht
  by_cases hs:l.length<=1\/m.length<=1
  ·exact jj9 _ _ l m hn hs
  have H:=congrArg jad.kind hn;rw[jla,jla,if_neg (show ¬ l.length=0 by omega),if_neg (show ¬ l.length=1 by omega),if_neg (show ¬ m.length=0 by omega),if_neg (show ¬ m.length=1 by omega)]at H;have Q:2<=l.length:=vO
  have X:2<=m.length:=vO
  have a9:=jby A Q;have b0:=jby E X;have eT:∀ l:vL,jau (jab (f+1+1) l)=jaR (jao (jab (f+1)) l) :: jaH (jat (jab (f+1)) l):=fun l=>by
   show jau (.mk (jaR (jao (jab (f+1)) l)) (jat (jab (f+1)) l))=_;rw[jau]
  rw[eT,eT]at hA;have Z:jjz (jaH (jat (jab (f+1)) l)) (jaH (jat (jab (f+1)) m)):=fun x hx y hy=>hA x (bC _ hx) y (bC _ hy)
  by_cases kl:0 < comK l
  ·rw[if_pos kl]at H
   have J:0 < comK m:=by
    by_cases J:0 < comK m
    ·exact J
    ·rw[if_neg J]at H;cases H
   have a1:∀ {l:vL},jav (f+1) l->2<=l.length->0 < comK l->jav f (jal (comK l) l):=fun {l} h K H=>by
    have O:=jby h K;exact (jcx (comK l) h (fun p hp q hq=>(O p hp).1.trans (O q hq).1.symm) (fun p hp=>(O p hp).2)).mono vO
   have a5:∀ {l:vL},2<=l.length->jal (comK l) l≠[]:=fun {l} K e=>by have:=jaJ (comK l) l;rw[e]at this;simp at this;omega
   have eN:∀ {l:vL},2<=l.length->0 < comK l->jao (jab (f+1)) l=⟨2,(l.getD 0 pd).1.extract 0 (comK l),⟨#[]⟩,refB (jab (f+1) (jal (comK l) l)).text :: jar 15⟩:=fun {l} K H=>by
    unfold jao;rw[if_neg vO,if_neg vO,if_pos H]
   have eB:∀ {l:vL},2<=l.length->0 < comK l->jat (jab (f+1)) l=jbG (jab (f+1) (jal (comK l) l)):=fun {l} K H=>by
    unfold jat;rw[if_neg vO,if_pos H]
   rw[eN Q kl,eN X J]at hn;rw[eB Q kl,eB X J]at Z
   obtain⟨_,hp,_,hr⟩:=jad.mk.inj hn
   obtain⟨hr,_⟩:=List.cons.inj hr
   have gm:∀ {l:vL},2<=l.length->l.getD 0 pd∈l:=fun {l} h=>by rw[bE,bA vO];exact dY _
   have a6:∀ {l:vL},jav (f+1) l->2<=l.length->((l.getD 0 pd).1.extract 0 (comK l)).size=comK l:=fun {l} h K=>by
    have:=(jby h K _ (gm K)).2
    rw[cL];omega
   have a7:comK l=comK m:=by rw[<-a6 A Q, <-a6 E X,hp]
   have a8:∀ {l:vL},(l.getD 0 pd).l.take (comK l)=((l.getD 0 pd).1.extract 0 (comK l)).data.toList:=fun {l}=>by
    rw[dP,dZ,dO];simp
   obtain⟨e1,e2⟩:=jjd ((good f _ (a1 A Q kl)).2.1 (a5 Q)) ((good f _ (a1 E X J)).2.1 (a5 X)) hr Z
   have e3:=ih _ _ (a1 A Q kl) (a1 E X J) e2 e1;rw[<-a7]at e3;refine jkP (comK l) (fun p b1 q hq=>?_) e3;rw[(a9 p b1).1,a8,hp, <-a8, <-(b0 q hq).1,a7]
  ·rw[if_neg kl]at H
   have J:¬ 0 < comK m:=by
    by_cases J:0 < comK m
    ·rw[if_pos J]at H;cases H
    ·exact J
   have eN:∀ {l:vL},2<=l.length->¬ 0 < comK l->jao (jab (f+1)) l=⟨3,⟨#[]⟩,if (l.getD 0 pd).1.size=0 then (l.getD 0 pd).2 else ⟨#[]⟩,(List.range 16).map fun i=>if (cutL i l).length=0 then ⟨#[]⟩else refB (jab (f+1) (jal 1 (cutL i l))).text⟩:=fun {l} K H=>by
    unfold jao;rw[if_neg vO,if_neg vO,if_neg H]
   have eB:∀ {l:vL},2<=l.length->¬ 0 < comK l->jat (jab (f+1)) l=(List.range 16).flatMap fun i=>if (cutL i l).length=0 then []else jbG (jab (f+1) (jal 1 (cutL i l))):=fun {l} K H=>by
    unfold jat;rw[if_neg vO,if_neg H]
   rw[eN Q kl,eN X J]at hn;rw[eB Q kl,eB X J]at Z
   obtain⟨_,_,o,b2⟩:=jad.mk.inj hn
   have a3:∀ {l:vL} {i:Nat},(cutL i l).length≠0->jal 1 (cutL i l)≠[]:=fun {l i} hi e=>by have:=jaJ 1 (cutL i l);rw[e]at this;simp at this;omega
   have a2:∀ {l:vL} {i:Nat},jav (f+1) l->(cutL i l).length≠0->jdZ f (jab (f+1) (jal 1 (cutL i l))) (jao (jab f) (jal 1 (cutL i l))):=fun {l i} h hi=>(good f _ (jd8 i h)).2.1 (a3 hi);have a4:∀ i,cutL i l=cutL i m:=by
    intro i
    by_cases hi:i < 16
    ·have z:=congrArg (fun L:vM=>L[i]?) b2
     simp only[cA,fB hi,fZ,Option.some.injEq]at z;have hz:(⟨#[]⟩:vB).size=0:=rfl
     by_cases cl:(cutL i l).length=0
     ·rw[if_pos cl]at z
      by_cases cm:(cutL i m).length=0
      ·rw[bG cl,bG cm]
      ·rw[if_neg cm]at z
       have:=(a2 E cm).may.1.pos
       rw[<-z]at this;exact absurd hz this
     ·rw[if_neg cl]at z
      by_cases cm:(cutL i m).length=0
      ·rw[if_pos cm]at z
       have:=(a2 A cl).may.1.pos
       rw[z]at this;exact absurd hz this
      ·rw[if_neg cm]at z
       have a0:∀ {l:vL},(cutL i l).length≠0->∀ x∈jaH (jbG (jab (f+1) (jal 1 (cutL i l)))),x∈jaH ((List.range 16).flatMap fun i=>if (cutL i l).length=0 then []else jbG (jab (f+1) (jal 1 (cutL i l)))):=fun {l} hc x hx=>by
        obtain⟨T',b3,b4⟩:=jbB.1 hx
        refine jbB.2 ⟨T',cP.2 ⟨i,dR.2 hi,?_⟩,b4⟩;rw[if_neg hc];exact b3
       obtain⟨e1,e2⟩:=jjd (a2 A cl) (a2 E cm) z (fun x hx y hy=>Z x (a0 cl x hx) y (a0 cm y hy))
       have e3:=ih _ _ (jd8 i A) (jd8 i E) e2 e1;refine jkP 1 (fun p hp q hq=>?_) e3
       obtain⟨_,a,r,h1,K⟩:=jbv hp
       obtain⟨_,b,t,h3,h4⟩:=jbv hq
       rw[h1,h3,dX.1 (K.trans h4.symm)];rfl
    ·rw[jo2 A vO,jo2 E vO]
   refine ji7 A.rise E.rise fun k=>?_;cases k with
   | cons x r=>rw[<-jk6 x r l, <-jk6 x r m,a4]
   | nil =>
    match l,m,Q,X,o,A,E with
    | a :: l',b :: m',_,_,o,A,E =>
     rw[jgJ A.rise,jgJ E.rise];have o:(if a.1.size=0 then a.2 else (⟨#[]⟩:vB))=if b.1.size=0 then b.2 else ⟨#[]⟩:=o
     have sa:=(A.size a bD).2.2.2.1;have sb:=(E.size b bD).2.2.2.1;have hz:(⟨#[]⟩:vB).size=0:=rfl
     by_cases za:a.1.size=0
     ·rw[if_pos za]at o ⊢
      by_cases zb:b.1.size=0
      ·rw[if_pos zb]at o ⊢;rw[o]
      ·rw[if_neg zb]at o;rw[o]at sa;omega
     ·rw[if_neg za]at o ⊢
      by_cases zb:b.1.size=0
      ·rw[if_pos zb]at o;rw[<-o]at sb;omega
      ·rw[if_neg zb]
theorem jlj:∀ {a b:vN},jcR a=jcR b->a=b
 | [],[],_=>rfl
 | [],y :: b,h=>by simp[jcR]at h
 | x :: a,[],h=>by simp[jcR]at h
 | x :: a,y :: b,h=>by
  have h:(x >>> 4) ::(x &&& 15) :: jcR a=(y >>> 4) ::(y &&& 15) :: jcR b:=h;injection h with h1 h;injection h with h2 h;have e:=congrArg UInt8.toNat h1;have o:=congrArg UInt8.toNat h2;rw[jmP,jmP]at e;rw[jmQ,jmQ]at o;rw[jlj h,show x=y from dX.1 vO]
theorem jpU:∀ {a b:vL},jaO a=jaO b->a=b
 | [],[],_=>rfl
 | [],q :: b,h=>by simp[jaO]at h
 | p :: a,[],h=>by simp[jaO]at h
 | p :: a,q :: b,h=>by
  unfold jaO at h;rw[bV,bV]at h;injection h with h1 h2;injection h1 with h3 h4;have e:jcR p.k=jcR q.k:=congrArg (fun b:vB=>b.data.toList) h3;rw[jgP (jlj e) h4,jpU h2]
theorem jwO(w:vW){l m:vL}(hl:jaD l=0)(hm:jaD m=0)(hA:jjz (jau (jay l)) (jau (jay m)))(ht:(jay l).text=(jay m).text):l=m:=
 jpU (jmU w 12 _ _ (jbt (jaE hl)) (jbt (jaE hm)) hA ht)
section
section mixr
variable {P:Program} {l:List Oper} {lr:Nat} {R:Act->vW->Prop}
def jes(R:Act->vW->Prop):Exit->Act->vW->Prop:=fun e a w=>e=.normal/\R a w
theorem jj4:¬ LetsOut (jes R):=fun ⟨_,_,h,_⟩=>by cases h
theorem jhK{o:Oper}{a:Act}{w:vW}{K K':Act->vW->Prop}{Q:Exit->Act->vW->Prop}(hd:∀ c,o.op≠.defer c)(hK:∀ a w,K a w->K' a w)(h:o.wp P a w K (jes R)) :
  o.wpIn (Fence.wide.inRound lr) 0 P a w K' Q:=by
 unfold Oper.wp at h
 refine⟨fun _ _=>trivial,?_⟩
 rw[Oper.semAt_eq _ _ _ hd];generalize (execOp a.eval o).run P w=r at *;cases r with
 | ok x w' =>
  cases x with
  | value v=>exact hK _ _ h
  | skip=>exact hK _ _ h
  | defer d=>exact hK _ _ h
  | enter f args =>
   refine bB (fun q=>absurd q (by simp[Fence.wide])) (CallsIn.inRound lr (callsIn_wide.2 (Calls.mono h fun e A z=>?_)));cases e with
   | returned v=>exact hK _ _ z
   | panicked c=>cases z.1
   | outgrown=>exact absurd z jj4
  | row r args=>exact bB (fun q=>absurd q (by simp[Fence.wide])) (fun c cs _=>let ⟨v,w',r,s⟩:=h c cs;⟨v,w',hK _ _ r,stepsIn_wide.2 s⟩)
  | round l f t a b=>exact h.elim
  | _=>exact h.elim
 | halt x w' =>
  cases x <;> first | exact h.elim | cases h.1
theorem jlX(hnd:jk9 l.toArray=true):∀ (q:Nat) (e:Array Bool) (a:Act) (w:vW),wpAny P .any l.toArray (jes R) q e a w->wpAnyIn (Fence.wide.inRound lr) 0 P .any l.toArray (jes R) q e a w:=by
 have E:∀ (i:Nat) (o:Oper),l.toArray[i]?=some o->∀ c,o.op≠.defer c:=by
  intro i o A c H;unfold jk9 at hnd;rw[dN]at hnd
  have:=hnd o (by simpa using bJ (by simpa using A))
  rw[H]at this;simp at this
 intro q;induction q with
 | zero=>exact fun _ _ _ h=>h
 | succ q ih =>
  intro e a w h
  refine⟨h.1,fun i J=>?_⟩
  have z:=h.2 i J;unfold wpOp at z;unfold wpOpIn;split
  ·rename_i A;simp only[A]at z;exact ih _ _ _ z
  ·rename_i o A
   simp only[A]at z;split
   ·rename_i hw;simp only[hw,if_true]at z
    rcases z with z | z
    ·exact jhK (E i o A) (fun a w h=>ih _ a w h) z
    ·exact absurd z.2 jj4
   ·rename_i hw;simp only[hw]at z
    exact⟨fun _ _=>trivial,ih _ _ _ z⟩
theorem jlM(hm:P.follows .mixedOrders=true)(hnd:jk9 l.toArray=true){id:Nat}{Q:Exit->Act->vW->Prop}{a:Act}{w:vW}(hq:∀ a w,R a w->Q .normal a w)
  (h:wpAny P .any l.toArray (jes R) l.toArray.size (Array.replicate l.toArray.size false) a w.drew):(Code.region id l.toArray true).wpIn (Fence.wide.inRound lr) 0 P Q a w:=
 wpIn_mono (wpIn_region_any hm (jlX hnd _ _ _ _ h)) fun e a w ⟨o,q⟩=>by subst o;exact hq _ _ q
theorem jhL(ord hd:List Nat)(E:vW->vW->Prop)(hE:∀ w,E w w)(hT:∀ x y z,E x y->E y z->E x z){id:Nat}{Q:Exit->Act->vW->Prop}{a:Act}{w:vW}
  (hm:P.follows .mixedOrders=true) (hnd:jk9 l.toArray=true) (hs:Region.noSelect l.toArray=true) (hl:ord.length=l.toArray.size)
  (h:Mix P l hd E (fun a w=>Q .normal a w) ord [] a w.drew):(Code.region id l.toArray true).wpIn (Fence.wide.inRound lr) 0 P Q a w:=by
 refine jlM (R:=fun a w=>Q .normal a w) hm hnd (fun _ _ h=>h) ?_;rw[<-hl]
 have:=jeO hE hT hs ord _ _ _ h
 unfold jbi at this;rw[hl]at this ⊢;exact jhc hE (fun _ _ h=>⟨rfl,h⟩) _ _ _ _ this
theorem jnv{ops:Array Oper}{rest:List Oper}{o:Oper}{a:Act}{w:vW}{Q:Exit->Act->vW->Prop}{T:TypeId}{cs:List vV}(hrun:∀ w,(Instr.alloc T true (.tuple #[])).run P w=.ok (.pointer (some ⟨w.heap.size,0,none⟩)) (w.alloc (.cells cs.toArray T)))(hgd:o.guard=none)(ho:o.op=.alloc T)
  (h:∀ W,Blk W w.heap.size (.cells cs.toArray T)->Ext w W->wpListIn (Fence.wide.inRound lr) 0 P ops Q rest (a.put o.dst (.pointer (some ⟨w.heap.size,0,none⟩))) W):wpListIn (Fence.wide.inRound lr) 0 P ops Q (o :: rest) a w:=
 wpListIn_plain hgd fun K e=>jhK (R:=fun _ _=>False) (by rw[ho];intro c q;cases q) (fun _ _ h=>h) (jcD (v:=.pointer (some ⟨w.heap.size,0,none⟩)) (w':=w.alloc (.cells cs.toArray T)) (by simp only[execOp,ho,bS,hrun,Result.andThen,cJ]) (e _ _ (h _ (Blk.new w _) ((ExtR w).alloc _))))
theorem jlN{ops:Array Oper}{rest:List Oper}{o:Oper}{a:Act}{w:vW}{Q:Exit->Act->vW->Prop}{T T2:TypeId}{x y:Operand}{b:Nat}{old vs:List vV}(hgd:o.guard=none)(ho:o.op=.store T x y)(hx:a.eval x=.pointer (some ⟨b,0,none⟩))(hy:a.eval y=.agg vs.toArray)
  (hB:Blk w b (.cells old.toArray T2)) (hl:old.length=vs.length) (hi:(P.info? T).map (·.size)=some vs.length) (h1:∀ v∈vs,v.oneCell'=true)
  (h:∀ W,Blk W b (.cells vs.toArray T2)->jag (fun z=>z=b) w W->wpListIn (Fence.wide.inRound lr) 0 P ops Q rest (a.put o.dst undef) W):wpListIn (Fence.wide.inRound lr) 0 P ops Q (o :: rest) a w:=by
 refine wpListIn_plain hgd fun K e=>jhK (R:=fun _ _=>False) (by rw[ho];intro c q;cases q) (fun _ _ h=>h) ?_;refine wp_store_mid T x y ho b 0 vs.toArray hx hy (by have:=jlC hB;rw[hl]at this;simpa using this) (by simpa using hi) (all_oneCell_toArray h1) (e _ _ (h _ ?_ (jag.oneSetCells b vs 0 w)))
 have:=Blk.setCells vs 0 w old hB vO
 rw[iS vO]at this;simpa using this
end mixr
end
end Go.Proofs.YtepbencaoiompaaGreatDoor
