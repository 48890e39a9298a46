/- Lemmas; each is under no condition but those that it states. -/
import Derived.Test.YtdofbjccfkaijaaGreatDoorPn16
namespace Go.Proofs.YtdofbjccfkaijaaGreatDoor
set_option linter.unusedSimpArgs false
set_option linter.unusedVariables false
set_option maxRecDepth 100000
set_option maxHeartbeats 16000000
open Go Go.RowKit
def jjr(xs ys:vM):Prop:=∀ x∈xs,∀ y∈ys,shaB x=shaB y->x=y
theorem jje{f g:Nat}{T U:PT}{n m:jad}(hT:jdO f T n)(hU:jdO g U m)(hr:refB T.text=refB U.text)(H:jjr (jaH (jbF T)) (jaH (jbF U))):T.text=U.text/\jjr (jax T) (jax U):=by
 by_cases h1:T.text.size < 32
 ·by_cases h2:U.text.size < 32
  ·rw[jfM h1,jfM h2]at hr
   refine⟨hr,fun x e y o _=>?_⟩
   rw[jhm hT h1,bZ]at e;rw[jhm hU h2,bZ]at o;rw[e,o,hr]
  ·have:=jv6 h2
   rw[<-hr,jfM h1]at this;omega
 ·by_cases h2:U.text.size < 32
  ·have:=jv6 h1
   rw[hr,jfM h2]at this;omega
  ·rw[jgS h1,jgS h2]at hr
   rw[jgF h1,jgF h2]at H
   exact⟨H _ (jbX T) _ (jbX U) (jke (jbk _) (jbk _) hr),H⟩
theorem jkP(B:vL->PT)(l:vL):(jap B l).kind=if l.length=0 then 0 else if l.length=1 then 1 else if 0 < comK l then 2 else 3:=by
 unfold jap;split
 ·rfl
 ·split
  ·rfl
  ·split <;> rfl
theorem jkx(k:Nat):∀ {a b:vL},(∀ p∈a,∀ q∈b,p.l.take k=q.l.take k)->jak k a=jak k b->a=b
 | [],[],_,_=>rfl
 | [],q :: b,_,h=>by simp[jak]at h
 | p :: a,[],_,h=>by simp[jak]at h
 | p :: a,q :: b,h1,h=>by
  unfold jak at h;rw[bV,bV]at h
  obtain⟨o,z⟩:=List.cons.inj h
  have A:p.2=q.2:=(Prod.mk.inj o).2;have E:p.1.extract k p.1.size=q.1.extract k q.1.size:=(Prod.mk.inj o).1;have e:=congrArg (fun b:vB=>b.data.toList) E;simp only[jcO _ _ _ (bL _)]at e;have H:=h1 p bH q bH;have J:p.l=q.l:=by
   rw[<-cX k p.l, <-cX k q.l,H];exact congrArg _ e
  rw[jgN J A,jkx k (fun x K y O=>h1 x (bE _ K) y (bE _ O)) z]
theorem jkK(x:vU)(r:vN):∀ l:vL,look (cutL x.toNat l) (x :: r)=look l (x :: r)
 | []=>rfl
 | p :: l=>by
  have o:=jkK x r l;unfold cutL at *;rw[dH]
  by_cases hp:jeU x.toNat p=true
  ·rw[if_pos hp,jaO,jaO,o]
  ·rw[if_neg hp,o,jaO,if_neg]
   intro e;exact hp (by unfold jeU;rw[show p.1.data.toList=x :: r from e.symm];simp)
theorem joD{f:Nat}{l:vL}(h:jas f l){i:Nat}(hi:16<=i):cutL i l=[]:=by
 refine List.eq_nil_iff_forall_not_mem.2 fun p e=>?_
 obtain⟨o,a,r,z,A⟩:=jbz e
 have:=jfi (h.size p o).2.2.1 z
 omega
theorem jgI{a:Pair}{l:vL}(h:(a :: l).Pairwise fun p q=>Lt p.l q.l):look (a :: l) []=if a.1.size=0 then some a.2 else none:=by
 rw[jaO]
 by_cases hz:a.1.size=0
 ·rw[if_pos hz,if_pos]
  exact (bD (show a.1.data.toList.length=0 from hz)).symm
 ·rw[if_neg hz,if_neg]
  ·refine jdj fun o=>?_
   obtain⟨q,z,e⟩:=bJ.1 o
   have:=(cS.1 h).1 q z
   rw[show q.l=[]from e]at this;exact not_lt_nil _ this
  ·intro e
   exact hz (by show a.1.data.toList.length=0;rw[show a.1.data.toList=[]from e.symm];rfl)
theorem jjZ(B C:vL->PT)(l m:vL)(hn:jap B l=jap C m)(h:l.length<=1\/m.length<=1):l=m:=by
 have e:=congrArg jad.kind hn;rw[jkP,jkP]at e
 by_cases l0:l.length=0
 ·rw[if_pos l0]at e
  have o:m.length=0:=by
   by_cases o:m.length=0
   ·exact o
   ·rw[if_neg o]at e;split at e
    ·cases e
    ·split at e <;> cases e
  rw[bD l0,bD o]
 by_cases o:m.length=0
 ·rw[if_pos o,if_neg l0]at e;split at e
  ·cases e
  ·split at e <;> cases e
 rw[if_neg l0,if_neg o]at e;have A:l.length=1:=by
  by_cases A:l.length=1
  ·exact A
  ·have z:m.length=1:=vO
   rw[if_neg A,if_pos z]at e;split at e <;> cases e
 rw[if_pos A]at e;have z:m.length=1:=by
  by_cases z:m.length=1
  ·exact z
  ·rw[if_neg z]at e;split at e <;> cases e
 have J:jap B l=⟨1,(l.getD 0 pd).1,(l.getD 0 pd).2,jam 16⟩:=by unfold jap;rw[if_neg l0,if_pos A]
 have K:jap C m=⟨1,(m.getD 0 pd).1,(m.getD 0 pd).2,jam 16⟩:=by unfold jap;rw[if_neg o,if_pos z]
 rw[J,K]at hn
 obtain⟨_,E,H,_⟩:=jad.mk.inj hn
 obtain⟨p,rfl⟩:=fN.1 A
 obtain⟨q,rfl⟩:=fN.1 z
 have E:p.1=q.1:=E;have H:p.2=q.2:=H;rw[Prod.ext E H]
theorem jms(w:vW):∀ (f:Nat) (l m:vL),jas f l->jas f m->jjr (jax (jac (f+1) l)) (jax (jac (f+1) m))->(jac (f+1) l).text=(jac (f+1) m).text->l=m:=by
 intro f;induction f with
 | zero =>
  intro l m A E _ ht;exact jjZ _ _ l m (jdl w (good 0 l A).1 (good 0 m E).1 ht) (.inl (jbI A))
 | succ f ih =>
  intro l m A E hA ht;have hn:jap (jac (f+1)) l=jap (jac (f+1)) m:=jdl w (good (f+1) l A).1 (good (f+1) m E).1 ht
  by_cases hs:l.length<=1\/m.length<=1
  ·exact jjZ _ _ l m hn hs
  have H:=congrArg jad.kind hn;rw[jkP,jkP,if_neg (show ¬ l.length=0 by omega),if_neg (show ¬ l.length=1 by omega),if_neg (show ¬ m.length=0 by omega),if_neg (show ¬ m.length=1 by omega)]at H;have Q:2<=l.length:=vO
  have X:2<=m.length:=vO
  have a9:=jbl A Q;have b0:=jbl E X;have eT:∀ l:vL,jax (jac (f+1+1) l)=jaP (jap (jac (f+1)) l) :: jaH (jav (jac (f+1)) l):=fun l=>by
   show jax (.mk (jaP (jap (jac (f+1)) l)) (jav (jac (f+1)) l))=_;rw[jax]
  rw[eT,eT]at hA;have Z:jjr (jaH (jav (jac (f+1)) l)) (jaH (jav (jac (f+1)) m)):=fun x hx y hy=>hA x (bE _ hx) y (bE _ hy)
  by_cases kl:0 < comK l
  ·rw[if_pos kl]at H
   have J:0 < comK m:=by
    by_cases J:0 < comK m
    ·exact J
    ·rw[if_neg J]at H;cases H
   have a1:∀ {l:vL},jas (f+1) l->2<=l.length->0 < comK l->jas f (jak (comK l) l):=fun {l} h K H=>by
    have O:=jbl h K;exact (jb9 (comK l) h (fun p hp q hq=>(O p hp).1.trans (O q hq).1.symm) (fun p hp=>(O p hp).2)).mono vO
   have a5:∀ {l:vL},2<=l.length->jak (comK l) l≠[]:=fun {l} K e=>by have:=jaJ (comK l) l;rw[e]at this;simp at this;omega
   have eN:∀ {l:vL},2<=l.length->0 < comK l->jap (jac (f+1)) l=⟨2,(l.getD 0 pd).1.extract 0 (comK l),⟨#[]⟩,refB (jac (f+1) (jak (comK l) l)).text :: jam 15⟩:=fun {l} K H=>by
    unfold jap;rw[if_neg vO,if_neg vO,if_pos H]
   have eB:∀ {l:vL},2<=l.length->0 < comK l->jav (jac (f+1)) l=jbF (jac (f+1) (jak (comK l) l)):=fun {l} K H=>by
    unfold jav;rw[if_neg vO,if_pos H]
   rw[eN Q kl,eN X J]at hn;rw[eB Q kl,eB X J]at Z
   obtain⟨_,hp,_,hr⟩:=jad.mk.inj hn
   obtain⟨hr,_⟩:=List.cons.inj hr
   have gm:∀ {l:vL},2<=l.length->l.getD 0 pd∈l:=fun {l} h=>by rw[bG,bA vO];exact dG _
   have a6:∀ {l:vL},jas (f+1) l->2<=l.length->((l.getD 0 pd).1.extract 0 (comK l)).size=comK l:=fun {l} h K=>by
    have:=(jbl h K _ (gm K)).2
    rw[cL];omega
   have a7:comK l=comK m:=by rw[<-a6 A Q, <-a6 E X,hp]
   have a8:∀ {l:vL},(l.getD 0 pd).l.take (comK l)=((l.getD 0 pd).1.extract 0 (comK l)).data.toList:=fun {l}=>by
    rw[dA,fL,dU];simp
   obtain⟨e1,e2⟩:=jje ((good f _ (a1 A Q kl)).2.1 (a5 Q)) ((good f _ (a1 E X J)).2.1 (a5 X)) hr Z
   have e3:=ih _ _ (a1 A Q kl) (a1 E X J) e2 e1;rw[<-a7]at e3;refine jkx (comK l) (fun p b1 q hq=>?_) e3;rw[(a9 p b1).1,a8,hp, <-a8, <-(b0 q hq).1,a7]
  ·rw[if_neg kl]at H
   have J:¬ 0 < comK m:=by
    by_cases J:0 < comK m
    ·rw[if_pos J]at H;cases H
    ·exact J
   have eN:∀ {l:vL},2<=l.length->¬ 0 < comK l->jap (jac (f+1)) l=⟨3,⟨#[]⟩,if (l.getD 0 pd).1.size=0 then (l.getD 0 pd).2 else ⟨#[]⟩,(List.range 16).map fun i=>if (cutL i l).length=0 then ⟨#[]⟩else refB (jac (f+1) (jak 1 (cutL i l))).text⟩:=fun {l} K H=>by
    unfold jap;rw[if_neg vO,if_neg vO,if_neg H]
   have eB:∀ {l:vL},2<=l.length->¬ 0 < comK l->jav (jac (f+1)) l=(List.range 16).flatMap fun i=>if (cutL i l).length=0 then []else jbF (jac (f+1) (jak 1 (cutL i l))):=fun {l} K H=>by
    unfold jav;rw[if_neg vO,if_neg H]
   rw[eN Q kl,eN X J]at hn;rw[eB Q kl,eB X J]at Z
   obtain⟨_,_,o,b2⟩:=jad.mk.inj hn
   have a3:∀ {l:vL} {i:Nat},(cutL i l).length≠0->jak 1 (cutL i l)≠[]:=fun {l i} hi e=>by have:=jaJ 1 (cutL i l);rw[e]at this;simp at this;omega
   have a2:∀ {l:vL} {i:Nat},jas (f+1) l->(cutL i l).length≠0->jdO f (jac (f+1) (jak 1 (cutL i l))) (jap (jac f) (jak 1 (cutL i l))):=fun {l i} h hi=>(good f _ (jdq i h)).2.1 (a3 hi);have a4:∀ i,cutL i l=cutL i m:=by
    intro i
    by_cases hi:i < 16
    ·have z:=congrArg (fun L:vM=>L[i]?) b2
     simp only[cA,fA hi,gO,Option.some.injEq]at z;have hz:(⟨#[]⟩:vB).size=0:=rfl
     by_cases cl:(cutL i l).length=0
     ·rw[if_pos cl]at z
      by_cases cm:(cutL i m).length=0
      ·rw[bD cl,bD cm]
      ·rw[if_neg cm]at z
       have:=(a2 E cm).may.1.pos
       rw[<-z]at this;exact absurd hz this
     ·rw[if_neg cl]at z
      by_cases cm:(cutL i m).length=0
      ·rw[if_pos cm]at z
       have:=(a2 A cl).may.1.pos
       rw[z]at this;exact absurd hz this
      ·rw[if_neg cm]at z
       have a0:∀ {l:vL},(cutL i l).length≠0->∀ x∈jaH (jbF (jac (f+1) (jak 1 (cutL i l)))),x∈jaH ((List.range 16).flatMap fun i=>if (cutL i l).length=0 then []else jbF (jac (f+1) (jak 1 (cutL i l)))):=fun {l} hc x hx=>by
        obtain⟨T',b3,b4⟩:=jbD.1 hx
        refine jbD.2 ⟨T',cR.2 ⟨i,dW.2 hi,?_⟩,b4⟩;rw[if_neg hc];exact b3
       obtain⟨e1,e2⟩:=jje (a2 A cl) (a2 E cm) z (fun x hx y hy=>Z x (a0 cl x hx) y (a0 cm y hy))
       have e3:=ih _ _ (jdq i A) (jdq i E) e2 e1;refine jkx 1 (fun p hp q hq=>?_) e3
       obtain⟨_,a,r,h1,K⟩:=jbz hp
       obtain⟨_,b,t,h3,h4⟩:=jbz hq
       rw[h1,h3,dP.1 (K.trans h4.symm)];rfl
    ·rw[joD A vO,joD E vO]
   refine jgU A.rise E.rise fun k=>?_;cases k with
   | cons x r=>rw[<-jkK x r l, <-jkK x r m,a4]
   | nil =>
    match l,m,Q,X,o,A,E with
    | a :: l',b :: m',_,_,o,A,E =>
     rw[jgI A.rise,jgI E.rise];have o:(if a.1.size=0 then a.2 else (⟨#[]⟩:vB))=if b.1.size=0 then b.2 else ⟨#[]⟩:=o
     have sa:=(A.size a bH).2.2.2.1;have sb:=(E.size b bH).2.2.2.1;have hz:(⟨#[]⟩:vB).size=0:=rfl
     by_cases za:a.1.size=0
     ·rw[if_pos za]at o ⊢
      by_cases zb:b.1.size=0
      ·rw[if_pos zb]at o ⊢;rw[o]
      ·rw[if_neg zb]at o;rw[o]at sa;omega
     ·rw[if_neg za]at o ⊢
      by_cases zb:b.1.size=0
      ·rw[if_pos zb]at o;rw[<-o]at sb;omega
      ·rw[if_neg zb]
theorem jkZ:∀ {a b:vN},jcv a=jcv b->a=b
 | [],[],_=>rfl
 | [],y :: b,h=>by simp[jcv]at h
 | x :: a,[],h=>by simp[jcv]at h
 | x :: a,y :: b,h=>by
  have h:(x >>> 4) ::(x &&& 15) :: jcv a=(y >>> 4) ::(y &&& 15) :: jcv b:=h;injection h with h1 h;injection h with h2 h;have e:=congrArg UInt8.toNat h1;have o:=congrArg UInt8.toNat h2;rw[jmm,jmm]at e;rw[jmn,jmn]at o;rw[jkZ h,show x=y from dP.1 vO]
theorem jpI:∀ {a b:vL},jaR a=jaR b->a=b
 | [],[],_=>rfl
 | [],q :: b,h=>by simp[jaR]at h
 | p :: a,[],h=>by simp[jaR]at h
 | p :: a,q :: b,h=>by
  unfold jaR at h;rw[bV,bV]at h;injection h with h1 h2;injection h1 with h3 h4;have e:jcv p.k=jcv q.k:=congrArg (fun b:vB=>b.data.toList) h3;rw[jgN (jkZ e) h4,jpI h2]
theorem jww(w:vW){l m:vL}(hl:jaw l=0)(hm:jaw m=0)(hA:jjr (jax (jaF l)) (jax (jaF m)))(ht:(jaF l).text=(jaF m).text):l=m:=
 jpI (jms w 12 _ _ (jbw (jaA hl)) (jbw (jaA hm)) hA ht)
