/- Lemmas; each is under no condition but those that it states. -/
import Derived.Test.YtfjmkebdhojanaaGreatDoorPt16
namespace Go.Proofs.YtfjmkebdhojanaaGreatDoor
set_option linter.unusedSimpArgs false
set_option linter.unusedVariables false
set_option maxRecDepth 100000
set_option maxHeartbeats 16000000
open Go Go.RowKit
def jjv(xs ys:vM):Prop:=∀ x∈xs,∀ y∈ys,shaB x=shaB y->x=y
theorem jjf{f g:Nat}{T U:PT}{n m:jad}(hT:jdM f T n)(hU:jdM g U m)(hr:refB T.text=refB U.text)(H:jjv (jaA (jbp T)) (jaA (jbp U))):T.text=U.text/\jjv (jav T) (jav U):=by
 by_cases h1:T.text.size < 32
 ·by_cases h2:U.text.size < 32
  ·rw[jfN h1,jfN h2]at hr
   refine⟨hr,fun x e y o _=>?_⟩
   rw[jhh hT h1,bY]at e;rw[jhh hU h2,bY]at o;rw[e,o,hr]
  ·have:=jv0 h2
   rw[<-hr,jfN h1]at this;omega
 ·by_cases h2:U.text.size < 32
  ·have:=jv0 h1
   rw[hr,jfN h2]at this;omega
  ·rw[jgO h1,jgO h2]at hr
   rw[jgA h1,jgA h2]at H
   exact⟨H _ (jbW T) _ (jbW U) (jkk (jbd _) (jbd _) hr),H⟩
theorem jkV(B:vL->PT)(l:vL):(jar B l).kind=if l.length=0 then 0 else if l.length=1 then 1 else if 0 < comK l then 2 else 3:=by
 unfold jar;split
 ·rfl
 ·split
  ·rfl
  ·split <;> rfl
theorem jkE(k:Nat):∀ {a b:vL},(∀ p∈a,∀ q∈b,p.l.take k=q.l.take k)->jak k a=jak k b->a=b
 | [],[],_,_=>rfl
 | [],q :: b,_,h=>by simp[jak]at h
 | p :: a,[],_,h=>by simp[jak]at h
 | p :: a,q :: b,h1,h=>by
  unfold jak at h;rw[bS,bS]at h
  obtain⟨o,A⟩:=List.cons.inj h
  have E:p.2=q.2:=(Prod.mk.inj o).2;have H:p.1.extract k p.1.size=q.1.extract k q.1.size:=(Prod.mk.inj o).1;have e:=congrArg (fun b:vB=>b.data.toList) H;simp only[jcR _ _ _ (bL _)]at e;have J:=h1 p bG q bG;have K:p.l=q.l:=by
   rw[<-cV k p.l, <-cV k q.l,J];exact congrArg _ e
  rw[jgI K E,jkE k (fun x O y Q=>h1 x (bD _ O) y (bD _ Q)) A]
theorem jkR(x:vU)(r:vN):∀ l:vL,look (cutL x.toNat l) (x :: r)=look l (x :: r)
 | []=>rfl
 | p :: l=>by
  have o:=jkR x r l;unfold cutL at *;rw[dR]
  by_cases hp:jeT x.toNat p=true
  ·rw[if_pos hp,jbm,jbm,o]
  ·rw[if_neg hp,o,jbm,if_neg]
   intro e;exact hp (by unfold jeT;rw[show p.1.data.toList=x :: r from e.symm];simp)
theorem joQ{f:Nat}{l:vL}(h:jap f l){i:Nat}(hi:16<=i):cutL i l=[]:=by
 refine List.eq_nil_iff_forall_not_mem.2 fun p e=>?_
 obtain⟨o,a,r,A,E⟩:=jbA e
 have:=jfn (h.size p o).2.2.1 A
 omega
theorem jgC{a:Pair}{l:vL}(h:(a :: l).Pairwise fun p q=>Lt p.l q.l):look (a :: l) []=if a.1.size=0 then some a.2 else none:=by
 rw[jbm]
 by_cases hz:a.1.size=0
 ·rw[if_pos hz,if_pos]
  exact (bE (show a.1.data.toList.length=0 from hz)).symm
 ·rw[if_neg hz,if_neg]
  ·refine jet fun o=>?_
   obtain⟨q,A,e⟩:=bK.1 o
   have:=(cW.1 h).1 q A
   rw[show q.l=[]from e]at this;exact not_lt_nil _ this
  ·intro e
   exact hz (by show a.1.data.toList.length=0;rw[show a.1.data.toList=[]from e.symm];rfl)
theorem jj3(B C:vL->PT)(l m:vL)(hn:jar B l=jar C m)(h:l.length<=1\/m.length<=1):l=m:=by
 have e:=congrArg jad.kind hn;rw[jkV,jkV]at e
 by_cases l0:l.length=0
 ·rw[if_pos l0]at e
  have o:m.length=0:=by
   by_cases o:m.length=0
   ·exact o
   ·rw[if_neg o]at e;split at e
    ·cases e
    ·split at e <;> cases e
  rw[bE l0,bE o]
 by_cases o:m.length=0
 ·rw[if_pos o,if_neg l0]at e;split at e
  ·cases e
  ·split at e <;> cases e
 rw[if_neg l0,if_neg o]at e;have E:l.length=1:=by
  by_cases E:l.length=1
  ·exact E
  ·have A:m.length=1:=vO
   rw[if_neg E,if_pos A]at e;split at e <;> cases e
 rw[if_pos E]at e;have A:m.length=1:=by
  by_cases A:m.length=1
  ·exact A
  ·rw[if_neg A]at e;split at e <;> cases e
 have K:jar B l=⟨1,(l.getD 0 pd).1,(l.getD 0 pd).2,jan 16⟩:=by unfold jar;rw[if_neg l0,if_pos E]
 have O:jar C m=⟨1,(m.getD 0 pd).1,(m.getD 0 pd).2,jan 16⟩:=by unfold jar;rw[if_neg o,if_pos A]
 rw[K,O]at hn
 obtain⟨_,H,J,_⟩:=jad.mk.inj hn
 obtain⟨p,rfl⟩:=fO.1 E
 obtain⟨q,rfl⟩:=fO.1 A
 have H:p.1=q.1:=H;have J:p.2=q.2:=J;rw[Prod.ext H J]
theorem jmE(w:vW):∀ (f:Nat) (l m:vL),jap f l->jap f m->jjv (jav (jac (f+1) l)) (jav (jac (f+1) m))->(jac (f+1) l).text=(jac (f+1) m).text->l=m:=by
 intro f;induction f with
 | zero =>
  intro l m E H _ ht;exact jj3 _ _ l m (jdl w (good 0 l E).1 (good 0 m H).1 ht) (.inl (jbI E))
 | succ f ih =>
  intro l m E H hA ht;have hn:jar (jac (f+1)) l=jar (jac (f+1)) m:=jdl w (good (f+1) l E).1 (good (f+1) m H).1 ht
  by_cases hs:l.length<=1\/m.length<=1
  ·exact jj3 _ _ l m hn hs
  have J:=congrArg jad.kind hn;rw[jkV,jkV,if_neg (show ¬ l.length=0 by omega),if_neg (show ¬ l.length=1 by omega),if_neg (show ¬ m.length=0 by omega),if_neg (show ¬ m.length=1 by omega)]at J;have X:2<=l.length:=vO
  have Z:2<=m.length:=vO
  have b0:=jbi E X;have b1:=jbi H Z;have eT:∀ l:vL,jav (jac (f+1+1) l)=jaQ (jar (jac (f+1)) l) :: jaA (jas (jac (f+1)) l):=fun l=>by
   show jav (.mk (jaQ (jar (jac (f+1)) l)) (jas (jac (f+1)) l))=_;rw[jav]
  rw[eT,eT]at hA;have a1:jjv (jaA (jas (jac (f+1)) l)) (jaA (jas (jac (f+1)) m)):=fun x hx y hy=>hA x (bD _ hx) y (bD _ hy)
  by_cases kl:0 < comK l
  ·rw[if_pos kl]at J
   have K:0 < comK m:=by
    by_cases K:0 < comK m
    ·exact K
    ·rw[if_neg K]at J;cases J
   have a2:∀ {l:vL},jap (f+1) l->2<=l.length->0 < comK l->jap f (jak (comK l) l):=fun {l} h O J=>by
    have Q:=jbi h O;exact (jcb (comK l) h (fun p hp q hq=>(Q p hp).1.trans (Q q hq).1.symm) (fun p hp=>(Q p hp).2)).mono vO
   have a6:∀ {l:vL},2<=l.length->jak (comK l) l≠[]:=fun {l} O e=>by have:=jaI (comK l) l;rw[e]at this;simp at this;omega
   have eN:∀ {l:vL},2<=l.length->0 < comK l->jar (jac (f+1)) l=⟨2,(l.getD 0 pd).1.extract 0 (comK l),⟨#[]⟩,refB (jac (f+1) (jak (comK l) l)).text :: jan 15⟩:=fun {l} O J=>by
    unfold jar;rw[if_neg vO,if_neg vO,if_pos J]
   have eB:∀ {l:vL},2<=l.length->0 < comK l->jas (jac (f+1)) l=jbp (jac (f+1) (jak (comK l) l)):=fun {l} O J=>by
    unfold jas;rw[if_neg vO,if_pos J]
   rw[eN X kl,eN Z K]at hn;rw[eB X kl,eB Z K]at a1
   obtain⟨_,hp,_,hr⟩:=jad.mk.inj hn
   obtain⟨hr,_⟩:=List.cons.inj hr
   have gm:∀ {l:vL},2<=l.length->l.getD 0 pd∈l:=fun {l} h=>by rw[bH,bA vO];exact dD _
   have a7:∀ {l:vL},jap (f+1) l->2<=l.length->((l.getD 0 pd).1.extract 0 (comK l)).size=comK l:=fun {l} h O=>by
    have:=(jbi h O _ (gm O)).2
    rw[cJ];omega
   have a8:comK l=comK m:=by rw[<-a7 E X, <-a7 H Z,hp]
   have a9:∀ {l:vL},(l.getD 0 pd).l.take (comK l)=((l.getD 0 pd).1.extract 0 (comK l)).data.toList:=fun {l}=>by
    rw[dB,fM,dZ];simp
   obtain⟨e1,e2⟩:=jjf ((good f _ (a2 E X kl)).2.1 (a6 X)) ((good f _ (a2 H Z K)).2.1 (a6 Z)) hr a1
   have e3:=ih _ _ (a2 E X kl) (a2 H Z K) e2 e1;rw[<-a8]at e3;refine jkE (comK l) (fun p b2 q hq=>?_) e3;rw[(b0 p b2).1,a9,hp, <-a9, <-(b1 q hq).1,a8]
  ·rw[if_neg kl]at J
   have K:¬ 0 < comK m:=by
    by_cases K:0 < comK m
    ·rw[if_pos K]at J;cases J
    ·exact K
   have eN:∀ {l:vL},2<=l.length->¬ 0 < comK l->jar (jac (f+1)) l=⟨3,⟨#[]⟩,if (l.getD 0 pd).1.size=0 then (l.getD 0 pd).2 else ⟨#[]⟩,(List.range 16).map fun i=>if (cutL i l).length=0 then ⟨#[]⟩else refB (jac (f+1) (jak 1 (cutL i l))).text⟩:=fun {l} O J=>by
    unfold jar;rw[if_neg vO,if_neg vO,if_neg J]
   have eB:∀ {l:vL},2<=l.length->¬ 0 < comK l->jas (jac (f+1)) l=(List.range 16).flatMap fun i=>if (cutL i l).length=0 then []else jbp (jac (f+1) (jak 1 (cutL i l))):=fun {l} O J=>by
    unfold jas;rw[if_neg vO,if_neg J]
   rw[eN X kl,eN Z K]at hn;rw[eB X kl,eB Z K]at a1
   obtain⟨_,_,o,b3⟩:=jad.mk.inj hn
   have a4:∀ {l:vL} {i:Nat},(cutL i l).length≠0->jak 1 (cutL i l)≠[]:=fun {l i} hi e=>by have:=jaI 1 (cutL i l);rw[e]at this;simp at this;omega
   have a3:∀ {l:vL} {i:Nat},jap (f+1) l->(cutL i l).length≠0->jdM f (jac (f+1) (jak 1 (cutL i l))) (jar (jac f) (jak 1 (cutL i l))):=fun {l i} h hi=>(good f _ (jcU i h)).2.1 (a4 hi);have a5:∀ i,cutL i l=cutL i m:=by
    intro i
    by_cases hi:i < 16
    ·have A:=congrArg (fun L:vM=>L[i]?) b3
     simp only[bX,dW hi,gQ,Option.some.injEq]at A;have hz:(⟨#[]⟩:vB).size=0:=rfl
     by_cases cl:(cutL i l).length=0
     ·rw[if_pos cl]at A
      by_cases cm:(cutL i m).length=0
      ·rw[bE cl,bE cm]
      ·rw[if_neg cm]at A
       have:=(a3 H cm).may.1.pos
       rw[<-A]at this;exact absurd hz this
     ·rw[if_neg cl]at A
      by_cases cm:(cutL i m).length=0
      ·rw[if_pos cm]at A
       have:=(a3 E cl).may.1.pos
       rw[A]at this;exact absurd hz this
      ·rw[if_neg cm]at A
       have a0:∀ {l:vL},(cutL i l).length≠0->∀ x∈jaA (jbp (jac (f+1) (jak 1 (cutL i l)))),x∈jaA ((List.range 16).flatMap fun i=>if (cutL i l).length=0 then []else jbp (jac (f+1) (jak 1 (cutL i l)))):=fun {l} hc x hx=>by
        obtain⟨T',b4,b5⟩:=jbE.1 hx
        refine jbE.2 ⟨T',cU.2 ⟨i,fA.2 hi,?_⟩,b5⟩;rw[if_neg hc];exact b4
       obtain⟨e1,e2⟩:=jjf (a3 E cl) (a3 H cm) A (fun x hx y hy=>a1 x (a0 cl x hx) y (a0 cm y hy))
       have e3:=ih _ _ (jcU i E) (jcU i H) e2 e1;refine jkE 1 (fun p hp q hq=>?_) e3
       obtain⟨_,a,r,h1,O⟩:=jbA hp
       obtain⟨_,b,t,h3,h4⟩:=jbA hq
       rw[h1,h3,dS.1 (O.trans h4.symm)];rfl
    ·rw[joQ E vO,joQ H vO]
   refine ji6 E.rise H.rise fun k=>?_;cases k with
   | cons x r=>rw[<-jkR x r l, <-jkR x r m,a5]
   | nil =>
    match l,m,X,Z,o,E,H with
    | a :: l',b :: m',_,_,o,E,H =>
     rw[jgC E.rise,jgC H.rise];have o:(if a.1.size=0 then a.2 else (⟨#[]⟩:vB))=if b.1.size=0 then b.2 else ⟨#[]⟩:=o
     have sa:=(E.size a bG).2.2.2.1;have sb:=(H.size b bG).2.2.2.1;have hz:(⟨#[]⟩:vB).size=0:=rfl
     by_cases za:a.1.size=0
     ·rw[if_pos za]at o ⊢
      by_cases zb:b.1.size=0
      ·rw[if_pos zb]at o ⊢;rw[o]
      ·rw[if_neg zb]at o;rw[o]at sa;omega
     ·rw[if_neg za]at o ⊢
      by_cases zb:b.1.size=0
      ·rw[if_pos zb]at o;rw[<-o]at sb;omega
      ·rw[if_neg zb]
theorem jk5:∀ {a b:vN},jcw a=jcw b->a=b
 | [],[],_=>rfl
 | [],y :: b,h=>by simp[jcw]at h
 | x :: a,[],h=>by simp[jcw]at h
 | x :: a,y :: b,h=>by
  have h:(x >>> 4) ::(x &&& 15) :: jcw a=(y >>> 4) ::(y &&& 15) :: jcw b:=h;injection h with h1 h;injection h with h2 h;have e:=congrArg UInt8.toNat h1;have o:=congrArg UInt8.toNat h2;rw[jmx,jmx]at e;rw[jmy,jmy]at o;rw[jk5 h,show x=y from dS.1 vO]
theorem jpP:∀ {a b:vL},jaP a=jaP b->a=b
 | [],[],_=>rfl
 | [],q :: b,h=>by simp[jaP]at h
 | p :: a,[],h=>by simp[jaP]at h
 | p :: a,q :: b,h=>by
  unfold jaP at h;rw[bS,bS]at h;injection h with h1 h2;injection h1 with h3 h4;have e:jcw p.k=jcw q.k:=congrArg (fun b:vB=>b.data.toList) h3;rw[jgI (jk5 e) h4,jpP h2]
theorem jwq(w:vW){l m:vL}(hl:jaz l=0)(hm:jaz m=0)(hA:jjv (jav (jaG l)) (jav (jaG m)))(ht:(jaG l).text=(jaG m).text):l=m:=
 jpP (jmE w 12 _ _ (jbD (jaD hl)) (jbD (jaD hm)) hA ht)
