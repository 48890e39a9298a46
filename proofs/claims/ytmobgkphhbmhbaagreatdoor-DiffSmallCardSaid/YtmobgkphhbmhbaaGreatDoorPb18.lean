/- Lemmas; each is under no condition but those that it states. -/
import Derived.Test.YtmobgkphhbmhbaaGreatDoorPb17
namespace Go.Proofs.YtmobgkphhbmhbaaGreatDoor
set_option linter.unusedSimpArgs false
set_option linter.unusedVariables false
set_option maxRecDepth 100000
set_option maxHeartbeats 16000000
open Go Go.RowKit
def jiV(xs ys:vM):Prop:=∀ x∈xs,∀ y∈ys,shaB x=shaB y->x=y
theorem jiD{f g:Nat}{T U:PT}{n m:jae}(hT:jdA f T n)(hU:jdA g U m)(hr:refB T.text=refB U.text)(H:jiV (jaz (jbt T)) (jaz (jbt U))):T.text=U.text/\jiV (jao T) (jao U):=by
 by_cases h1:T.text.size < 32
 ·by_cases h2:U.text.size < 32
  ·rw[jfw h1,jfw h2]at hr
   refine⟨hr,fun x e y o _=>?_⟩
   rw[jgY hT h1,bO]at e;rw[jgY hU h2,bO]at o;rw[e,o,hr]
  ·have:=juj h2
   rw[<-hr,jfw h1]at this;omega
 ·by_cases h2:U.text.size < 32
  ·have:=juj h1
   rw[hr,jfw h2]at this;omega
  ·rw[jgx h1,jgx h2]at hr
   rw[jgl h1,jgl h2]at H
   exact⟨H _ (jbS T) _ (jbS U) (jjI (jbg _) (jbg _) hr),H⟩
theorem jko(B:vL->PT)(l:vL):(jan B l).kind=if l.length=0 then 0 else if l.length=1 then 1 else if 0 < comK l then 2 else 3:=by
 unfold jan;split
 ·rfl
 ·split
  ·rfl
  ·split <;> rfl
theorem jj3(k:Nat):∀ {a b:vL},(∀ p∈a,∀ q∈b,p.l.take k=q.l.take k)->jag k a=jag k b->a=b
 | [],[],_,_=>rfl
 | [],q :: b,_,h=>by simp[jag]at h
 | p :: a,[],_,h=>by simp[jag]at h
 | p :: a,q :: b,h1,h=>by
  unfold jag at h;rw[bL,bL]at h
  obtain⟨o,z⟩:=List.cons.inj h
  have A:p.2=q.2:=(Prod.mk.inj o).2;have E:p.1.extract k p.1.size=q.1.extract k q.1.size:=(Prod.mk.inj o).1;have e:=congrArg (fun b:vB=>b.data.toList) E;simp only[jcD _ _ _ (bM _)]at e;have H:=h1 p bD q bD;have J:p.l=q.l:=by
   rw[<-dC k p.l, <-dC k q.l,H];exact congrArg _ e
  rw[jgu J A,jj3 k (fun x K y O=>h1 x (bC _ K) y (bC _ O)) z]
theorem jkj(x:vU)(r:vN):∀ l:vL,look (cutL x.toNat l) (x :: r)=look l (x :: r)
 | []=>rfl
 | p :: l=>by
  have o:=jkj x r l;unfold cutL at *;rw[dP]
  by_cases hp:je4 x.toNat p=true
  ·rw[if_pos hp,jaT,jaT,o]
  ·rw[if_neg hp,o,jaT,if_neg]
   intro e;exact hp (by unfold je4;rw[show p.1.data.toList=x :: r from e.symm];simp)
theorem jnH{f:Nat}{l:vL}(h:jar f l){i:Nat}(hi:16<=i):cutL i l=[]:=by
 refine List.eq_nil_iff_forall_not_mem.2 fun p e=>?_
 obtain⟨o,a,r,q,z⟩:=jbq e
 have:=je0 (h.size p o).2.2.1 q
 omega
theorem jgn{a:Pair}{l:vL}(h:(a :: l).Pairwise fun p q=>Lt p.l q.l):look (a :: l) []=if a.1.size=0 then some a.2 else none:=by
 rw[jaT]
 by_cases hz:a.1.size=0
 ·rw[if_pos hz,if_pos]
  exact (bE (show a.1.data.toList.length=0 from hz)).symm
 ·rw[if_neg hz,if_neg]
  ·refine jdb fun o=>?_
   obtain⟨q,z,e⟩:=bH.1 o
   have:=(cW.1 h).1 q z
   rw[show q.l=[]from e]at this;exact not_lt_nil _ this
  ·intro e
   exact hz (by show a.1.data.toList.length=0;rw[show a.1.data.toList=[]from e.symm];rfl)
theorem jju(B C:vL->PT)(l m:vL)(hn:jan B l=jan C m)(h:l.length<=1\/m.length<=1):l=m:=by
 have e:=congrArg jae.kind hn;rw[jko,jko]at e
 by_cases l0:l.length=0
 ·rw[if_pos l0]at e
  have o:m.length=0:=by
   by_cases o:m.length=0
   ·exact o
   ·rw[if_neg o]at e;split at e
    ·cases e
    ·split at e <;> cases e
  rw[bE l0,bE o]
 by_cases o:m.length=0
 ·rw[if_pos o,if_neg l0]at e;split at e
  ·cases e
  ·split at e <;> cases e
 rw[if_neg l0,if_neg o]at e;have A:l.length=1:=by
  by_cases A:l.length=1
  ·exact A
  ·have z:m.length=1:=vO
   rw[if_neg A,if_pos z]at e;split at e <;> cases e
 rw[if_pos A]at e;have z:m.length=1:=by
  by_cases z:m.length=1
  ·exact z
  ·rw[if_neg z]at e;split at e <;> cases e
 have J:jan B l=⟨1,(l.getD 0 pd).1,(l.getD 0 pd).2,jat 16⟩:=by unfold jan;rw[if_neg l0,if_pos A]
 have K:jan C m=⟨1,(m.getD 0 pd).1,(m.getD 0 pd).2,jat 16⟩:=by unfold jan;rw[if_neg o,if_pos z]
 rw[J,K]at hn
 obtain⟨_,E,H,_⟩:=jae.mk.inj hn
 obtain⟨p,rfl⟩:=fC.1 A
 obtain⟨q,rfl⟩:=fC.1 z
 have E:p.1=q.1:=E;have H:p.2=q.2:=H;rw[Prod.ext E H]
theorem jlV(w:vW):∀ (f:Nat) (l m:vL),jar f l->jar f m->jiV (jao (jab (f+1) l)) (jao (jab (f+1) m))->(jab (f+1) l).text=(jab (f+1) m).text->l=m:=by
 intro f;induction f with
 | zero =>
  intro l m A E _ ht;exact jju _ _ l m (jdc w (good 0 l A).1 (good 0 m E).1 ht) (.inl (jbA A))
 | succ f ih =>
  intro l m A E hA ht;have hn:jan (jab (f+1)) l=jan (jab (f+1)) m:=jdc w (good (f+1) l A).1 (good (f+1) m E).1 ht
  by_cases hs:l.length<=1\/m.length<=1
  ·exact jju _ _ l m hn hs
  have H:=congrArg jae.kind hn;rw[jko,jko,if_neg (show ¬ l.length=0 by omega),if_neg (show ¬ l.length=1 by omega),if_neg (show ¬ m.length=0 by omega),if_neg (show ¬ m.length=1 by omega)]at H;have Q:2<=l.length:=vO
  have X:2<=m.length:=vO
  have a9:=jbr A Q;have b0:=jbr E X;have eT:∀ l:vL,jao (jab (f+1+1) l)=jaU (jan (jab (f+1)) l) :: jaz (jaq (jab (f+1)) l):=fun l=>by
   show jao (.mk (jaU (jan (jab (f+1)) l)) (jaq (jab (f+1)) l))=_;rw[jao]
  rw[eT,eT]at hA;have Z:jiV (jaz (jaq (jab (f+1)) l)) (jaz (jaq (jab (f+1)) m)):=fun x hx y hy=>hA x (bC _ hx) y (bC _ hy)
  by_cases kl:0 < comK l
  ·rw[if_pos kl]at H
   have J:0 < comK m:=by
    by_cases J:0 < comK m
    ·exact J
    ·rw[if_neg J]at H;cases H
   have a1:∀ {l:vL},jar (f+1) l->2<=l.length->0 < comK l->jar f (jag (comK l) l):=fun {l} h K H=>by
    have O:=jbr h K;exact (jcm (comK l) h (fun p hp q hq=>(O p hp).1.trans (O q hq).1.symm) (fun p hp=>(O p hp).2)).mono vO
   have a5:∀ {l:vL},2<=l.length->jag (comK l) l≠[]:=fun {l} K e=>by have:=jaA (comK l) l;rw[e]at this;simp at this;omega
   have eN:∀ {l:vL},2<=l.length->0 < comK l->jan (jab (f+1)) l=⟨2,(l.getD 0 pd).1.extract 0 (comK l),⟨#[]⟩,refB (jab (f+1) (jag (comK l) l)).text :: jat 15⟩:=fun {l} K H=>by
    unfold jan;rw[if_neg vO,if_neg vO,if_pos H]
   have eB:∀ {l:vL},2<=l.length->0 < comK l->jaq (jab (f+1)) l=jbt (jab (f+1) (jag (comK l) l)):=fun {l} K H=>by
    unfold jaq;rw[if_neg vO,if_pos H]
   rw[eN Q kl,eN X J]at hn;rw[eB Q kl,eB X J]at Z
   obtain⟨_,hp,_,hr⟩:=jae.mk.inj hn
   obtain⟨hr,_⟩:=List.cons.inj hr
   have gm:∀ {l:vL},2<=l.length->l.getD 0 pd∈l:=fun {l} h=>by rw[bG,bA vO];exact fD _
   have a6:∀ {l:vL},jar (f+1) l->2<=l.length->((l.getD 0 pd).1.extract 0 (comK l)).size=comK l:=fun {l} h K=>by
    have:=(jbr h K _ (gm K)).2
    rw[cS];omega
   have a7:comK l=comK m:=by rw[<-a6 A Q, <-a6 E X,hp]
   have a8:∀ {l:vL},(l.getD 0 pd).l.take (comK l)=((l.getD 0 pd).1.extract 0 (comK l)).data.toList:=fun {l}=>by
    rw[fF,fV,fG];simp
   obtain⟨e1,e2⟩:=jiD ((good f _ (a1 A Q kl)).2.1 (a5 Q)) ((good f _ (a1 E X J)).2.1 (a5 X)) hr Z
   have e3:=ih _ _ (a1 A Q kl) (a1 E X J) e2 e1;rw[<-a7]at e3;refine jj3 (comK l) (fun p b1 q hq=>?_) e3;rw[(a9 p b1).1,a8,hp, <-a8, <-(b0 q hq).1,a7]
  ·rw[if_neg kl]at H
   have J:¬ 0 < comK m:=by
    by_cases J:0 < comK m
    ·rw[if_pos J]at H;cases H
    ·exact J
   have eN:∀ {l:vL},2<=l.length->¬ 0 < comK l->jan (jab (f+1)) l=⟨3,⟨#[]⟩,if (l.getD 0 pd).1.size=0 then (l.getD 0 pd).2 else ⟨#[]⟩,(List.range 16).map fun i=>if (cutL i l).length=0 then ⟨#[]⟩else refB (jab (f+1) (jag 1 (cutL i l))).text⟩:=fun {l} K H=>by
    unfold jan;rw[if_neg vO,if_neg vO,if_neg H]
   have eB:∀ {l:vL},2<=l.length->¬ 0 < comK l->jaq (jab (f+1)) l=(List.range 16).flatMap fun i=>if (cutL i l).length=0 then []else jbt (jab (f+1) (jag 1 (cutL i l))):=fun {l} K H=>by
    unfold jaq;rw[if_neg vO,if_neg H]
   rw[eN Q kl,eN X J]at hn;rw[eB Q kl,eB X J]at Z
   obtain⟨_,_,o,b2⟩:=jae.mk.inj hn
   have a3:∀ {l:vL} {i:Nat},(cutL i l).length≠0->jag 1 (cutL i l)≠[]:=fun {l i} hi e=>by have:=jaA 1 (cutL i l);rw[e]at this;simp at this;omega
   have a2:∀ {l:vL} {i:Nat},jar (f+1) l->(cutL i l).length≠0->jdA f (jab (f+1) (jag 1 (cutL i l))) (jan (jab f) (jag 1 (cutL i l))):=fun {l i} h hi=>(good f _ (jdJ i h)).2.1 (a3 hi);have a4:∀ i,cutL i l=cutL i m:=by
    intro i
    by_cases hi:i < 16
    ·have z:=congrArg (fun L:vM=>L[i]?) b2
     simp only[bZ,dV hi,fY,Option.some.injEq]at z;have hz:(⟨#[]⟩:vB).size=0:=rfl
     by_cases cl:(cutL i l).length=0
     ·rw[if_pos cl]at z
      by_cases cm:(cutL i m).length=0
      ·rw[bE cl,bE cm]
      ·rw[if_neg cm]at z
       have:=(a2 E cm).may.1.pos
       rw[<-z]at this;exact absurd hz this
     ·rw[if_neg cl]at z
      by_cases cm:(cutL i m).length=0
      ·rw[if_pos cm]at z
       have:=(a2 A cl).may.1.pos
       rw[z]at this;exact absurd hz this
      ·rw[if_neg cm]at z
       have a0:∀ {l:vL},(cutL i l).length≠0->∀ x∈jaz (jbt (jab (f+1) (jag 1 (cutL i l)))),x∈jaz ((List.range 16).flatMap fun i=>if (cutL i l).length=0 then []else jbt (jab (f+1) (jag 1 (cutL i l)))):=fun {l} hc x hx=>by
        obtain⟨T',b3,b4⟩:=jbs.1 hx
        refine jbs.2 ⟨T',cO.2 ⟨i,dJ.2 hi,?_⟩,b4⟩;rw[if_neg hc];exact b3
       obtain⟨e1,e2⟩:=jiD (a2 A cl) (a2 E cm) z (fun x hx y hy=>Z x (a0 cl x hx) y (a0 cm y hy))
       have e3:=ih _ _ (jdJ i A) (jdJ i E) e2 e1;refine jj3 1 (fun p hp q hq=>?_) e3
       obtain⟨_,a,r,h1,K⟩:=jbq hp
       obtain⟨_,b,t,h3,h4⟩:=jbq hq
       rw[h1,h3,dR.1 (K.trans h4.symm)];rfl
    ·rw[jnH A vO,jnH E vO]
   refine jgz A.rise E.rise fun k=>?_;cases k with
   | cons x r=>rw[<-jkj x r l, <-jkj x r m,a4]
   | nil =>
    match l,m,Q,X,o,A,E with
    | a :: l',b :: m',_,_,o,A,E =>
     rw[jgn A.rise,jgn E.rise];have o:(if a.1.size=0 then a.2 else (⟨#[]⟩:vB))=if b.1.size=0 then b.2 else ⟨#[]⟩:=o
     have sa:=(A.size a bD).2.2.2.1;have sb:=(E.size b bD).2.2.2.1;have hz:(⟨#[]⟩:vB).size=0:=rfl
     by_cases za:a.1.size=0
     ·rw[if_pos za]at o ⊢
      by_cases zb:b.1.size=0
      ·rw[if_pos zb]at o ⊢;rw[o]
      ·rw[if_neg zb]at o;rw[o]at sa;omega
     ·rw[if_neg za]at o ⊢
      by_cases zb:b.1.size=0
      ·rw[if_pos zb]at o;rw[<-o]at sb;omega
      ·rw[if_neg zb]
theorem jkx:∀ {a b:vN},jcM a=jcM b->a=b
 | [],[],_=>rfl
 | [],y :: b,h=>by simp[jcM]at h
 | x :: a,[],h=>by simp[jcM]at h
 | x :: a,y :: b,h=>by
  have h:(x >>> 4) ::(x &&& 15) :: jcM a=(y >>> 4) ::(y &&& 15) :: jcM b:=h;injection h with h1 h;injection h with h2 h;have e:=congrArg UInt8.toNat h1;have o:=congrArg UInt8.toNat h2;rw[jlP,jlP]at e;rw[jlQ,jlQ]at o;rw[jkx h,show x=y from dR.1 vO]
theorem joF:∀ {a b:vL},jaP a=jaP b->a=b
 | [],[],_=>rfl
 | [],q :: b,h=>by simp[jaP]at h
 | p :: a,[],h=>by simp[jaP]at h
 | p :: a,q :: b,h=>by
  unfold jaP at h;rw[bL,bL]at h;injection h with h1 h2;injection h1 with h3 h4;have e:jcM p.k=jcM q.k:=congrArg (fun b:vB=>b.data.toList) h3;rw[jgu (jkx e) h4,joF h2]
theorem juD(w:vW){l m:vL}(hl:jap l=0)(hm:jap m=0)(hA:jiV (jao (jav l)) (jao (jav m)))(ht:(jav l).text=(jav m).text):l=m:=
 joF (jlV w 12 _ _ (jbm (jau hl)) (jbm (jau hm)) hA ht)
end Go.Proofs.YtmobgkphhbmhbaaGreatDoor
