/- Lemmas; each is under no condition but those that it states. -/
import Derived.Test.YtmobgkphhbmhbaaGreatDoorPe17
namespace Go.Proofs.YtmobgkphhbmhbaaGreatDoor
set_option linter.unusedSimpArgs false
set_option linter.unusedVariables false
set_option maxRecDepth 100000
set_option maxHeartbeats 16000000
open Go Go.RowKit
def jiU(xs ys:vM):Prop:=∀ x∈xs,∀ y∈ys,shaB x=shaB y->x=y
theorem jiH{f g:Nat}{T U:PT}{n m:jae}(hT:jdC f T n)(hU:jdC g U m)(hr:refB T.text=refB U.text)(H:jiU (jay (jbw T)) (jay (jbw U))):T.text=U.text/\jiU (jam T) (jam U):=by
 by_cases h1:T.text.size < 32
 ·by_cases h2:U.text.size < 32
  ·rw[jfy h1,jfy h2]at hr
   refine⟨hr,fun x e y o _=>?_⟩
   rw[jgX hT h1,bS]at e;rw[jgX hU h2,bS]at o;rw[e,o,hr]
  ·have:=juy h2
   rw[<-hr,jfy h1]at this;omega
 ·by_cases h2:U.text.size < 32
  ·have:=juy h1
   rw[hr,jfy h2]at this;omega
  ·rw[jgy h1,jgy h2]at hr
   rw[jgn h1,jgn h2]at H
   exact⟨H _ (jbB T) _ (jbB U) (jjH (jbi _) (jbi _) hr),H⟩
theorem jke(B:vL->PT)(l:vL):(jak B l).kind=if l.length=0 then 0 else if l.length=1 then 1 else if 0 < comK l then 2 else 3:=by
 unfold jak;split
 ·rfl
 ·split
  ·rfl
  ·split <;> rfl
theorem jjW(k:Nat):∀ {a b:vL},(∀ p∈a,∀ q∈b,p.l.take k=q.l.take k)->jag k a=jag k b->a=b
 | [],[],_,_=>rfl
 | [],q :: b,_,h=>by simp[jag]at h
 | p :: a,[],_,h=>by simp[jag]at h
 | p :: a,q :: b,h1,h=>by
  unfold jag at h;rw[bJ,bJ]at h
  obtain⟨o,z⟩:=List.cons.inj h
  have E:p.2=q.2:=(Prod.mk.inj o).2;have H:p.1.extract k p.1.size=q.1.extract k q.1.size:=(Prod.mk.inj o).1;have e:=congrArg (fun b:vB=>b.data.toList) H;simp only[jcD _ _ _ (bM _)]at e;have J:=h1 p bF q bF;have K:p.l=q.l:=by
   rw[<-dF k p.l, <-dF k q.l,J];exact congrArg _ e
  rw[jgu K E,jjW k (fun x O y Q=>h1 x (bD _ O) y (bD _ Q)) z]
theorem jka(x:vU)(r:vN):∀ l:vL,look (cutL x.toNat l) (x :: r)=look l (x :: r)
 | []=>rfl
 | p :: l=>by
  have o:=jka x r l;unfold cutL at *;rw[dN]
  by_cases hp:je4 x.toNat p=true
  ·rw[if_pos hp,jbc,jbc,o]
  ·rw[if_neg hp,o,jbc,if_neg]
   intro e;exact hp (by unfold je4;rw[show p.1.data.toList=x :: r from e.symm];simp)
theorem jnA{f:Nat}{l:vL}(h:jaq f l){i:Nat}(hi:16<=i):cutL i l=[]:=by
 refine List.eq_nil_iff_forall_not_mem.2 fun p e=>?_
 obtain⟨o,a,r,q,z⟩:=jbp e
 have:=je2 (h.size p o).2.2.1 q
 omega
theorem jgp{a:Pair}{l:vL}(h:(a :: l).Pairwise fun p q=>Lt p.l q.l):look (a :: l) []=if a.1.size=0 then some a.2 else none:=by
 rw[jbc]
 by_cases hz:a.1.size=0
 ·rw[if_pos hz,if_pos]
  exact (bE (show a.1.data.toList.length=0 from hz)).symm
 ·rw[if_neg hz,if_neg]
  ·refine jed fun o=>?_
   obtain⟨q,z,e⟩:=bC.1 o
   have:=(cY.1 h).1 q z
   rw[show q.l=[]from e]at this;exact not_lt_nil _ this
  ·intro e
   exact hz (by show a.1.data.toList.length=0;rw[show a.1.data.toList=[]from e.symm];rfl)
theorem jjr(B C:vL->PT)(l m:vL)(hn:jak B l=jak C m)(h:l.length<=1\/m.length<=1):l=m:=by
 have e:=congrArg jae.kind hn;rw[jke,jke]at e
 by_cases l0:l.length=0
 ·rw[if_pos l0]at e
  have o:m.length=0:=by
   by_cases o:m.length=0
   ·exact o
   ·rw[if_neg o]at e;split at e
    ·cases e
    ·split at e <;> cases e
  rw[bE l0,bE o]
 by_cases o:m.length=0
 ·rw[if_pos o,if_neg l0]at e;split at e
  ·cases e
  ·split at e <;> cases e
 rw[if_neg l0,if_neg o]at e;have E:l.length=1:=by
  by_cases E:l.length=1
  ·exact E
  ·have z:m.length=1:=vO
   rw[if_neg E,if_pos z]at e;split at e <;> cases e
 rw[if_pos E]at e;have z:m.length=1:=by
  by_cases z:m.length=1
  ·exact z
  ·rw[if_neg z]at e;split at e <;> cases e
 have K:jak B l=⟨1,(l.getD 0 pd).1,(l.getD 0 pd).2,jav 16⟩:=by unfold jak;rw[if_neg l0,if_pos E]
 have O:jak C m=⟨1,(m.getD 0 pd).1,(m.getD 0 pd).2,jav 16⟩:=by unfold jak;rw[if_neg o,if_pos z]
 rw[K,O]at hn
 obtain⟨_,H,J,_⟩:=jae.mk.inj hn
 obtain⟨p,rfl⟩:=fB.1 E
 obtain⟨q,rfl⟩:=fB.1 z
 have H:p.1=q.1:=H;have J:p.2=q.2:=J;rw[Prod.ext H J]
theorem jiq(w:vW):∀ (f:Nat) (l m:vL),jaq f l->jaq f m->jiU (jam (jab (f+1) l)) (jam (jab (f+1) m))->(jab (f+1) l).text=(jab (f+1) m).text->l=m:=by
 intro f;induction f with
 | zero =>
  intro l m E H _ ht;exact jjr _ _ l m (jdd w (good 0 l E).1 (good 0 m H).1 ht) (.inl (jbv E))
 | succ f ih =>
  intro l m E H hA ht;have hn:jak (jab (f+1)) l=jak (jab (f+1)) m:=jdd w (good (f+1) l E).1 (good (f+1) m H).1 ht
  by_cases hs:l.length<=1\/m.length<=1
  ·exact jjr _ _ l m hn hs
  have J:=congrArg jae.kind hn;rw[jke,jke,if_neg (show ¬ l.length=0 by omega),if_neg (show ¬ l.length=1 by omega),if_neg (show ¬ m.length=0 by omega),if_neg (show ¬ m.length=1 by omega)]at J;have X:2<=l.length:=vO
  have Z:2<=m.length:=vO
  have b0:=jbq E X;have b1:=jbq H Z;have eT:∀ l:vL,jam (jab (f+1+1) l)=jaS (jak (jab (f+1)) l) :: jay (jan (jab (f+1)) l):=fun l=>by
   show jam (.mk (jaS (jak (jab (f+1)) l)) (jan (jab (f+1)) l))=_;rw[jam]
  rw[eT,eT]at hA;have a1:jiU (jay (jan (jab (f+1)) l)) (jay (jan (jab (f+1)) m)):=fun x hx y hy=>hA x (bD _ hx) y (bD _ hy)
  by_cases kl:0 < comK l
  ·rw[if_pos kl]at J
   have K:0 < comK m:=by
    by_cases K:0 < comK m
    ·exact K
    ·rw[if_neg K]at J;cases J
   have a2:∀ {l:vL},jaq (f+1) l->2<=l.length->0 < comK l->jaq f (jag (comK l) l):=fun {l} h O J=>by
    have Q:=jbq h O;exact (jci (comK l) h (fun p hp q hq=>(Q p hp).1.trans (Q q hq).1.symm) (fun p hp=>(Q p hp).2)).mono vO
   have a6:∀ {l:vL},2<=l.length->jag (comK l) l≠[]:=fun {l} O e=>by have:=jaA (comK l) l;rw[e]at this;simp at this;omega
   have eN:∀ {l:vL},2<=l.length->0 < comK l->jak (jab (f+1)) l=⟨2,(l.getD 0 pd).1.extract 0 (comK l),⟨#[]⟩,refB (jab (f+1) (jag (comK l) l)).text :: jav 15⟩:=fun {l} O J=>by
    unfold jak;rw[if_neg vO,if_neg vO,if_pos J]
   have eB:∀ {l:vL},2<=l.length->0 < comK l->jan (jab (f+1)) l=jbw (jab (f+1) (jag (comK l) l)):=fun {l} O J=>by
    unfold jan;rw[if_neg vO,if_pos J]
   rw[eN X kl,eN Z K]at hn;rw[eB X kl,eB Z K]at a1
   obtain⟨_,hp,_,hr⟩:=jae.mk.inj hn
   obtain⟨hr,_⟩:=List.cons.inj hr
   have gm:∀ {l:vL},2<=l.length->l.getD 0 pd∈l:=fun {l} h=>by rw[bH,bA vO];exact fC _
   have a7:∀ {l:vL},jaq (f+1) l->2<=l.length->((l.getD 0 pd).1.extract 0 (comK l)).size=comK l:=fun {l} h O=>by
    have:=(jbq h O _ (gm O)).2
    rw[dC];omega
   have a8:comK l=comK m:=by rw[<-a7 E X, <-a7 H Z,hp]
   have a9:∀ {l:vL},(l.getD 0 pd).l.take (comK l)=((l.getD 0 pd).1.extract 0 (comK l)).data.toList:=fun {l}=>by
    rw[fD,fW,fE];simp
   obtain⟨e1,e2⟩:=jiH ((good f _ (a2 E X kl)).2.1 (a6 X)) ((good f _ (a2 H Z K)).2.1 (a6 Z)) hr a1
   have e3:=ih _ _ (a2 E X kl) (a2 H Z K) e2 e1;rw[<-a8]at e3;refine jjW (comK l) (fun p b2 q hq=>?_) e3;rw[(b0 p b2).1,a9,hp, <-a9, <-(b1 q hq).1,a8]
  ·rw[if_neg kl]at J
   have K:¬ 0 < comK m:=by
    by_cases K:0 < comK m
    ·rw[if_pos K]at J;cases J
    ·exact K
   have eN:∀ {l:vL},2<=l.length->¬ 0 < comK l->jak (jab (f+1)) l=⟨3,⟨#[]⟩,if (l.getD 0 pd).1.size=0 then (l.getD 0 pd).2 else ⟨#[]⟩,(List.range 16).map fun i=>if (cutL i l).length=0 then ⟨#[]⟩else refB (jab (f+1) (jag 1 (cutL i l))).text⟩:=fun {l} O J=>by
    unfold jak;rw[if_neg vO,if_neg vO,if_neg J]
   have eB:∀ {l:vL},2<=l.length->¬ 0 < comK l->jan (jab (f+1)) l=(List.range 16).flatMap fun i=>if (cutL i l).length=0 then []else jbw (jab (f+1) (jag 1 (cutL i l))):=fun {l} O J=>by
    unfold jan;rw[if_neg vO,if_neg J]
   rw[eN X kl,eN Z K]at hn;rw[eB X kl,eB Z K]at a1
   obtain⟨_,_,o,b3⟩:=jae.mk.inj hn
   have a4:∀ {l:vL} {i:Nat},(cutL i l).length≠0->jag 1 (cutL i l)≠[]:=fun {l i} hi e=>by have:=jaA 1 (cutL i l);rw[e]at this;simp at this;omega
   have a3:∀ {l:vL} {i:Nat},jaq (f+1) l->(cutL i l).length≠0->jdC f (jab (f+1) (jag 1 (cutL i l))) (jak (jab f) (jag 1 (cutL i l))):=fun {l i} h hi=>(good f _ (jdM i h)).2.1 (a4 hi);have a5:∀ i,cutL i l=cutL i m:=by
    intro i
    by_cases hi:i < 16
    ·have z:=congrArg (fun L:vM=>L[i]?) b3
     simp only[cA,dV hi,gB,Option.some.injEq]at z;have hz:(⟨#[]⟩:vB).size=0:=rfl
     by_cases cl:(cutL i l).length=0
     ·rw[if_pos cl]at z
      by_cases cm:(cutL i m).length=0
      ·rw[bE cl,bE cm]
      ·rw[if_neg cm]at z
       have:=(a3 H cm).may.1.pos
       rw[<-z]at this;exact absurd hz this
     ·rw[if_neg cl]at z
      by_cases cm:(cutL i m).length=0
      ·rw[if_pos cm]at z
       have:=(a3 E cl).may.1.pos
       rw[z]at this;exact absurd hz this
      ·rw[if_neg cm]at z
       have a0:∀ {l:vL},(cutL i l).length≠0->∀ x∈jay (jbw (jab (f+1) (jag 1 (cutL i l)))),x∈jay ((List.range 16).flatMap fun i=>if (cutL i l).length=0 then []else jbw (jab (f+1) (jag 1 (cutL i l)))):=fun {l} hc x hx=>by
        obtain⟨T',b4,b5⟩:=jbb.1 hx
        refine jbb.2 ⟨T',cI.2 ⟨i,dQ.2 hi,?_⟩,b5⟩;rw[if_neg hc];exact b4
       obtain⟨e1,e2⟩:=jiH (a3 E cl) (a3 H cm) z (fun x hx y hy=>a1 x (a0 cl x hx) y (a0 cm y hy))
       have e3:=ih _ _ (jdM i E) (jdM i H) e2 e1;refine jjW 1 (fun p hp q hq=>?_) e3
       obtain⟨_,a,r,h1,O⟩:=jbp hp
       obtain⟨_,b,t,h3,h4⟩:=jbp hq
       rw[h1,h3,dP.1 (O.trans h4.symm)];rfl
    ·rw[jnA E vO,jnA H vO]
   refine jgz E.rise H.rise fun k=>?_;cases k with
   | cons x r=>rw[<-jka x r l, <-jka x r m,a5]
   | nil =>
    match l,m,X,Z,o,E,H with
    | a :: l',b :: m',_,_,o,E,H =>
     rw[jgp E.rise,jgp H.rise];have o:(if a.1.size=0 then a.2 else (⟨#[]⟩:vB))=if b.1.size=0 then b.2 else ⟨#[]⟩:=o
     have sa:=(E.size a bF).2.2.2.1;have sb:=(H.size b bF).2.2.2.1;have hz:(⟨#[]⟩:vB).size=0:=rfl
     by_cases za:a.1.size=0
     ·rw[if_pos za]at o ⊢
      by_cases zb:b.1.size=0
      ·rw[if_pos zb]at o ⊢;rw[o]
      ·rw[if_neg zb]at o;rw[o]at sa;omega
     ·rw[if_neg za]at o ⊢
      by_cases zb:b.1.size=0
      ·rw[if_pos zb]at o;rw[<-o]at sb;omega
      ·rw[if_neg zb]
theorem jkm:∀ {a b:vN},jcN a=jcN b->a=b
 | [],[],_=>rfl
 | [],y :: b,h=>by simp[jcN]at h
 | x :: a,[],h=>by simp[jcN]at h
 | x :: a,y :: b,h=>by
  have h:(x >>> 4) ::(x &&& 15) :: jcN a=(y >>> 4) ::(y &&& 15) :: jcN b:=h;injection h with h1 h;injection h with h2 h;have e:=congrArg UInt8.toNat h1;have o:=congrArg UInt8.toNat h2;rw[jlG,jlG]at e;rw[jlH,jlH]at o;rw[jkm h,show x=y from dP.1 vO]
theorem joz:∀ {a b:vL},jaR a=jaR b->a=b
 | [],[],_=>rfl
 | [],q :: b,h=>by simp[jaR]at h
 | p :: a,[],h=>by simp[jaR]at h
 | p :: a,q :: b,h=>by
  unfold jaR at h;rw[bJ,bJ]at h;injection h with h1 h2;injection h1 with h3 h4;have e:jcN p.k=jcN q.k:=congrArg (fun b:vB=>b.data.toList) h3;rw[jgu (jkm e) h4,joz h2]
theorem joL(w:vW){l m:vL}(hl:jat l=0)(hm:jat m=0)(hA:jiU (jam (jau l)) (jam (jau m)))(ht:(jau l).text=(jau m).text):l=m:=
 joz (jiq w 12 _ _ (jbt (jaw hl)) (jbt (jaw hm)) hA ht)
end Go.Proofs.YtmobgkphhbmhbaaGreatDoor
