/- Lemmas; each is under no condition but those that it states. -/
import Derived.Test.YtegloohdmjadoaaGreatDoorPu27
namespace Go.Proofs.YtegloohdmjadoaaGreatDoor
set_option linter.unusedSimpArgs false
set_option linter.unusedVariables false
set_option maxRecDepth 100000
set_option maxHeartbeats 16000000
open Go Go.RowKit
def ja4:Nat->vL->PA
 | 0,_=>.no
 | f+1,l =>
  if l.length=0 then .no
  else if l.length=1 then .leaf (l.getD 0 pd).1 (l.getD 0 pd).2
  else if 0 < comK l then .ext ((l.getD 0 pd).1.extract 0 (comK l)) (ja4 f (jak (comK l) l))
  else .br (if (l.getD 0 pd).1.size=0 then (l.getD 0 pd).2 else ⟨#[]⟩) fun i=>if (cutL i l).length=0 then .nil else ja4 f (jak 1 (cutL i l))
theorem jeo(f:Nat)(l:vL):ja4 (f+1) l =
  if l.length=0 then .no
  else if l.length=1 then .leaf (l.getD 0 pd).1 (l.getD 0 pd).2
  else if 0 < comK l then .ext ((l.getD 0 pd).1.extract 0 (comK l)) (ja4 f (jak (comK l) l))
  else .br (if (l.getD 0 pd).1.size=0 then (l.getD 0 pd).2 else ⟨#[]⟩) fun i=>if (cutL i l).length=0 then .nil else ja4 f (jak 1 (cutL i l)):=rfl
theorem jbU(f:Nat){l:vL}(h:l.length=0):ja4 (f+1) l=.no:=by rw[jeo];rw[if_pos h]
theorem jbY(f:Nat){l:vL}(h:l.length=1):ja4 (f+1) l=.leaf (l.getD 0 pd).1 (l.getD 0 pd).2:=by rw[jeo];rw[if_neg vO,if_pos h]
theorem jdv(f:Nat){l:vL}(h:2<=l.length)(hk:0 < comK l):ja4 (f+1) l=.ext ((l.getD 0 pd).1.extract 0 (comK l)) (ja4 f (jak (comK l) l)):=by
 rw[jeo];rw[if_neg vO,if_neg vO,if_pos hk]
theorem jeL(f:Nat){l:vL}(h:2<=l.length)(hk:¬ 0 < comK l):ja4 (f+1) l=.br (if (l.getD 0 pd).1.size=0 then (l.getD 0 pd).2 else ⟨#[]⟩) fun i=>if (cutL i l).length=0 then .nil else ja4 f (jak 1 (cutL i l)):=by
 rw[jeo];rw[if_neg vO,if_neg vO,if_neg hk]
theorem jyY{f:Nat}{l:vL}(h:jax f l){i:Nat}(hi:(cutL i l).length≠0):i < 16:=by
 cases e:cutL i l with
 | nil=>rw[e]at hi;exact (hi rfl).elim
 | cons p r =>
  obtain⟨m,a,t,o,A⟩:=jbB (show p∈cutL i l by rw[e];exact bK)
  rw[<-A];exact jcR (h.size p m).2.2.1 o
theorem jkN:∀ (f:Nat) (l:vL),jax f l->∀ p:vB,jaz p=true->getL (ja4 (f+1) l) p.data.toList=valL l p:=by
 intro f;induction f with
 | zero =>
  intro l h p H;have hl:=jbM h
  by_cases h0:l.length=0
  ·rw[jbU _ h0,bD h0];rfl
  ·have o:l.length=1:=vO
   rw[jbY _ o]
   obtain⟨q,rfl⟩:=fL.1 o
   show (if q.1.data.toList=p.data.toList then some q.2 else none)=if q.1=p then some q.2 else valL [] p
   by_cases e:q.1=p
   ·rw[if_pos e,if_pos (by rw[e])]
   ·rw[if_neg e,if_neg (fun h=>e (jbE h))];rfl
 | succ f ih =>
  intro l h p H
  by_cases h0:l.length=0
  ·rw[jbU _ h0,bD h0];rfl
  by_cases o:l.length=1
  ·rw[jbY _ o]
   obtain⟨q,rfl⟩:=fL.1 o
   show (if q.1.data.toList=p.data.toList then some q.2 else none)=if q.1=p then some q.2 else valL [] p
   by_cases e:q.1=p
   ·rw[if_pos e,if_pos (by rw[e])]
   ·rw[if_neg e,if_neg (fun h=>e (jbE h))];rfl
  have K:2<=l.length:=vO
  have O:=jdO h K
  by_cases hk:0 < comK l
  ·rw[jdv _ K hk]
   show (if ((l.getD 0 pd).1.extract 0 (comK l)).data.toList.isPrefixOf p.data.toList=true then getL (ja4 (f+1) (jak (comK l) l)) (p.data.toList.drop _)else none)=_;rw[jaI,O]
   by_cases hb:preB ((l.getD 0 pd).1.extract 0 (comK l)) p=true
   ·have A:goL l p=some (jak (comK l) l,p.extract (comK l) p.size):=by unfold goL;rw[if_neg vO,if_pos hk,if_pos hb]
    have m:=jiB h H A;have E:((l.getD 0 pd).1.extract 0 (comK l)).data.toList.isPrefixOf p.data.toList=true:=hb;rw[if_pos E, <-jdL,ih _ m.rows _ m.valid,m.find]
   ·have A:goL l p=none:=by unfold goL;rw[if_neg vO,if_pos hk,if_neg hb]
    have m:=(jiA h H A).2;have E:¬((l.getD 0 pd).1.extract 0 (comK l)).data.toList.isPrefixOf p.data.toList=true:=hb;rw[if_neg E, <-m];have e:jao (jac (f+1)) l=⟨2,(l.getD 0 pd).1.extract 0 (comK l),⟨#[]⟩,refB (jac (f+1) (jak (comK l) l)).text :: jam 15⟩:=by unfold jao;rw[if_neg h0,if_neg o,if_pos hk]
    rw[e];rfl
  ·rw[jeL _ K hk]
   cases hpl:p.data.toList with
   | nil =>
    have A:goL l p=none:=by unfold goL;rw[if_neg vO,if_neg hk,hpl]
    have m:=(jiA h H A).2;rw[<-m]
    obtain⟨rs,Q⟩:=vE ((List.range 16).map fun i=>if (cutL i l).length=0 then (⟨#[]⟩:vB)else refB (jac (f+1) (jak 1 (cutL i l))).text)
    have e:jao (jac (f+1)) l=⟨3,⟨#[]⟩,if (l.getD 0 pd).1.size=0 then (l.getD 0 pd).2 else ⟨#[]⟩,rs⟩:=by rw[Q];unfold jao;rw[if_neg h0,if_neg o,if_neg hk]
    rw[e];have X:p.size=0:=by rw[<-jaI p,hpl];rfl
    obtain⟨J,Z⟩:=vE (if (l.getD 0 pd).1.size=0 then (l.getD 0 pd).2 else ⟨#[]⟩)
    rw[<-Z];show (if J.size=0 then none else some J)=if (3:Nat)=1 then _ else if (3:Nat)=3 then (if p.size=0/\J.size≠0 then some J else none)else none
    rw[if_neg (by decide:¬(3:Nat)=1),if_pos rfl]
    by_cases hz:J.size=0
    ·rw[if_pos hz,if_neg (fun h=>h.2 hz)]
    ·rw[if_neg hz,if_pos ⟨X,hz⟩]
   | cons x t =>
    show getL (if (cutL x.toNat l).length=0 then .nil else ja4 (f+1) (jak 1 (cutL x.toNat l))) t=_
    by_cases hc:(cutL x.toNat l).length=0
    ·rw[if_pos hc]
     refine (jgG fun q hq e=>?_).symm;exact jfU hq (p:=q) (by show q.1.data.toList=x :: t;rw[e,hpl]) hc
    ·rw[if_neg hc]
     have A:goL l p=some (jak 1 (cutL x.toNat l),p.extract 1 p.size):=by
      unfold goL;rw[if_neg vO,if_neg hk,hpl];show (if (cutL x.toNat l).length=0 then _ else _)=_;rw[if_neg hc]
     have m:=jiB h H A;have e:t=(p.extract 1 p.size).data.toList:=by rw[jdL,hpl];rfl
     rw[e,ih _ m.rows _ m.valid,m.find]
theorem jgo{f:Nat}{l:vL}(h:jax (f+1) l){i:Nat}(hc:(cutL i l).length≠0):jax f (jak 1 (cutL i l))/\jak 1 (cutL i l)≠[]:=
 ⟨jcU i h,fun e=>by have:=jaL 1 (cutL i l);rw[e]at this;simp at this;exact hc this.symm⟩
theorem jfZ{f:Nat}{l:vL}(h:jax (f+1) l)(h2:2<=l.length)(hk:0 < comK l):jax f (jak (comK l) l)/\jak (comK l) l≠[]/\2<=(jak (comK l) l).length/\comK (jak (comK l) l)=0:=by
 have m:=jbk h h2
 exact⟨(jb8 (comK l) h (fun p o q A=>(m p o).1.trans (m q A).1.symm) (fun p o=>(m p o).2)).mono vO,
  fun e=>by have:=jaL (comK l) l;rw[e]at this;simp at this;omega,by rw[jaL];exact h2,jgf vO⟩
theorem joT:∀ (f:Nat) (l:vL),jax f l->l≠[]->CanP (ja4 (f+1) l)/\(2<=l.length->comK l=0->(ja4 (f+1) l).isBr=true):=by
 intro f;induction f with
 | zero =>
  intro l h Z;have hl:=jbM h;have h1:l.length=1:=by have:=fV.2 Z;omega
  have H:=h.size _ (jdt (l:=l) vO);rw[jbY _ h1]
  exact⟨⟨H.2.2.1,by omega⟩,fun E=>by omega⟩
 | succ f ih =>
  intro l h Z;have a0:=fV.2 Z
  by_cases h1:l.length=1
  ·have H:=h.size _ (jdt (l:=l) vO)
   rw[jbY _ h1]
   exact⟨⟨H.2.2.1,by omega⟩,fun E=>by omega⟩
  have E:2<=l.length:=vO
  have H:=h.size _ (jdt (l:=l) vO)
  by_cases hk:0 < comK l
  ·obtain⟨J,K,k3,k4⟩:=jfZ h E hk
   obtain⟨i1,i2⟩:=ih _ J K
   rw[jdv _ E hk]
   exact⟨⟨by rw[jdO h E];omega,jht H.2.2.1 _,i2 k3 k4,i1⟩,fun _ e=>by omega⟩
  ·rw[jeL _ E hk]
   refine⟨⟨fun i m=>?_,fun i m=>?_,?_⟩,fun _ _=>rfl⟩
   ·by_cases o:(cutL i l).length=0
    ·have m:(if (cutL i l).length=0 then PA.nil else ja4 (f+1) (jak 1 (cutL i l))).isNil=false:=m
     rw[if_pos o]at m;cases m
    ·exact jyY h o
   ·have m:(if (cutL i l).length=0 then PA.nil else ja4 (f+1) (jak 1 (cutL i l))).isNil=false:=m
    show CanP (if (cutL i l).length=0 then PA.nil else ja4 (f+1) (jak 1 (cutL i l)))
    by_cases o:(cutL i l).length=0
    ·rw[if_pos o]at m;cases m
    ·rw[if_neg o]
     obtain⟨J,K⟩:=jgo h o
     exact (ih _ J K).1
   ·obtain⟨a,X⟩:∃ a,l[0]?=some a:=⟨_,bA vO⟩
    obtain⟨b,hb⟩:∃ b,l[l.length - 1]?=some b:=⟨_,bA vO⟩
    have ga:l.getD 0 pd=a:=by rw[bC,X];rfl
    have gb:l.getD (l.length - 1) pd=b:=by rw[bC,hb];rfl
    have O:=jb9 h.rise vO X hb;have A:ja0 a.l b.l=0:=by
     have:comK l=0:=vO
     unfold comK at this;rw[ga,gb]at this;exact this
    have Q:∀ p∈l,∀ x t,p.l=x :: t->(if (cutL x.toNat l).length=0 then PA.nil else ja4 (f+1) (jak 1 (cutL x.toNat l))).isNil=false:=by
     intro p hp x t hx;have o:=jfU hp hx;rw[if_neg o]
     obtain⟨J,K⟩:=jgo h o
     exact jm3 (ih _ J K).1
    cases hbl:b.l with
    | nil=>rw[hbl]at O;exact absurd O (not_lt_nil _)
    | cons y s =>
     have kb:=Q b (bE hb) y s hbl;cases hal:a.l with
     | nil =>
      right;rw[ga];have h0:a.1.size=0:=by rw[<-jaI];show a.l.length=0;rw[hal];rfl
      rw[if_pos h0]
      have:=(h.size a (bE X)).2.2.2.1
      exact⟨by omega,y.toNat,kb⟩
     | cons x t =>
      left
      refine⟨x.toNat,y.toNat,fun e=>?_,Q a (bE X) x t hal,kb⟩
      have e:=dM.1 e;rw[hal,hbl,e]at A;simp[ja0]at A
theorem je8:∀ (P:PA),CanP P->∀ (p:vN) (v:vB),getL P p=some v->∀ x∈p,x.toNat < 16
 | .nil,h,_,_,_=>h.elim
 | .no,h,_,_,_=>h.elim
 | .leaf a v,h,p,u,e=>by
  obtain⟨rfl,_⟩:=jda e
  exact jco.1 h.1
 | .ext a n,h,p,u,e=>by
  obtain⟨r,rfl⟩:=jeG e
  rw[jiu]at e;intro x m;rcases bW.1 m with m | m
  ·exact jco.1 h.2.1 x m
  ·exact je8 n h.2.2.2 r u e x m
 | .br v ks,h,[],u,e=>fun x m=>by cases m
 | .br v ks,h,y :: t,u,e=>by
  have e:getL (ks y.toNat) t=some u:=e;have o:(ks y.toNat).isNil=false:=by
   cases hb:(ks y.toNat).isNil with
   | false=>rfl
   | true=>rw[jbv hb]at e;cases e
  intro x m;rcases bX.1 m with rfl | m
  ·exact h.1 _ o
  ·exact je8 (ks y.toNat) (h.2.1 _ o) t u e x m
theorem jsQ{f:Nat}{l:vL}(h:jax f l){P:PA}(hP:P=.no\/CanP P)(hg:∀ p:vB,jaz p=true->getL P p.data.toList=valL l p):P=ja4 (f+1) l:=by
 by_cases h0:l.length=0
 ·rw[jbU _ h0]
  rcases hP with e | o
  ·exact e
  ·exfalso
   obtain⟨p,v,e⟩:=jeF P o
   have m:=je8 P o p v e
   have:=hg ⟨p.toArray⟩ (jco.2 (by simpa using m))
   rw[bD h0]at this;have H:getL P (⟨p.toArray⟩:vB).data.toList=some v:=by simpa using e
   rw[H]at this;cases this
 ·have J:l≠[]:=fun e=>h0 (by rw[e];rfl)
  obtain⟨o,_⟩:=joT f l h J
  rcases hP with rfl | hP
  ·exfalso
   obtain⟨p,v,e⟩:=jeF _ o
   have m:=je8 _ o p v e;have A:=jkN f l h ⟨p.toArray⟩ (jco.2 (by simpa using m));have H:getL (ja4 (f+1) l) (⟨p.toArray⟩:vB).data.toList=some v:=by simpa using e
   have E:=hg ⟨p.toArray⟩ (jco.2 (by simpa using m));rw[H]at A;rw[<-A]at E;cases E
  ·refine uniq P _ hP o fun p=>?_
   by_cases m:∀ x∈p,x.toNat < 16
   ·have A:=jkN f l h ⟨p.toArray⟩ (jco.2 (by simpa using m))
    have E:=hg ⟨p.toArray⟩ (jco.2 (by simpa using m));have e:(⟨p.toArray⟩:vB).data.toList=p:=by simp
    rw[e]at A E;rw[A,E]
   ·have g:∀ Q:PA,CanP Q->getL Q p=none:=by
     intro Q K;cases e:getL Q p with
     | none=>rfl
     | some v=>exact absurd (je8 Q K p v e) m
    rw[g P hP,g _ o]
noncomputable def putN(n:jad):vB:=@ite _ (∃ d,jbI (InlD d) n) (Classical.propDecidable _) (jaO n) ⟨#[]⟩
theorem jme{d:Nat}{n:jad}(h:jbI (InlD d) n):putN n=jaO n:=if_pos ⟨d,h⟩
noncomputable def textP:PA->vB
 | .nil=>⟨#[]⟩
 | .no=>putN jav
 | .leaf q v=>putN ⟨1,q,v,jam 16⟩
 | .ext q n=>putN ⟨2,q,⟨#[]⟩,refB (textP n) :: jam 15⟩
 | .br v ks=>putN ⟨3,⟨#[]⟩,v,(List.range 16).map fun i=>if (ks i).isNil then ⟨#[]⟩else refB (textP (ks i))⟩
noncomputable def nodeP:PA->jad
 | .nil=>jav
 | .no=>jav
 | .leaf q v=>⟨1,q,v,jam 16⟩
 | .ext q n=>⟨2,q,⟨#[]⟩,refB (textP n) :: jam 15⟩
 | .br v ks=>⟨3,⟨#[]⟩,v,(List.range 16).map fun i=>if (ks i).isNil then ⟨#[]⟩else refB (textP (ks i))⟩
noncomputable def underP:PA->vM
 | .nil=>[]
 | .no=>[]
 | .leaf _ _=>[]
 | .ext _ n=>bigs (textP n)++underP n
 | .br _ ks=>(List.range 16).flatMap fun i=>if (ks i).isNil then []else bigs (textP (ks i))++underP (ks i)
theorem jmH{P:PA}(h:P.isNil=false):textP P=putN (nodeP P):=by cases P <;> first | rfl | cases h
theorem jdC{f:Nat}{l:vL}:(ja4 (f+1) l).isNil=false:=by
 rw[jeo];split
 ·rfl
 ·split
  ·rfl
  ·split <;> rfl
theorem jg3{α:Type}(g:α->List PT):∀ L:List α,jaA (L.flatMap g)=L.flatMap fun i=>jaA (g i)
 | []=>rfl
 | x :: L=>by rw[dI,jcp,jg3 g L];rfl
theorem jfC:∀ (f:Nat) (l:vL),jax f l->nodeP (ja4 (f+1) l)=jao (jac f) l/\textP (ja4 (f+1) l)=(jac (f+1) l).text/\underP (ja4 (f+1) l)=jaA (jar (jac f) l):=by
 intro f;have o:∀ (f:Nat) (l:vL),jax f l->nodeP (ja4 (f+1) l)=jao (jac f) l->textP (ja4 (f+1) l)=(jac (f+1) l).text:=by
  intro f l Z h;rw[jmH jdC,h,jme (good f l Z).1];rfl
 induction f with
 | zero =>
  intro l h;have hl:=jbM h
  by_cases h0:l.length=0
  ·have e:nodeP (ja4 (0+1) l)=jao (jac 0) l:=by rw[jbU _ h0];unfold jao;rw[if_pos h0];rfl
   exact⟨e,o 0 l h e,by rw[jbU _ h0];unfold jar;rw[if_pos vO];rfl⟩
  ·have A:l.length=1:=vO
   have e:nodeP (ja4 (0+1) l)=jao (jac 0) l:=by rw[jbY _ A];unfold jao;rw[if_neg h0,if_pos A];rfl
   exact⟨e,o 0 l h e,by rw[jbY _ A];unfold jar;rw[if_pos vO];rfl⟩
 | succ f ih =>
  intro l h;have H:∀ m,jax f m->m≠[]->bigs (textP (ja4 (f+1) m))++underP (ja4 (f+1) m)=jaA (jbo (jac (f+1) m)):=by
   intro m X O
   obtain⟨_,i2,i3⟩:=ih m X
   have Q:=(good f m X).2.1 O;rw[i2,i3];unfold bigs jbo
   by_cases hz:(jac (f+1) m).text.size < 32
   ·rw[if_pos hz,if_pos hz]
    have e:(jac (f+1) m).kids=[]:=Q.small hz;have e:jar (jac f) m=[]:=e;rw[e];rfl
   ·rw[if_neg hz,if_neg hz]
    show _=jaB (jac (f+1) m)++[];rw[cC];rfl
  by_cases h0:l.length=0
  ·have e:nodeP (ja4 (f+1+1) l)=jao (jac (f+1)) l:=by rw[jbU _ h0];unfold jao;rw[if_pos h0];rfl
   exact⟨e,o _ l h e,by rw[jbU _ h0];unfold jar;rw[if_pos vO];rfl⟩
  by_cases A:l.length=1
  ·have e:nodeP (ja4 (f+1+1) l)=jao (jac (f+1)) l:=by rw[jbY _ A];unfold jao;rw[if_neg h0,if_pos A];rfl
   exact⟨e,o _ l h e,by rw[jbY _ A];unfold jar;rw[if_pos vO];rfl⟩
  have J:2<=l.length:=vO
  by_cases hk:0 < comK l
  ·obtain⟨E,K,_,_⟩:=jfZ h J hk
   have e:nodeP (ja4 (f+1+1) l)=jao (jac (f+1)) l:=by
    rw[jdv _ J hk];unfold jao;rw[if_neg h0,if_neg A,if_pos hk];show (⟨2,_,⟨#[]⟩,refB (textP (ja4 (f+1) (jak (comK l) l))) :: jam 15⟩:jad)=_;rw[(ih _ E).2.1]
   refine⟨e,o _ l h e,?_⟩
   rw[jdv _ J hk];unfold jar;rw[if_neg vO,if_pos hk];exact H _ E K
  ·have e:nodeP (ja4 (f+1+1) l)=jao (jac (f+1)) l:=by
    rw[jeL _ J hk];unfold jao;rw[if_neg h0,if_neg A,if_neg hk];show (⟨3,⟨#[]⟩,_,(List.range 16).map _⟩:jad)=⟨3,⟨#[]⟩,_,(List.range 16).map _⟩
    congr 1
    refine dV fun i _=>?_;show (if (if (cutL i l).length=0 then PA.nil else ja4 (f+1) (jak 1 (cutL i l))).isNil=true then _ else refB (textP (if (cutL i l).length=0 then PA.nil else ja4 (f+1) (jak 1 (cutL i l)))))=_
    by_cases hc:(cutL i l).length=0
    ·rw[if_pos hc,if_pos hc];rfl
    ·obtain⟨E,K⟩:=jgo h hc
     rw[if_neg hc,if_neg hc,jdC,if_neg ff,(ih _ E).2.1]
   refine⟨e,o _ l h e,?_⟩
   have eB:jar (jac (f+1)) l=(List.range 16).flatMap fun i=>if (cutL i l).length=0 then []else jbo (jac (f+1) (jak 1 (cutL i l))):=by unfold jar;rw[if_neg vO,if_neg hk]
   rw[jeL _ J hk,eB,jg3];show (List.range 16).flatMap _=_
   congr 1
   funext i
   show (if (if (cutL i l).length=0 then PA.nil else ja4 (f+1) (jak 1 (cutL i l))).isNil=true then _ else bigs (textP (if (cutL i l).length=0 then PA.nil else ja4 (f+1) (jak 1 (cutL i l))))++underP (if (cutL i l).length=0 then PA.nil else ja4 (f+1) (jak 1 (cutL i l))))=_
   by_cases hc:(cutL i l).length=0
   ·rw[if_pos hc,if_pos hc];rfl
   ·obtain⟨E,K⟩:=jgo h hc
    rw[if_neg hc,if_neg hc,jdC,if_neg ff];exact H _ E K
def keyR(p v:vB):vL:=if jem p=true then [(jbD p,v)]else []
def entP:PA->vB->vL
 | .nil,_=>[]
 | .no,_=>[]
 | .leaf q v,p=>keyR (p++q) v
 | .ext q n,p=>entP n (p++q)
 | .br v ks,p=>(if v.size=0 then []else keyR p v)++(List.range 16).flatMap fun i=>if (ks i).isNil then []else entP (ks i) (p++nib1 i)
theorem jlG(p a:vB)(k:Nat)(l:vL)(h:∀ q∈l,p++q.1=(p++a)++q.1.extract k q.1.size):(jak k l).map (fun q=>(jbD ((p++a)++q.1),q.2))=l.map fun q=>(jbD (p++q.1),q.2):=by
 unfold jak;rw[dO];refine dV fun q e=>?_;show (jbD ((p++a)++q.1.extract k q.1.size),q.2)=_;rw[<-h q e]
theorem jsO:∀ (f:Nat) (l:vL),jax f l->∀ p:vB,(∀ q∈l,jem (p++q.1)=true)->entP (ja4 (f+1) l) p=l.map fun q=>(jbD (p++q.1),q.2):=by
 intro f;induction f with
 | zero =>
  intro l h p A;have hl:=jbM h
  by_cases h0:l.length=0
  ·rw[jbU _ h0,bD h0];rfl
  ·have E:l.length=1:=vO
   rw[jbY _ E]
   obtain⟨q,rfl⟩:=fL.1 E
   show keyR (p++q.1) q.2=[(jbD (p++q.1),q.2)];unfold keyR;rw[if_pos (A q bK)]
 | succ f ih =>
  intro l h p A
  by_cases h0:l.length=0
  ·rw[jbU _ h0,bD h0];rfl
  by_cases E:l.length=1
  ·rw[jbY _ E]
   obtain⟨q,rfl⟩:=fL.1 E
   show keyR (p++q.1) q.2=[(jbD (p++q.1),q.2)];unfold keyR;rw[if_pos (A q bK)]
  have O:2<=l.length:=vO
  by_cases hk:0 < comK l
  ·obtain⟨Q,k2,_,_⟩:=jfZ h O hk
   have H:=jbk h O;rw[jdv _ O hk];show entP (ja4 (f+1) (jak (comK l) l)) (p++(l.getD 0 pd).1.extract 0 (comK l))=_;have m:∀ q∈l,p++q.1=(p++(l.getD 0 pd).1.extract 0 (comK l))++q.1.extract (comK l) q.1.size:=fun q o=>jwF (by rw[(H q o).1,jgn]);rw[ih _ Q _ (fun q o=>?_),jlG p _ _ l m]
   obtain⟨r,J,rfl⟩:=bI.1 o
   show jem ((p++(l.getD 0 pd).1.extract 0 (comK l))++r.1.extract (comK l) r.1.size)=true;rw[<-m r J];exact A r J
  ·rw[jeL _ O hk]
   have X:l≠[]:=fun e=>h0 (by rw[e];rfl);have Z:=jqm h;have a0:=jpQ h X;have e1:(if (if (l.getD 0 pd).1.size=0 then (l.getD 0 pd).2 else ⟨#[]⟩:vB).size=0 then []else keyR p (if (l.getD 0 pd).1.size=0 then (l.getD 0 pd).2 else ⟨#[]⟩))=(jrF l).map fun q=>(jbD (p++q.1),q.2):=by
    rw[a0]
    by_cases hz:(l.getD 0 pd).1.size=0
    ·have hm:=jdt (l:=l) vO
     have hs:=h.size _ hm;rw[if_pos hz,if_pos hz,if_neg vO];have e0:p++(l.getD 0 pd).1=p:=by rw[jbj hz];exact jbE (by rw[jln];simp)
     show keyR p _=[(jbD (p++(l.getD 0 pd).1),(l.getD 0 pd).2)];have K:=A _ hm;rw[e0]at K ⊢;unfold keyR;rw[if_pos K]
    ·rw[if_neg hz,if_neg hz];rfl
   show (if (if (l.getD 0 pd).1.size=0 then (l.getD 0 pd).2 else ⟨#[]⟩:vB).size=0 then []else keyR p (if (l.getD 0 pd).1.size=0 then (l.getD 0 pd).2 else ⟨#[]⟩))++(List.range 16).flatMap _=l.map _;rw[e1]
   conv=>rhs;rw[Z]
   rw[bZ,List.map_flatMap]
   congr 1
   congr 1
   funext i
   show (if (if (cutL i l).length=0 then PA.nil else ja4 (f+1) (jak 1 (cutL i l))).isNil=true then []else entP (if (cutL i l).length=0 then PA.nil else ja4 (f+1) (jak 1 (cutL i l))) (p++nib1 i))=_
   by_cases hc:(cutL i l).length=0
   ·rw[if_pos hc,bD hc];rfl
   ·obtain⟨Q,k2⟩:=jgo h hc
    rw[if_neg hc,jdC,if_neg ff];have m:∀ q∈cutL i l,p++q.1=(p++nib1 i)++q.1.extract 1 q.1.size:=fun q o=>by
     obtain⟨_,a,r,e,ha⟩:=jbB o
     exact jwE (k:=0) e ha
    rw[ih _ Q _ (fun q o=>?_),jlG p _ _ _ m]
    obtain⟨r,J,rfl⟩:=bI.1 o
    show jem ((p++nib1 i)++r.1.extract 1 r.1.size)=true;rw[<-m r J];exact A r (jbB J).1
section
attribute [local go_sem] Oper.semAt_some
theorem jkn{F:BSet}{w2 w3:vW}{m:Nat}{a:Act}{o:Oper}(ho:execOp a.eval o=(do pure (.value (<-convert 52 9 (.slice (some ⟨w2.heap.size,0,none⟩) 1 1)))))
  (h:jae F (w2.alloc (.cells #[.int .u8 (m:Int)] 5)) w3) (hF:¬ F w2.heap.size) (hm:m < 16):(execOp a.eval o).run Tryz.prog w3=.ok (.value (.string (nib1 m))) w3:=by
 have A:=(Blk.new w2 (.cells #[.int .u8 (m:Int)] 5)).keeps h hF;have e:(m:Int)=((UInt8.ofNat m).toNat:Int):=by rw[jqy m vO]
 have E:w3.ownsRow 0 5 1 (.slice (some ⟨w2.heap.size,0,none⟩) 1 1) 1 (jaK [UInt8.ofNat m]):=
  ⟨rfl,.inr ⟨_,1,_,rfl,cD _,A,bM _,by unfold maxLen;omega,rfl,by rw[e];rfl⟩⟩
 have H:=jbr w3 Tryz.uBytes Tryz.uU8 Tryz.uStr E;rw[ho,cA,H];rfl
end
section
attribute [local go_sem] Oper.semAt_some
theorem jvb(k:vB):jem (jbf k)=true:=by
 unfold jem;rw[jcS,jep];simp
theorem jiQ:∀ l:vN,jcv (jcA l)=l
 | []=>rfl
 | b :: l=>by
  have h:(b >>> 4) <<< 4 |||(b &&& 15)=b:=by
   have h:∀ b:Fin 256,((UInt8.ofNat b.1) >>> 4) <<< 4 |||((UInt8.ofNat b.1) &&& 15)=UInt8.ofNat b.1:=by decide +kernel
   have:=h ⟨b.toNat,b.toNat_lt⟩
   simpa only[iN]using this
  show ((b >>> 4) <<< 4 |||(b &&& 15)) :: jcv (jcA l)=_;rw[h,jiQ l]
theorem jhi(k:vB):jbD (jbf k)=k:=by
 unfold jbD jbf;show (⟨(jcv (jcA k.data.toList)).toArray⟩:vB)=k;rw[jiQ]
end
end Go.Proofs.YtegloohdmjadoaaGreatDoor
