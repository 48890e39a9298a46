/- Lemmas; each is under no condition but those that it states. -/
import Derived.Test.YtmobgkphhbmhbaaGreatDoorPb18
namespace Go.Proofs.YtmobgkphhbmhbaaGreatDoor
set_option linter.unusedSimpArgs false
set_option linter.unusedVariables false
set_option maxRecDepth 100000
set_option maxHeartbeats 16000000
open Go Go.RowKit
def jno(n:jae)(p:vB):vB × vB:=
 if n.kind=3 then match p.data.toList with
  | []=>(⟨#[]⟩,p)
  | x :: _=>if (n.refs.getD x.toNat ⟨#[]⟩).size=0 then (⟨#[]⟩,p)else (n.refs.getD x.toNat ⟨#[]⟩,p.extract 1 p.size)
 else if n.kind=2 then if preB n.path p then (n.refs.getD 0 ⟨#[]⟩,p.extract n.path.size p.size)else (⟨#[]⟩,p)
 else (⟨#[]⟩,p)
def ji8(n:jae)(p:vB):Option vB:=
 if n.kind=1 then if n.path=p then some n.value else none
 else if n.kind=3 then if p.size=0/\n.value.size≠0 then some n.value else none
 else none
def valL:vL->vB->Option vB
 | [],_=>none
 | q :: l,p=>if q.1=p then some q.2 else valL l p
def goL(l:vL)(p:vB):Option (vL × vB):=
 if l.length<=1 then none
 else if 0 < comK l then if preB ((l.getD 0 pd).1.extract 0 (comK l)) p then some (jag (comK l) l,p.extract (comK l) p.size)else none
 else match p.data.toList with
  | []=>none
  | x :: _=>if (cutL x.toNat l).length=0 then none else some (jag 1 (cutL x.toNat l),p.extract 1 p.size)
def bigs(t:vB):vM:=if t.size < 32 then []else [t]
def sumL:vL->Nat
 | []=>0
 | q :: l=>q.1.size+sumL l
theorem jkL:∀ {l:vL} {p v:vB},valL l p=some v->(p,v)∈l
 | q :: l,p,v,h=>by
  unfold valL at h;split at h
  ·rename_i e
   obtain rfl:=bV h;subst e;exact bD
  ·exact bC _ (jkL h)
theorem joU:∀ {l:vL} {p v:vB},(l.Pairwise fun p q=>Lt p.l q.l)->(p,v)∈l->valL l p=some v
 | q :: l,p,v,hl,h=>by
  rw[cW]at hl;unfold valL;rcases bJ.1 h with h | h
  ·subst h;rw[if_pos rfl]
  ·rw[if_neg (fun e=>by have:=hl.1 _ h;rw[show q.l=p.data.toList from congrArg (fun x:vB=>x.data.toList) e]at this;exact lt_irrefl _ this),joU hl.2 h]
theorem jgG{l:vL}{p:vB}(h:∀ q∈l,q.1≠p):valL l p=none:=by
 cases hv:valL l p with
 | none=>rfl
 | some v=>exact absurd rfl (h _ (jkL hv))
theorem joV{l m:vL}{p q:vB}(hl:l.Pairwise fun p q=>Lt p.l q.l)(hm:m.Pairwise fun p q=>Lt p.l q.l)(h:∀ v,(p,v)∈l↔(q,v)∈m):valL l p=valL m q:=by
 cases hv:valL l p with
 | some v=>exact (joU hm ((h v).1 (jkL hv))).symm
 | none =>
  cases hw:valL m q with
  | none=>rfl
  | some v=>rw[joU hl ((h v).2 (jkL hw))]at hv;cases hv
theorem jdk(a p:vB):preB a p=true↔∃ r,p.data.toList=a.data.toList++r:=by
 unfold preB;rw[List.isPrefixOf_iff_prefix]
 exact⟨fun ⟨r,h⟩=>⟨r,h.symm⟩,fun ⟨r,h⟩=>⟨r,h.symm⟩⟩
theorem jdi(b:vB)(k:Nat):(b.extract k b.size).data.toList=b.data.toList.drop k:=jcD b k b.size (bM _)
theorem jaK(b:vB):b.data.toList.length=b.size:=rfl
theorem joK(k:Nat):∀ l:vL,sumL (jag k l)<=sumL l
 | []=>bM _
 | q :: l=>by
  have:=joK k l
  show (q.1.extract k q.1.size).size+sumL (jag k l)<=q.1.size+sumL l;rw[jaY];omega
theorem jiE{k:Nat}(hk:0 < k):∀ {l:vL},l≠[]->(∀ q∈l,k<=q.1.size)->sumL (jag k l) < sumL l
 | q :: l,_,h=>by
  have:=joK k l
  have:=h q bD
  show (q.1.extract k q.1.size).size+sumL (jag k l) < q.1.size+sumL l;rw[jaY];omega
theorem jjH(g:Pair->Bool):∀ l:vL,sumL (l.filter g)<=sumL l
 | []=>bM _
 | q :: l=>by
  have:=jjH g l
  rw[dP];show _<=q.1.size+sumL l;split
  ·show q.1.size+sumL _<=_;omega
  ·omega
structure KidP(f:Nat)(l:vL)(p:vB)(m:vL)(q:vB):Prop where
 rows:jar f m
 ne:m≠[]
 step:jno (jan (jab (f+1)) l) p=(refB (jab (f+1) m).text,q)
 less:q.size < p.size
 valid:jaG q=true
 flat:∀ x∈jao (jab (f+1) m),32<=x.size->x∈jao (jab (f+1+1) l)
 find:valL m q=valL l p
 sum:sumL m < sumL l
 no:ji8 (jan (jab (f+1)) l) p=none
theorem jdo{l:vL}(h:0 < l.length):l.getD 0 pd∈l:=by rw[bG,bA h];exact fD _
theorem jeX{l:vL}:((l.getD 0 pd).1.extract 0 (comK l)).data.toList=(l.getD 0 pd).l.take (comK l):=by
 rw[fF,fV,fG];simp
theorem jc9{f:Nat}{l:vL}(h:jar f l)(h2:2<=l.length):((l.getD 0 pd).1.extract 0 (comK l)).size=comK l:=by
 have:=(jbr h h2 _ (jdo vO)).2
 rw[cS];omega
theorem jq9{f:Nat}{l:vL}{p:vB}{m:vL}{q:vB}(h:jar (f+1) l)(H:jaG p=true)(o:goL l p=some (m,q)):KidP f l p m q:=by
 unfold goL at o
 by_cases h1:l.length<=1
 ·rw[if_pos h1]at o;cases o
 rw[if_neg h1]at o;have J:2<=l.length:=vO
 have z:=jbr h J
 by_cases hk:0 < comK l
 ·rw[if_pos hk]at o
  by_cases hpre:preB ((l.getD 0 pd).1.extract 0 (comK l)) p=true
  case neg=>rw[if_neg hpre]at o;cases o
  rw[if_pos hpre]at o
  obtain⟨rfl,rfl⟩:=Prod.mk.inj (bV o)
  have A:jar f (jag (comK l) l):=(jcm (comK l) h (fun p H q Q=>(z p H).1.trans (z q Q).1.symm) (fun p H=>(z p H).2)).mono vO;have E:jag (comK l) l≠[]:=fun e=>by have:=jaA (comK l) l;rw[e]at this;simp at this;omega
  have eB:jaq (jab (f+1)) l=jbt (jab (f+1) (jag (comK l) l)):=by unfold jaq;rw[if_neg vO,if_pos hk]
  have X:jan (jab (f+1)) l=⟨2,(l.getD 0 pd).1.extract 0 (comK l),⟨#[]⟩,refB (jab (f+1) (jag (comK l) l)).text :: jat 15⟩:=by unfold jan;rw[if_neg vO,if_neg vO,if_pos hk]
  obtain⟨r,hr⟩:=(jdk _ _).1 hpre
  have a4:comK l<=p.size:=by
   rw[<-jaK p,hr,bF,jaK,jc9 h J];omega
  refine⟨A,E,?_,by rw[jaY];omega,jbk H _ _,jhu E A (by rw[eB];exact fun _ hh=>hh),?_,jiE hk (fun e=>by rw[e]at J;simp at J) (fun q Q=>(z q Q).2),by rw[X];rfl⟩
  ·rw[X]
   unfold jno;rw[if_neg (show ¬(2:Nat)=3 by decide),if_pos rfl,if_pos hpre];show (_,p.extract ((l.getD 0 pd).1.extract 0 (comK l)).size p.size)=_;rw[jc9 h J];rfl
  ·refine joV A.rise h.rise fun v=>⟨fun K=>?_,fun K=>?_⟩
   ·obtain⟨x,Z,e⟩:=bH.1 K
    obtain⟨e1,e2⟩:=Prod.mk.inj e
    have:x=(p,v):=by
     refine Prod.ext (jbW ?_) e2;have e3:x.1.data.toList.drop (comK l)=p.data.toList.drop (comK l):=by rw[<-jdi,e1,jdi]
     have e4:x.1.data.toList.take (comK l)=p.data.toList.take (comK l):=by
      rw[show x.1.data.toList=x.l from rfl,(z x Z).1, <-jeX,hr,gE (by rw[jaK,jc9 h J];exact bM _),cD (by rw[jaK,jc9 h J];exact bM _)]
     show x.1.data.toList=p.data.toList;rw[<-dC (comK l) x.1.data.toList,e3,e4,dC]
    rw[<-this];exact Z
   ·exact bH.2 ⟨_,K,rfl⟩
 ·rw[if_neg hk]at o
  cases hpl:p.data.toList with
  | nil=>rw[hpl]at o;cases o
  | cons x r =>
   rw[hpl]at o
   by_cases hc:(cutL x.toNat l).length=0
   ·have o:(if (cutL x.toNat l).length=0 then none else some (jag 1 (cutL x.toNat l),p.extract 1 p.size))=some (m,q):=o
    rw[if_pos hc]at o;cases o
   have o:(if (cutL x.toNat l).length=0 then none else some (jag 1 (cutL x.toNat l),p.extract 1 p.size))=some (m,q):=o;rw[if_neg hc]at o
   obtain⟨rfl,rfl⟩:=Prod.mk.inj (bV o)
   have A:jar f (jag 1 (cutL x.toNat l)):=jdJ x.toNat h;have E:jag 1 (cutL x.toNat l)≠[]:=fun e=>by have:=jaA 1 (cutL x.toNat l);rw[e]at this;simp at this;exact hc this.symm
   have Z:x.toNat < 16:=je0 (p:=(p,p)) H hpl;have eB:jaq (jab (f+1)) l=(List.range 16).flatMap fun i=>if (cutL i l).length=0 then []else jbt (jab (f+1) (jag 1 (cutL i l))):=by unfold jaq;rw[if_neg vO,if_neg hk]
   obtain⟨rs,O⟩:=vE ((List.range 16).map fun i=>if (cutL i l).length=0 then (⟨#[]⟩:vB)else refB (jab (f+1) (jag 1 (cutL i l))).text)
   obtain⟨va,a3⟩:=vE (if (l.getD 0 pd).1.size=0 then (l.getD 0 pd).2 else ⟨#[]⟩)
   have X:jan (jab (f+1)) l=⟨3,⟨#[]⟩,va,rs⟩:=by rw[O,a3];unfold jan;rw[if_neg vO,if_neg vO,if_neg hk]
   have a0:rs.getD x.toNat ⟨#[]⟩=refB (jab (f+1) (jag 1 (cutL x.toNat l))).text:=by rw[O,jfq _ Z,if_neg hc]
   clear O a3;have a4:1<=p.size:=by rw[<-jaK p,hpl];simp
   have a1:∀ q∈cutL x.toNat l,1<=q.1.size:=fun q Q=>by
    obtain⟨_,a,r,e,_⟩:=jbq Q
    rw[<-jaK,show q.1.data.toList=a :: r from e];simp
   have a2:sumL (jag 1 (cutL x.toNat l)) < sumL l:=bQ (jiE (Nat.zero_lt_one) (fun e=>hc (by rw[e];rfl)) a1) (jjH _ _)
   refine⟨A,E,?_,by rw[jaY];omega,jbk H _ _,jhu E A (fun y hy=>?_),?_,a2,?_⟩
   ·rw[X]
    unfold jno;rw[if_pos rfl,hpl];show (if (rs.getD x.toNat ⟨#[]⟩).size=0 then _ else (rs.getD x.toNat ⟨#[]⟩,_))=_;rw[a0,if_neg (jkD A E)]
   ·rw[eB]
    exact cO.2 ⟨x.toNat,dJ.2 Z,by rw[if_neg hc];exact hy⟩
   ·refine joV A.rise h.rise fun v=>⟨fun K=>?_,fun K=>?_⟩
    ·obtain⟨y,hy,e⟩:=bH.1 K
     obtain⟨a5,a,r',e3,e4⟩:=jbq hy
     obtain⟨e1,e2⟩:=Prod.mk.inj e
     have:y=(p,v):=by
      refine Prod.ext (jbW ?_) e2;have e5:y.1.data.toList.drop 1=p.data.toList.drop 1:=by rw[<-jdi,e1,jdi]
      have e3:y.1.data.toList=a :: r':=e3;show y.1.data.toList=p.data.toList;rw[e3,hpl]at e5 ⊢;simp at e5;rw[e5,dR.1 e4]
     rw[<-this];exact a5
    ·refine bH.2 ⟨(p,v),?_,rfl⟩
     refine cH.2 ⟨K,?_⟩;unfold je4;show (match p.data.toList with | []=>false | a :: _=>a.toNat == x.toNat)=true;rw[hpl];simp
   ·rw[X]
    unfold ji8;rw[if_neg (show ¬(3:Nat)=1 by decide),if_pos rfl,if_neg (fun e=>by have:=e.1;omega)]
theorem jq8{f:Nat}{l:vL}{p:vB}(h:jar f l)(hp:jaG p=true)(o:goL l p=none):jno (jan (jab f) l) p=(⟨#[]⟩,p)/\ji8 (jan (jab f) l) p=valL l p:=by
 by_cases h0:l.length=0
 ·have e:jan (jab f) l=jaV:=by unfold jan;rw[if_pos h0]
  rw[e,bE h0]
  exact⟨rfl,rfl⟩
 by_cases h1:l.length=1
 ·have e:jan (jab f) l=⟨1,(l.getD 0 pd).1,(l.getD 0 pd).2,jat 16⟩:=by unfold jan;rw[if_neg h0,if_pos h1]
  rw[e]
  obtain⟨q,rfl⟩:=fC.1 h1
  exact⟨rfl,by unfold ji8 valL valL;rfl⟩
 have h2:2<=l.length:=vO
 have J:=jbr h h2;unfold goL at o;rw[if_neg vO]at o
 by_cases hk:0 < comK l
 ·rw[if_pos hk]at o
  have e:jan (jab f) l=⟨2,(l.getD 0 pd).1.extract 0 (comK l),⟨#[]⟩,refB (jab f (jag (comK l) l)).text :: jat 15⟩:=by unfold jan;rw[if_neg h0,if_neg h1,if_pos hk]
  have z:¬ preB ((l.getD 0 pd).1.extract 0 (comK l)) p=true:=fun hh=>by rw[if_pos hh]at o;cases o
  rw[e]
  refine⟨?_,?_⟩
  ·unfold jno
   rw[if_neg (show ¬(2:Nat)=3 by decide),if_pos rfl,if_neg z]
  ·refine (Eq.trans ?_ (jgG fun q K e=>?_).symm)
   ·rfl
   ·refine z ((jdk _ _).2 ⟨p.data.toList.drop (comK l),?_⟩)
    rw[jeX, <-(J q K).1,show q.l=p.data.toList from congrArg (fun x:vB=>x.data.toList) e,dC]
 ·rw[if_neg hk]at o
  obtain⟨Z,A⟩:=vE ((List.range 16).map fun i=>if (cutL i l).length=0 then (⟨#[]⟩:vB)else refB (jab f (jag 1 (cutL i l))).text)
  have e:jan (jab f) l=⟨3,⟨#[]⟩,if (l.getD 0 pd).1.size=0 then (l.getD 0 pd).2 else ⟨#[]⟩,Z⟩:=by rw[A];unfold jan;rw[if_neg h0,if_neg h1,if_neg hk]
  have O:∀ i,i < 16->(cutL i l).length=0->Z.getD i ⟨#[]⟩=⟨#[]⟩:=fun i X E=>by rw[A,jfq _ X,if_pos E]
  clear A;rw[e];cases hpl:p.data.toList with
  | nil =>
   have H:p.size=0:=by rw[<-jaK p,hpl];rfl
   refine⟨?_,?_⟩
   ·unfold jno
    rw[if_pos rfl,hpl]
   ·unfold ji8
    rw[if_neg (show ¬(3:Nat)=1 by decide),if_pos rfl];have a1:p=⟨#[]⟩:=jbW (by rw[hpl]);have hm:=jdo (l:=l) vO
    obtain⟨_,_,_,s4,_⟩:=h.size _ hm
    by_cases hz:(l.getD 0 pd).1.size=0
    ·simp only[hz,if_true]
     rw[if_pos ⟨H,by omega⟩];refine (joU h.rise ?_).symm;have a0:(l.getD 0 pd).1.data.toList=[]:=bE hz
     have:(p,(l.getD 0 pd).2)=l.getD 0 pd:=Prod.ext (by
      show p=(l.getD 0 pd).1;exact jbW (by rw[hpl,a0])) rfl
     rw[this];exact hm
    ·simp only[if_neg hz]
     rw[if_neg (fun e=>e.2 rfl)];refine (jgG fun q K e=>?_).symm
     obtain⟨i,X⟩:=fZ K
     cases i with
     | zero =>
      have:l.getD 0 pd=q:=by rw[bG,X];rfl
      rw[this,e]at hz;exact hz H
     | succ i =>
      obtain⟨a,ha⟩:∃ a,l[0]?=some a:=⟨_,bA vO⟩
      have:=jcy h.rise vO ha X
      rw[show q.l=[]from(congrArg (fun x:vB=>x.data.toList) e).trans hpl]at this;exact not_lt_nil _ this
  | cons x r =>
   rw[hpl]at o;have o:(if (cutL x.toNat l).length=0 then none else some (jag 1 (cutL x.toNat l),p.extract 1 p.size))=none:=o;have E:(cutL x.toNat l).length=0:=by
    by_cases E:(cutL x.toNat l).length=0
    ·exact E
    ·rw[if_neg E]at o;cases o
   have hx:x.toNat < 16:=je0 (p:=(p,p)) hp hpl;have H:1<=p.size:=by rw[<-jaK p,hpl];simp
   refine⟨?_,?_⟩
   ·unfold jno
    rw[if_pos rfl,hpl];show (if (Z.getD x.toNat ⟨#[]⟩).size=0 then _ else _)=_;rw[O _ hx E,if_pos (show (⟨#[]⟩:vB).size=0 from rfl)]
   ·unfold ji8
    rw[if_neg (show ¬(3:Nat)=1 by decide),if_pos rfl,if_neg (fun e=>by have:=e.1;omega)];refine (jgG fun q K e=>?_).symm;have Q:q∈cutL x.toNat l:=cH.2 ⟨K,by
     unfold je4;rw[show q.1.data.toList=x :: r from(congrArg (fun x:vB=>x.data.toList) e).trans hpl];simp⟩
    rw[bE E]at Q;cases Q
theorem jiZ:∀ (f g:Nat) (l:vL),jar f l->f<=g->jan (jab f) l=jan (jab g) l/\jab (f+1) l=jab (g+1) l:=by
 have A:∀ (f g:Nat) (l:vL),jan (jab f) l=jan (jab g) l->jaq (jab f) l=jaq (jab g) l->jan (jab f) l=jan (jab g) l/\jab (f+1) l=jab (g+1) l:=fun f g l z E=>⟨z,by
  show PT.mk (jaU (jan (jab f) l)) (jaq (jab f) l)=PT.mk (jaU (jan (jab g) l)) (jaq (jab g) l);rw[z,E]⟩
 intro f;induction f with
 | zero =>
  intro g l h O;have z:=jbA h;refine A _ _ _ ?_ ?_
  ·unfold jan
   by_cases h0:l.length=0
   ·rw[if_pos h0,if_pos h0]
   ·rw[if_neg h0,if_neg h0,if_pos vO,if_pos vO]
  ·unfold jaq;rw[if_pos z,if_pos z]
 | succ f ih =>
  intro g l h O
  obtain⟨g,rfl⟩:∃ k,g=k+1:=⟨g - 1,by omega⟩
  by_cases z:l.length<=1
  ·refine A _ _ _ ?_ ?_
   ·unfold jan
    by_cases h0:l.length=0
    ·rw[if_pos h0,if_pos h0]
    ·rw[if_neg h0,if_neg h0,if_pos vO,if_pos vO]
   ·unfold jaq;rw[if_pos z,if_pos z]
  have E:2<=l.length:=vO
  have o:=jbr h E;have J:0 < comK l->jab (f+1) (jag (comK l) l)=jab (g+1) (jag (comK l) l):=fun e =>
   (ih g _ ((jcm (comK l) h (fun p H q Q=>(o p H).1.trans (o q Q).1.symm) (fun p H=>(o p H).2)).mono vO) vO).2
  have K:∀ i,jab (f+1) (jag 1 (cutL i l))=jab (g+1) (jag 1 (cutL i l)):=fun i=>(ih g _ (jdJ i h) vO).2;refine A _ _ _ ?_ ?_
  ·have X:¬ l.length=0:=vO
   have Z:¬ l.length=1:=vO
   unfold jan;simp only[if_neg X,if_neg Z]
   by_cases e:0 < comK l
   ·rw[if_pos e,if_pos e,J e]
   ·rw[if_neg e,if_neg e]
    simp only[K]
  ·unfold jaq
   simp only[if_neg z]
   by_cases e:0 < comK l
   ·rw[if_pos e,if_pos e,J e]
   ·rw[if_neg e,if_neg e]
    simp only[K]
theorem jjQ(t:vB):(bigs t).length<=1:=by unfold bigs;split <;> simp
theorem jet{t x:vB}(h:x∈bigs t):x=t/\32<=x.size:=by
 unfold bigs at h;split at h
 ·cases h
 ·rw[bO]at h;subst h;exact⟨rfl,by omega⟩
theorem jtC{f:Nat}{l:vL}(h:jar f l){x:vB}(hx:x∈jao (jab (f+1) l)):x=(jab (f+1) l).text\/32<=x.size:=by
 have o:jao (jab (f+1) l)=jaU (jan (jab f) l) :: jaz (jaq (jab f) l):=by
  show jao (.mk (jaU (jan (jab f) l)) (jaq (jab f) l))=_;rw[jao]
 rw[o]at hx;rcases bJ.1 hx with e | hx
 ·exact .inl e
 ·exact .inr ((juS f l h).told x hx).1
theorem joT{l:vL}(k:vB):valL (jaP l) (jbv k)=valL l k:=by
 have o:∀ {a b:vB},jbv a=jbv b->a=b:=fun {a b} e=>jbW (jkx (by
  have:=congrArg (fun x:vB=>x.data.toList) e
  simpa [jbv]using this))
 induction l with
 | nil=>rfl
 | cons q l ih =>
  show (if jbv q.1=jbv k then some q.2 else valL (jaP l) (jbv k))=if q.1=k then some q.2 else valL l k
  by_cases e:q.1=k
  ·rw[if_pos (by rw[e]),if_pos e]
  ·rw[if_neg (fun h=>e (o h)),if_neg e,ih]
theorem jhF{a p:vB}(h:preB a p=true):a.size<=p.size:=by
 obtain⟨s,e⟩:=(jdk _ _).1 h
 rw[<-jaK p,e,bF,jaK];omega
theorem jgj{p:vB}{x:vU}{t:vN}(h:p.data.toList=x :: t):∃ h0:0 < p.size,p[0]=x:=by
 obtain⟨⟨l⟩⟩:=p
 have h:l=x :: t:=h;subst h
 exact⟨Nat.succ_pos _,rfl⟩
inductive PA where
 | nil
 | no
 | leaf (path value:vB)
 | ext (path:vB) (next:PA)
 | br (value:vB) (kids:Nat->PA)
def PA.isNil:PA->Bool | .nil=>true | _=>false
def PA.isNo:PA->Bool | .no=>true | _=>false
def PA.isBr:PA->Bool | .br _ _=>true | _=>false
def jbY(a:vB)(P:PA):PA:=if a.size=0 then P else match P with
 | .leaf q v=>.leaf (a++q) v
 | .ext q n=>.ext (a++q) n
 | .br v ks=>.ext a (.br v ks)
 | _=>.no
def setK(ks:Nat->PA)(i:Nat)(P:PA):Nat->PA:=fun j=>if j=i then P else ks j
def jai(p:vB):Nat:=(p.data.toList.headD 0).toNat
def ja9(p:vB):vB:=p.extract 1 p.size
def addK:PA->vB->vB->PA
 | .br v ks,p,u=>if p.size=0 then .br u ks else .br v (setK ks (jai p) (.leaf (ja9 p) u))
 | P,_,_=>P
theorem jb7(v:vB)(ks:Nat->PA)(p u:vB):addK (.br v ks) p u=if p.size=0 then .br u ks else .br v (setK ks (jai p) (.leaf (ja9 p) u)):=rfl
theorem ff:¬(false=true):=by decide
def putP:PA->vB->vB->PA
 | .nil,p,u=>.leaf p u
 | .no,p,u=>.leaf p u
 | .leaf q v,p,u=>if p=q then .leaf p u else
   jbY (p.extract 0 (jaj q p)) (addK (addK (.br ⟨#[]⟩ fun _=>.nil) (q.extract (jaj q p) q.size) v) (p.extract (jaj q p) p.size) u)
 | .ext q n,p,u=>if jaj q p=q.size then jbY q (putP n (p.extract (jaj q p) p.size) u)else
   jbY (p.extract 0 (jaj q p)) (addK (.br ⟨#[]⟩ (setK (fun _=>.nil) (jai (q.extract (jaj q p) q.size)) (jbY (q.extract (jaj q p+1) q.size) n))) (p.extract (jaj q p) p.size) u)
 | .br v ks,p,u=>if p.size=0 then .br u ks else .br v (setK ks (jai p) (putP (ks (jai p)) (ja9 p) u))
def idxK(ks:Nat->PA):List Nat:=(List.range 16).filter fun i => !(ks i).isNil
def jcP(v:vB)(ks:Nat->PA):PA:=match idxK ks with
 | []=>if v.size=0 then .no else .leaf ⟨#[]⟩ v
 | [i]=>if v.size=0 then jbY ⟨#[UInt8.ofNat i]⟩ (ks i)else .br v ks
 | _=>.br v ks
def unNo(P:PA):PA:=if P.isNo then .nil else P
def jbx:PA->vB->PA
 | .nil,_=>.no
 | .no,_=>.no
 | .leaf q v,p=>if p=q then .no else .leaf q v
 | .ext q n,p=>if preB q p then jbY q (jbx n (p.extract q.size p.size))else .ext q n
 | .br v ks,p=>if p.size=0 then jcP ⟨#[]⟩ ks else if (ks (jai p)).isNil then .br v ks else jcP v (setK ks (jai p) (unNo (jbx (ks (jai p)) (ja9 p))))
def getL:PA->vN->Option vB
 | .nil,_=>none
 | .no,_=>none
 | .leaf q v,p=>if q.data.toList=p then some v else none
 | .ext q n,p=>if q.data.toList.isPrefixOf p then getL n (p.drop q.data.toList.length)else none
 | .br v _,[]=>if v.size=0 then none else some v
 | .br _ ks,x :: t=>getL (ks x.toNat) t
def TwoK(v:vB)(ks:Nat->PA):Prop:=(∃ i j,i≠j/\(ks i).isNil=false/\(ks j).isNil=false)\/(v.size≠0/\∃ i,(ks i).isNil=false)
def CanP:PA->Prop
 | .nil=>False
 | .no=>False
 | .leaf q v=>jaG q=true/\v.size≠0
 | .ext q n=>q.size≠0/\jaG q=true/\n.isBr=true/\CanP n
 | .br v ks=>(∀ i,(ks i).isNil=false->i < 16)/\(∀ i,(ks i).isNil=false->CanP (ks i))/\TwoK v ks
theorem jk3(a b:vB):(a++b).data.toList=a.data.toList++b.data.toList:=by
 simp[dK]
theorem jbh{P:PA}(h:P.isNil=true):P=.nil:=by cases P <;> first | rfl | cases h
theorem jrk{P:PA}(h:P.isNo=true):P=.no:=by cases P <;> first | rfl | cases h
theorem jmH{P:PA}(h:CanP P):P.isNil=false:=by cases P <;> first | rfl | exact h.elim
theorem juR{P:PA}(h:CanP P):P.isNo=false:=by cases P <;> first | rfl | exact h.elim
theorem jcg{a p:vN}:a.isPrefixOf p=true↔∃ r,p=a++r:=by
 rw[List.isPrefixOf_iff_prefix]
 exact⟨fun ⟨r,h⟩=>⟨r,h.symm⟩,fun ⟨r,h⟩=>⟨r,h.symm⟩⟩
theorem jl1{a p:vN}(h:a.isPrefixOf p=false):∀ r,p≠a++r:=fun r e=>by
 rw[jcg.2 ⟨r,e⟩]at h;cases h
theorem jfz{a:vB}(h:a.size=0):a.data.toList=[]:=bE (by rw[jaK];exact h)
theorem jci{a:vB}(h:a.size≠0):∃ x t,a.data.toList=x :: t:=by
 cases e:a.data.toList with
 | nil=>rw[<-jaK,e]at h;exact (h rfl).elim
 | cons x t=>exact⟨x,t,rfl⟩
theorem jbE{p:vB}{x:vU}{t:vN}(h:p.data.toList=x :: t):jai p=x.toNat/\(ja9 p).data.toList=t:=by
 refine⟨by unfold jai;rw[h];rfl,?_⟩
 unfold ja9;rw[jdi,h];rfl
theorem jc4{x y:vU}(h:x≠y):x.toNat≠y.toNat:=fun e=>h (dR.1 e)
theorem jfr(a:vB)(P:PA)(p:vN):getL (jbY a P) p=if a.data.toList.isPrefixOf p then getL P (p.drop a.data.toList.length)else none:=by
 unfold jbY
 by_cases h0:a.size=0
 ·rw[if_pos h0,jfz h0];simp
 rw[if_neg h0];cases hp:a.data.toList.isPrefixOf p with
 | true =>
  obtain⟨r,rfl⟩:=jcg.1 hp
  rw[if_pos rfl,fO];cases P with
  | nil=>rfl
  | no=>rfl
  | leaf q v=>simp only[getL,jk3,gL]
  | ext q n =>
   simp only[getL,jk3];have e:(a.data.toList++q.data.toList).isPrefixOf (a.data.toList++r)=q.data.toList.isPrefixOf r:=by
    rw[iO,jcg,jcg]
    exact⟨fun ⟨s,e⟩=>⟨s,by rw[bW]at e;exact gT e⟩,fun ⟨s,e⟩=>⟨s,by rw[e,bW]⟩⟩
   rw[e,bF, <-List.drop_drop,fO]
  | br v ks =>
   show (if a.data.toList.isPrefixOf (a.data.toList++r)=true then getL (.br v ks) ((a.data.toList++r).drop _)else none)=_;rw[hp,if_pos rfl,fO]
 | false =>
  have o:=jl1 hp;rw[if_neg ff];cases P with
  | nil=>rfl
  | no=>rfl
  | leaf q v =>
   simp only[getL,jk3];rw[if_neg (fun e=>o _ e.symm)]
  | ext q n =>
   simp only[getL,jk3];rw[if_neg];intro e
   obtain⟨s,e⟩:=jcg.1 e
   rw[bW]at e;exact o _ e
  | br v ks =>
   show (if a.data.toList.isPrefixOf p=true then _ else none)=_;rw[hp];rfl
theorem jhx(v:vB)(ks:Nat->PA)(i:Nat)(P:PA)(x:vU)(t:vN):getL (.br v (setK ks i P)) (x :: t)=if x.toNat=i then getL P t else getL (.br v ks) (x :: t):=by
 show getL (setK ks i P x.toNat) t=if x.toNat=i then _ else getL (ks x.toNat) t
 unfold setK
 by_cases h:x.toNat=i
 ·rw[if_pos h,if_pos h]
 ·rw[if_neg h,if_neg h]
theorem jmT(v:vB)(ks:Nat->PA)(p u:vB)(hu:u.size≠0)(hk:∀ x t,p.data.toList=x :: t->(ks x.toNat).isNil=true)(q:vN) :
  getL (addK (.br v ks) p u) q=if q=p.data.toList then some u else getL (.br v ks) q:=by
 rw[jb7]
 by_cases h0:p.size=0
 ·rw[if_pos h0,jfz h0]
  cases q with
  | nil=>simp[getL,hu]
  | cons x t=>rfl
 ·rw[if_neg h0]
  obtain⟨x,t,o⟩:=jci h0
  obtain⟨A,E⟩:=jbE o
  have z:=jbh (hk x t o);rw[A,o];cases q with
  | nil=>simp[getL]
  | cons y s =>
   rw[jhx]
   by_cases hy:y=x
   ·subst hy
    rw[if_pos rfl];simp only[getL,E,z,List.cons.injEq,true_and]
    by_cases e:t=s
    ·rw[if_pos e,if_pos e.symm]
    ·rw[if_neg e,if_neg (fun h=>e h.symm)]
   ·rw[if_neg (jc4 hy),if_neg (fun e=>hy (List.cons.inj e).1)]
theorem jcC(a b:vN):∃ a' b',a=a.take (jbc a b)++a'/\b=a.take (jbc a b)++b'/\a'=a.drop (jbc a b)/\b'=b.drop (jbc a b)/\(∀ x s y t,a'=x :: s->b'=y :: t->x≠y):=by
 obtain⟨o,A,E⟩:=jba a b
 refine⟨_,_,(dC _ _).symm,?_,rfl,rfl,?_⟩
 ·rw[o,dC]
 ·intro x s y t q z e
  have h:=jhR a b;rw[q,z,e]at h;simp[jbc]at h
theorem jmM{a b:vN}(h:jbc a b=a.length):b=a++b.drop a.length:=by
 obtain⟨e,o,q⟩:=jba a b
 rw[h,cG]at e
 have:=(dC a.length b).symm
 rw[<-e]at this;exact this
theorem jsI(p:vB)(k:Nat):(p.extract 0 k).data.toList=p.data.toList.take k:=by
 simp[fF]
theorem jmU:∀ (P:PA),(CanP P\/P=.no\/P=.nil)->∀ (p u:vB),u.size≠0->∀ q,getL (putP P p u) q=if q=p.data.toList then some u else getL P q
 | .nil,_,p,u,_,q=>by
  show (if p.data.toList=q then some u else none)=if q=p.data.toList then some u else none
  by_cases e:q=p.data.toList
  ·rw[if_pos e,if_pos e.symm]
  ·rw[if_neg e,if_neg (fun h=>e h.symm)]
 | .no,_,p,u,_,q=>by
  show (if p.data.toList=q then some u else none)=if q=p.data.toList then some u else none
  by_cases e:q=p.data.toList
  ·rw[if_pos e,if_pos e.symm]
  ·rw[if_neg e,if_neg (fun h=>e h.symm)]
 | .leaf a v,h,p,u,hu,q=>by
  have hc:v.size≠0:=by
   rcases h with h | h | h
   ·exact h.2
   ·cases h
   ·cases h
  unfold putP
  by_cases hpa:p=a
  ·rw[if_pos hpa]
   subst hpa;simp only[getL]
   by_cases e:q=p.data.toList
   ·rw[if_pos e,if_pos e.symm]
   ·rw[if_neg e,if_neg (fun h=>e h.symm),if_neg (fun h=>e h.symm)]
  rw[if_neg hpa,jfr,jsI]
  obtain⟨X,H,J,hb,A,o,a2⟩:=jcC a.data.toList p.data.toList
  obtain⟨O,Z,a3⟩:=jba a.data.toList p.data.toList
  obtain⟨n,hn⟩:=vE (jaj a p)
  have a6:jbc a.data.toList p.data.toList=n:=hn.symm;rw[a6]at J hb A o O Z a3;rw[<-hn, <-O]
  obtain⟨c,a0⟩:=vE (a.data.toList.take n)
  rw[<-a0]at J hb ⊢;have b1:c.length=n:=by rw[a0,fB];omega
  have b2:¬(X=[]/\H=[]):=by
   rintro⟨rfl,rfl⟩
   exact hpa (jbW (by rw[hb,J]))
  have Q:(a.extract n a.size).data.toList=X:=by rw[jdi,A]
  have E:(p.extract n p.size).data.toList=H:=by rw[jdi,o]
  obtain⟨x1,e1⟩:∃ x,x=a.extract n a.size:=⟨_,rfl⟩
  obtain⟨x2,e2⟩:∃ x,x=p.extract n p.size:=⟨_,rfl⟩
  rw[<-e1]at Q ⊢;rw[<-e2]at E ⊢;have a4:∀ r,getL (addK (addK (.br ⟨#[]⟩ fun _=>.nil) x1 v) x2 u) r=if r=H then some u else if r=X then some v else none:=by
   intro r;have a5:∃ v1 a1,addK (.br ⟨#[]⟩ fun _=>.nil) x1 v=.br v1 a1/\∀ x t,x2.data.toList=x :: t->(a1 x.toNat).isNil=true:=by
    rw[jb7]
    by_cases h0:x1.size=0
    ·rw[if_pos h0];exact⟨_,_,rfl,fun _ _ _=>rfl⟩
    ·rw[if_neg h0]
     refine⟨_,_,rfl,fun y t hy=>?_⟩
     obtain⟨x,s,hx⟩:=jci h0
     unfold setK;rw[(jbE hx).1,if_neg (jc4 (Ne.symm (a2 x s y t (by rw[<-Q,hx]) (by rw[<-E,hy]))))];rfl
   obtain⟨v1,a1,h1,h2⟩:=a5
   rw[h1,jmT v1 a1 x2 u hu h2, <-h1,jmT _ _ x1 v hc (fun _ _ _=>rfl),Q,E]
   congr 1
   congr 1
   cases r <;> rfl
  cases hp:c.isPrefixOf q with
  | false =>
   have K:=jl1 hp;rw[if_neg ff,if_neg (fun e=>K H (e.trans hb))];show none=if a.data.toList=q then some v else none
   rw[if_neg (fun e=>K X (e.symm.trans J))]
  | true =>
   obtain⟨r,rfl⟩:=jcg.1 hp
   rw[if_pos rfl,fO,a4];show _=if c++r=p.data.toList then some u else if a.data.toList=c++r then some v else none
   rw[hb,J];simp only[gL]
   congr 1
   by_cases e:r=X
   ·rw[if_pos e,if_pos e.symm]
   ·rw[if_neg e,if_neg (fun h=>e h.symm)]
 | .ext a n,h,p,u,hu,q=>by
  have hc:CanP (.ext a n):=by
   rcases h with h | h | h
   ·exact h
   ·cases h
   ·cases h
  have ih:=jmU n (.inl hc.2.2.2);unfold putP
  by_cases hf:jaj a p=a.size
  ·rw[if_pos hf,jfr]
   have hb:=jmM (a:=a.data.toList) (b:=p.data.toList) (by rw[jaK];exact hf)
   obtain⟨H,o⟩:∃ H,H=p.data.toList.drop a.data.toList.length:=⟨_,rfl⟩
   rw[<-o]at hb;have hx:(p.extract (jaj a p) p.size).data.toList=H:=by rw[jdi,hf,o,jaK]
   show _=if q=p.data.toList then some u else if a.data.toList.isPrefixOf q then getL n (q.drop a.data.toList.length)else none
   cases hp:a.data.toList.isPrefixOf q with
   | false =>
    rw[if_neg ff,if_neg ff,if_neg (fun e=>jl1 hp H (e.trans hb))]
   | true =>
    obtain⟨r,rfl⟩:=jcg.1 hp
    rw[if_pos rfl,if_pos rfl,fO,ih _ u hu,hx,hb];simp only[gL]
  ·rw[if_neg hf,jfr,jsI]
   obtain⟨X,H,J,hb,A,o,a2⟩:=jcC a.data.toList p.data.toList
   obtain⟨O,Z,a3⟩:=jba a.data.toList p.data.toList
   obtain⟨m,hm⟩:=vE (jaj a p)
   have a7:jbc a.data.toList p.data.toList=m:=hm.symm;rw[a7]at J hb A o O Z a3;rw[<-hm]at hf ⊢;rw[<-O]
   obtain⟨c,a0⟩:=vE (a.data.toList.take m)
   rw[<-a0]at J hb ⊢;have Q:(a.extract m a.size).data.toList=X:=by rw[jdi,A]
   have E:(p.extract m p.size).data.toList=H:=by rw[jdi,o]
   have a8:X.length=a.size - m:=by rw[A,List.length_drop,jaK]
   rw[jaK]at Z;cases X with
   | nil=>simp at a8;omega
   | cons x s =>
    have a9:(a.extract (m+1) a.size).data.toList=s:=by
     rw[jdi, <-List.drop_drop, <-A];rfl
    rw[(jbE Q).1]
    obtain⟨x2,e2⟩:∃ x,x=p.extract m p.size:=⟨_,rfl⟩
    rw[<-e2]at E ⊢;have a4:∀ r,getL (addK (.br ⟨#[]⟩ (setK (fun _=>.nil) x.toNat (jbY (a.extract (m+1) a.size) n))) x2 u) r=if r=H then some u else if (x :: s).isPrefixOf r then getL n (r.drop (s.length+1))else none:=by
     intro r;rw[jmT _ _ _ u hu,E]
     ·congr 1
      cases r with
      | nil=>rfl
      | cons y t =>
       rw[jhx,jfr,a9]
       by_cases e:y=x
       ·subst e;simp
       ·rw[if_neg (jc4 e),if_neg]
        ·rfl
        ·intro K
         obtain⟨r,K⟩:=jcg.1 K
         exact e (List.cons.inj K).1
     ·intro y t hy
      unfold setK;rw[if_neg (jc4 (Ne.symm (a2 x s y t rfl (by rw[<-E,hy]))))];rfl
    have b0:a.data.toList.length=c.length+(s.length+1):=by
     have K:=congrArg List.length J;rw[bF]at K;exact K
    show _=if q=p.data.toList then some u else if a.data.toList.isPrefixOf q then getL n (q.drop a.data.toList.length)else none
    cases hp:c.isPrefixOf q with
    | false =>
     have K:=jl1 hp;rw[if_neg ff,if_neg (fun e=>K H (e.trans hb)),if_neg];intro e
     obtain⟨r,e⟩:=jcg.1 e
     rw[J,bW]at e;exact K _ e
    | true =>
     obtain⟨r,rfl⟩:=jcg.1 hp
     have e2:(c++r).drop (c.length+(s.length+1))=r.drop (s.length+1):=by rw[<-List.drop_drop,fO]
     rw[if_pos rfl,fO,a4,b0,e2];have e1:a.data.toList.isPrefixOf (c++r)=(x :: s).isPrefixOf r:=by
      rw[iO,jcg,jcg];constructor
      ·rintro⟨z,e⟩
       rw[J,bW]at e
       exact⟨z,gT e⟩
      ·rintro⟨z,rfl⟩
       exact⟨z,by rw[J,bW]⟩
     rw[e1,hb];simp only[gL]
 | .br v ks,h,p,u,hu,q=>by
  have hc:CanP (.br v ks):=by
   rcases h with h | h | h
   ·exact h
   ·cases h
   ·cases h
  unfold putP
  by_cases h0:p.size=0
  ·rw[if_pos h0,jfz h0]
   cases q with
   | nil=>simp[getL,hu]
   | cons x t=>rfl
  ·rw[if_neg h0]
   obtain⟨x,t,hx⟩:=jci h0
   obtain⟨h1,h2⟩:=jbE hx
   have ih:=jmU (ks (jai p)) (by
    cases hn:(ks (jai p)).isNil with
    | true=>exact .inr (.inr (jbh hn))
    | false=>exact .inl (hc.2.1 _ hn)) (ja9 p) u hu
   rw[h1]at ih ⊢;rw[hx];cases q with
   | nil=>simp[getL]
   | cons y s =>
    rw[jhx]
    by_cases hy:y=x
    ·subst hy
     rw[if_pos rfl,ih,h2];simp only[List.cons.injEq,true_and];rfl
    ·rw[if_neg (jc4 hy),if_neg (fun e=>hy (List.cons.inj e).1)]
theorem jbU{s:vB}:jaG s=true↔∀ x∈s.data.toList,x.toNat < 16:=by
 unfold jaG;rw[dS];constructor
 ·intro h x e
  have o:=h x e;simp only[decide_eq_true_eq,fT]at o
  have:(15:vU).toNat=15:=rfl
  omega
 ·intro h x e
  have o:=h x e;simp only[decide_eq_true_eq,fT]
  have:(15:vU).toNat=15:=rfl
  omega
theorem jmq{a b:vB}(h:jaG a=true)(k:jaG b=true):jaG (a++b)=true:=by
 rw[jbU]at *;intro x o;rw[jk3]at o;rcases bR.1 o with e | e
 ·exact h x e
 ·exact k x e
theorem jhe{a:vB}(h:jaG a=true)(k:Nat):jaG (a.extract 0 k)=true:=by
 rw[jbU]at *;intro x e;rw[jsI]at e;exact h x (iR e)
theorem jbK{a:vB}(h:jaG a=true):jaG (ja9 a)=true:=jbk h 1 _
theorem jcS{p:vB}(h:jaG p=true)(h0:p.size≠0):jai p < 16:=by
 obtain⟨x,t,e⟩:=jci h0
 rw[(jbE e).1];exact jbU.1 h x (by rw[e];exact bD)
theorem jcZ(a b:vB):(a++b).size=a.size+b.size:=by
 rw[<-jaK,jk3,bF,jaK,jaK]
theorem jfl{a:vB}{P:PA}(ha:jaG a=true)(h:CanP P):CanP (jbY a P):=by
 unfold jbY
 by_cases h0:a.size=0
 ·rw[if_pos h0];exact h
 rw[if_neg h0];cases P with
 | nil=>exact h.elim
 | no=>exact h.elim
 | leaf q v=>exact⟨jmq ha h.1,h.2⟩
 | ext q n=>exact⟨by rw[jcZ];omega,jmq ha h.2.1,h.2.2⟩
 | br v ks=>exact⟨h0,ha,rfl,h⟩
theorem jb6(ks:Nat->PA)(i:Nat)(P:PA):setK ks i P i=P:=if_pos rfl
theorem jdY(ks:Nat->PA){i j:Nat}(P:PA)(h:j≠i):setK ks i P j=ks j:=if_neg h
def OneB(ks:Nat->PA):Prop:=(∀ i,(ks i).isNil=false->i < 16)/\(∀ i,(ks i).isNil=false->CanP (ks i))
theorem OneB.set{ks:Nat->PA}(h:OneB ks){i:Nat}{P:PA}(hi:i < 16)(hP:CanP P):OneB (setK ks i P):=by
 refine⟨fun j o=>?_,fun j o=>?_⟩
 ·by_cases e:j=i
  ·rw[e];exact hi
  ·rw[jdY _ _ e]at o;exact h.1 j o
 ·by_cases e:j=i
  ·rw[e,jb6];exact hP
  ·rw[jdY _ _ e]at o ⊢;exact h.2 j o
theorem OneB.cut{ks:Nat->PA}(h:OneB ks)(i:Nat):OneB (setK ks i .nil):=by
 refine⟨fun j o=>?_,fun j o=>?_⟩
 ·by_cases e:j=i
  ·rw[e,jb6]at o;cases o
  ·rw[jdY _ _ e]at o;exact h.1 j o
 ·by_cases e:j=i
  ·rw[e,jb6]at o;cases o
  ·rw[jdY _ _ e]at o ⊢;exact h.2 j o
theorem jkp:OneB (fun _=>.nil):=⟨fun _ h=>Bool.noConfusion h,fun _ h=>Bool.noConfusion h⟩
theorem TwoK.set{v:vB}{ks:Nat->PA}(h:TwoK v ks)(i:Nat){P:PA}(hP:P.isNil=false):TwoK v (setK ks i P):=by
 have o:∀ j,(ks j).isNil=false->(setK ks i P j).isNil=false:=by
  intro j q
  by_cases e:j=i
  ·rw[e,jb6];exact hP
  ·rw[jdY _ _ e];exact q
 rcases h with⟨a,b,h1,h2,h3⟩ |⟨h1,a,h2⟩
 ·exact .inl ⟨a,b,h1,o a h2,o b h3⟩
 ·exact .inr ⟨h1,a,o a h2⟩
theorem jmy{ks:Nat->PA}(v p u:vB)(h:OneB ks)(hp:jaG p=true)(hu:u.size≠0)(h2:(v.size≠0/\p.size≠0)\/∃ i,(ks i).isNil=false/\(p.size=0\/jai p≠i)):CanP (addK (.br v ks) p u):=by
 rw[jb7]
 by_cases h0:p.size=0
 ·rw[if_pos h0]
  rcases h2 with⟨_,e⟩ |⟨i,hi,_⟩
  ·exact (e h0).elim
  ·exact⟨h.1,h.2,.inr ⟨hu,i,hi⟩⟩
 ·rw[if_neg h0]
  have o:=h.set (jcS hp h0) (P:=.leaf (ja9 p) u) ⟨jbK hp,hu⟩
  refine⟨o.1,o.2,?_⟩
  rcases h2 with⟨e,_⟩ |⟨i,hi,e | e⟩
  ·exact .inr ⟨e,jai p,by rw[jb6];rfl⟩
  ·exact (h0 e).elim
  ·exact .inl ⟨jai p,i,e,by rw[jb6];rfl,by rw[jdY _ _ (Ne.symm e)];exact hi⟩
theorem jmI:∀ (P:PA),(CanP P\/P=.no\/P=.nil)->∀ (p u:vB),jaG p=true->u.size≠0->CanP (putP P p u)
 | .nil,_,p,u,hp,hu=>⟨hp,hu⟩
 | .no,_,p,u,hp,hu=>⟨hp,hu⟩
 | .leaf a v,h,p,u,hp,hu=>by
  have o:jaG a=true/\v.size≠0:=by
   rcases h with h | h | h
   ·exact h
   ·cases h
   ·cases h
  unfold putP
  by_cases hpa:p=a
  ·rw[if_pos hpa];exact⟨hp,hu⟩
  rw[if_neg hpa];refine jfl (jhe hp _) ?_
  obtain⟨a',b',ha,hb,O,Q,X⟩:=jcC a.data.toList p.data.toList
  have E:(a.extract (jaj a p) a.size).data.toList=a':=by rw[jdi,O];rfl
  have q:(p.extract (jaj a p) p.size).data.toList=b':=by rw[jdi,Q];rfl
  have H:=jbk o.1 (jaj a p) a.size;have z:=jbk hp (jaj a p) p.size;have a0:¬(a'=[]/\b'=[]):=by
   rintro⟨rfl,rfl⟩
   exact hpa (jbW (hb.trans ha.symm))
  obtain⟨x1,e1⟩:∃ x,x=a.extract (jaj a p) a.size:=⟨_,rfl⟩
  obtain⟨Z,e2⟩:∃ x,x=p.extract (jaj a p) p.size:=⟨_,rfl⟩
  rw[<-e1]at E H ⊢;rw[<-e2]at q z ⊢;rw[jb7]
  by_cases A:x1.size=0
  ·rw[if_pos A]
   refine jmy v Z u jkp z hu (.inl ⟨o.2,fun e=>a0 ⟨?_,?_⟩⟩)
   ·rw[<-E];exact jfz A
   ·rw[<-q];exact jfz e
  ·rw[if_neg A]
   refine jmy _ Z u (jkp.set (jcS H A) ⟨jbK H,o.2⟩) z hu (.inr ⟨jai x1,by rw[jb6];rfl,?_⟩)
   by_cases h9:Z.size=0
   ·exact .inl h9
   ·obtain⟨x,s,hx⟩:=jci A
    obtain⟨y,t,hy⟩:=jci h9
    rw[(jbE hx).1,(jbE hy).1];exact .inr (jc4 (Ne.symm (X x s y t (by rw[<-E,hx]) (by rw[<-q,hy]))))
 | .ext a n,h,p,u,hp,hu=>by
  have o:CanP (.ext a n):=by
   rcases h with h | h | h
   ·exact h
   ·cases h
   ·cases h
  unfold putP
  by_cases hf:jaj a p=a.size
  ·rw[if_pos hf]
   exact jfl o.2.1 (jmI n (.inl o.2.2.2) _ u (jbk hp _ _) hu)
  ·rw[if_neg hf]
   refine jfl (jhe hp _) ?_
   obtain⟨a',b',ha,hb,O,Q,X⟩:=jcC a.data.toList p.data.toList
   have E:(a.extract (jaj a p) a.size).data.toList=a':=by rw[jdi,O];rfl
   have q:(p.extract (jaj a p) p.size).data.toList=b':=by rw[jdi,Q];rfl
   have H:=jbk o.2.1 (jaj a p) a.size;have z:=jbk hp (jaj a p) p.size;have A:(a.extract (jaj a p) a.size).size≠0:=by
    have h3:=(jba a.data.toList p.data.toList).2.1;have h4:jaj a p<=a.size:=by rw[<-jaK];exact h3
    rw[jaY];omega
   obtain⟨Z,e2⟩:∃ x,x=p.extract (jaj a p) p.size:=⟨_,rfl⟩
   rw[<-e2]at q z ⊢;have hj:=jfl (jbk o.2.1 (jaj a p+1) a.size) o.2.2.2;have hO:=jkp.set (jcS H A) hj
   obtain⟨J,hJ⟩:=vE (jbY (a.extract (jaj a p+1) a.size) n)
   rw[<-hJ]at hO hj ⊢;have hz:=jb6 (fun _=>PA.nil) (jai (a.extract (jaj a p) a.size)) J;have K:=jmH hj;rw[<-hz]at K
   obtain⟨KS,a1⟩:=vE (setK (fun _=>PA.nil) (jai (a.extract (jaj a p) a.size)) J)
   rw[<-a1]at hO K ⊢;refine jmy ⟨#[]⟩ Z u hO z hu (.inr ⟨jai (a.extract (jaj a p) a.size),K,?_⟩)
   by_cases h9:Z.size=0
   ·exact .inl h9
   ·obtain⟨x,s,hx⟩:=jci A
    obtain⟨y,t,hy⟩:=jci h9
    rw[(jbE hx).1,(jbE hy).1];exact .inr (jc4 (Ne.symm (X x s y t (by rw[<-E,hx]) (by rw[<-q,hy]))))
 | .br v ks,h,p,u,hp,hu=>by
  have o:CanP (.br v ks):=by
   rcases h with h | h | h
   ·exact h
   ·cases h
   ·cases h
  unfold putP
  by_cases A:p.size=0
  ·rw[if_pos A]
   refine⟨o.1,o.2.1,?_⟩
   rcases o.2.2 with h1 |⟨_,h2⟩
   ·exact .inl h1
   ·exact .inr ⟨hu,h2⟩
  ·rw[if_neg A]
   have hk:=jmI (ks (jai p)) (by
    cases hn:(ks (jai p)).isNil with
    | true=>exact .inr (.inr (jbh hn))
    | false=>exact .inl (o.2.1 _ hn)) (ja9 p) u (jbK hp) hu
   have hs:=OneB.set ⟨o.1,o.2.1⟩ (jcS hp A) hk
   exact⟨hs.1,hs.2,o.2.2.set _ (jmH hk)⟩
theorem jmX{ks:Nat->PA}{i:Nat}(h:OneB ks):i∈idxK ks↔(ks i).isNil=false:=by
 unfold idxK;rw[cH,dJ,gW]
 exact⟨fun e=>e.2,fun e=>⟨h.1 i e,e⟩⟩
theorem jrh(ks:Nat->PA):(idxK ks).Nodup:=List.Nodup.sublist List.filter_sublist List.nodup_range
theorem jlH{v:vB}{ks:Nat->PA}(h:OneB ks):jcP v ks=.no\/CanP (jcP v ks):=by
 have q:=fun i=>jmX (i:=i) h;have A:=jrh ks;unfold jcP;cases e:idxK ks with
 | nil =>
  show (if v.size=0 then PA.no else .leaf ⟨#[]⟩ v)=.no\/CanP (if v.size=0 then PA.no else .leaf ⟨#[]⟩ v)
  by_cases h0:v.size=0
  ·rw[if_pos h0];exact .inl rfl
  ·rw[if_neg h0];exact .inr ⟨rfl,h0⟩
 | cons i r =>
  rw[e]at q A;have o:=(q i).1 bD;cases r with
  | nil =>
   show (if v.size=0 then jbY ⟨#[UInt8.ofNat i]⟩ (ks i)else .br v ks)=.no\/CanP (if v.size=0 then jbY ⟨#[UInt8.ofNat i]⟩ (ks i)else .br v ks);right
   by_cases h0:v.size=0
   ·rw[if_pos h0]
    have E:=h.1 i o;refine jfl ?_ (h.2 i o);rw[jbU];intro x z;have z:x=UInt8.ofNat i:=by simpa using z
    rw[z,gG];omega
   ·rw[if_neg h0]
    exact⟨h.1,h.2,.inr ⟨h0,i,o⟩⟩
  | cons j r =>
   right
   refine⟨h.1,h.2,.inl ⟨i,j,?_,o,(q j).1 (by simp)⟩⟩
   rintro rfl;simp at A
theorem jlx{v:vB}{ks:Nat->PA}(h:OneB ks)(q:vN):getL (jcP v ks) q=getL (.br v ks) q:=by
 have o:=fun i=>jmX (i:=i) h;unfold jcP;cases e:idxK ks with
 | nil =>
  rw[e]at o;have K:∀ i,ks i=.nil:=fun i=>jbh (by
   cases hb:(ks i).isNil with
   | true=>rfl
   | false=>exact ((List.mem_nil_iff i).1 ((o i).2 hb)).elim)
  show getL (if v.size=0 then PA.no else .leaf ⟨#[]⟩ v) q=_;cases q with
  | nil =>
   show _=if v.size=0 then none else some v
   by_cases h0:v.size=0
   ·rw[if_pos h0,if_pos h0];rfl
   ·rw[if_neg h0,if_neg h0];rfl
  | cons x t =>
   show _=getL (ks x.toNat) t;rw[K]
   by_cases h0:v.size=0
   ·rw[if_pos h0];rfl
   ·rw[if_neg h0];rfl
 | cons i r =>
  cases r with
  | nil =>
   show getL (if v.size=0 then jbY ⟨#[UInt8.ofNat i]⟩ (ks i)else .br v ks) q=_
   by_cases h0:v.size=0
   ·rw[if_pos h0,jfr]
    rw[e]at o;have J:=h.1 i ((o i).1 bD);have z:(UInt8.ofNat i).toNat=i:=by rw[gG];omega
    cases q with
    | nil=>show (if false=true then _ else none)=if v.size=0 then none else some v;rw[if_pos h0,if_neg ff]
    | cons x t =>
     show (if ([UInt8.ofNat i].isPrefixOf (x :: t))=true then getL (ks i) ((x :: t).drop 1)else none)=getL (ks x.toNat) t
     by_cases hx:x=UInt8.ofNat i
     ·subst hx;simp[z]
     ·have A:x.toNat≠i:=fun e=>hx (dR.1 (by rw[z];exact e))
      have E:ks x.toNat=.nil:=jbh (by
       cases hb:(ks x.toNat).isNil with
       | true=>rfl
       | false=>exact (A (by simpa using (o _).2 hb)).elim)
      rw[E,if_neg]
      ·rfl
      ·intro H
       obtain⟨r,H⟩:=jcg.1 H
       exact hx (List.cons.inj H).1
   ·rw[if_neg h0]
  | cons j r=>rfl
theorem jtH(P:PA)(q:vN):getL (unNo P) q=getL P q:=by
 unfold unNo;cases h:P.isNo with
 | true=>rw[if_pos rfl,jrk h];rfl
 | false=>rw[if_neg ff]
theorem jj5:∀ (P:PA),CanP P->∀ (p:vB),jaG p=true->(jbx P p=.no\/CanP (jbx P p))/\∀ q,getL (jbx P p) q=if q=p.data.toList then none else getL P q
 | .nil,h,_,_=>h.elim
 | .no,h,_,_=>h.elim
 | .leaf a v,h,p,hp=>by
  unfold jbx
  by_cases e:p=a
  ·rw[if_pos e]
   refine⟨.inl rfl,fun q=>?_⟩
   subst e;show none=if q=p.data.toList then none else if p.data.toList=q then some v else none
   by_cases h9:q=p.data.toList
   ·rw[if_pos h9]
   ·rw[if_neg h9,if_neg (fun e=>h9 e.symm)]
  ·rw[if_neg e]
   refine⟨.inr h,fun q=>?_⟩
   by_cases h9:q=p.data.toList
   ·rw[if_pos h9]
    show (if a.data.toList=q then some v else none)=none;rw[if_neg (fun Q=>e (jbW (h9.symm.trans Q.symm)))]
   ·rw[if_neg h9]
 | .ext a n,h,p,hp=>by
  unfold jbx
  obtain⟨o,J⟩:=jj5 n h.2.2.2 (p.extract a.size p.size) (jbk hp _ _)
  cases hb:preB a p with
  | false =>
   rw[if_neg ff]
   refine⟨.inr h,fun q=>?_⟩
   by_cases h9:q=p.data.toList
   ·rw[if_pos h9,h9]
    show (if a.data.toList.isPrefixOf p.data.toList=true then _ else none)=none;unfold preB at hb;rw[hb];rfl
   ·rw[if_neg h9]
  | true =>
   rw[if_pos rfl]
   obtain⟨K,z⟩:=jcg.1 hb
   have A:(p.extract a.size p.size).data.toList=K:=by rw[jdi,z, <-jaK,fO]
   refine⟨?_,fun q=>?_⟩
   ·rcases o with o | o
    ·rw[o]
     left;unfold jbY
     by_cases h0:a.size=0
     ·rw[if_pos h0]
     ·rw[if_neg h0]
    ·exact .inr (jfl h.2.1 o)
   ·rw[jfr]
    show _=if q=p.data.toList then none else if a.data.toList.isPrefixOf q then getL n (q.drop a.data.toList.length)else none
    cases hq:a.data.toList.isPrefixOf q with
    | false =>
     rw[if_neg ff,if_neg ff,if_neg (fun e=>jl1 hq K (e.trans z))]
    | true =>
     obtain⟨r,rfl⟩:=jcg.1 hq
     rw[if_pos rfl,if_pos rfl,fO,J,A,z];simp only[gL]
 | .br v ks,h,p,hp=>by
  unfold jbx;have E:OneB ks:=⟨h.1,h.2.1⟩
  by_cases h0:p.size=0
  ·rw[if_pos h0]
   refine⟨jlH E,fun q=>?_⟩
   rw[jlx E,jfz h0];cases q with
   | nil=>rfl
   | cons x t=>rfl
  ·rw[if_neg h0]
   obtain⟨x,t,A⟩:=jci h0
   obtain⟨H,X⟩:=jbE A
   cases hn:(ks (jai p)).isNil with
   | true =>
    rw[if_pos rfl]
    refine⟨.inr h,fun q=>?_⟩
    by_cases h9:q=p.data.toList
    ·rw[if_pos h9,h9,A]
     show getL (ks x.toNat) t=none;rw[<-H,jbh hn];rfl
    ·rw[if_neg h9]
   | false =>
    rw[if_neg ff]
    obtain⟨o,J⟩:=jj5 (ks (jai p)) (h.2.1 _ hn) (ja9 p) (jbK hp)
    have O:OneB (setK ks (jai p) (unNo (jbx (ks (jai p)) (ja9 p)))):=by
     unfold unNo;rcases o with o | o
     ·rw[o];exact E.cut _
     ·rw[juR o,if_neg ff]
      exact E.set (jcS hp h0) o
    refine⟨jlH O,fun q=>?_⟩
    rw[jlx O,A];cases q with
    | nil=>rfl
    | cons y s =>
     rw[jhx,H]
     by_cases hy:y=x
     ·subst hy
      rw[if_pos rfl,jtH, <-H,J,X];simp only[List.cons.injEq,true_and];show _=if s=t then none else getL (ks y.toNat) s
      rw[H]
     ·rw[if_neg (jc4 hy),if_neg (fun e=>hy (List.cons.inj e).1)]
theorem jgs{i:Nat}(h:i < 16):(UInt8.ofNat i).toNat=i:=by rw[gG];omega
theorem jew:∀ (P:PA),CanP P->∃ p v,getL P p=some v
 | .nil,h=>h.elim
 | .no,h=>h.elim
 | .leaf a v,_=>⟨a.data.toList,v,if_pos rfl⟩
 | .ext a n,h=>by
  obtain⟨p,v,e⟩:=jew n h.2.2.2
  refine⟨a.data.toList++p,v,?_⟩
  show (if a.data.toList.isPrefixOf (a.data.toList++p)=true then getL n ((a.data.toList++p).drop a.data.toList.length)else none)=some v;rw[if_pos (jcg.2 ⟨p,rfl⟩),fO,e]
 | .br v ks,h=>by
  have o:∃ i,(ks i).isNil=false:=by
   rcases h.2.2 with⟨i,_,_,e,_⟩ |⟨_,i,e⟩
   ·exact⟨i,e⟩
   ·exact⟨i,e⟩
  obtain⟨i,o⟩:=o
  obtain⟨p,u,e⟩:=jew (ks i) (h.2.1 i o)
  refine⟨UInt8.ofNat i :: p,u,?_⟩
  show getL (ks (UInt8.ofNat i).toNat) p=some u;rw[jgs (h.1 i o),e]
theorem jhQ{v:vB}{ks:Nat->PA}(h:CanP (.br v ks)):∃ p q a b,p.head?≠q.head?/\getL (.br v ks) p=some a/\getL (.br v ks) q=some b:=by
 have o:∀ i,(ks i).isNil=false->∃ t u,getL (.br v ks) (UInt8.ofNat i :: t)=some u:=by
  intro i z
  obtain⟨p,u,e⟩:=jew (ks i) (h.2.1 i z)
  refine⟨p,u,?_⟩
  show getL (ks (UInt8.ofNat i).toNat) p=some u;rw[jgs (h.1 i z),e]
 rcases h.2.2 with⟨i,j,hij,z,hj⟩ |⟨hv,i,z⟩
 ·obtain⟨t,a,A⟩:=o i z
  obtain⟨s,b,E⟩:=o j hj
  refine⟨_,_,a,b,?_,A,E⟩
  intro e;have e:UInt8.ofNat i=UInt8.ofNat j:=by simpa using e
  have:=congrArg UInt8.toNat e
  rw[jgs (h.1 i z),jgs (h.1 j hj)]at this;exact hij this
 ·obtain⟨t,a,A⟩:=o i z
  refine⟨[],_,v,a,?_,?_,A⟩
  ·simp
  ·show (if v.size=0 then none else some v)=some v
   rw[if_neg hv]
theorem jiu:∀ (a r p q:vN),p.head?≠q.head?->r <+: a++p->r <+: a++q->r <+: a
 | [],r,p,q,h,o,z=>by
  cases r with
  | nil=>exact List.nil_prefix
  | cons x s =>
   obtain⟨H,A⟩:=o
   obtain⟨J,E⟩:=z
   rw[cP]at A E;exfalso;apply h;rw[<-A, <-E];rfl
 | y :: a,r,p,q,h,o,z=>by
  cases r with
  | nil=>exact List.nil_prefix
  | cons x s =>
   rw[cV]at o z
   obtain⟨e,o⟩:=List.cons_prefix_cons.1 o
   obtain⟨_,z⟩:=List.cons_prefix_cons.1 z
   rw[e];exact List.cons_prefix_cons.2 ⟨rfl,jiu a s p q h o z⟩
theorem jic(a:vB)(n:PA)(t:vN):getL (.ext a n) (a.data.toList++t)=getL n t:=by
 show (if a.data.toList.isPrefixOf (a.data.toList++t)=true then getL n ((a.data.toList++t).drop a.data.toList.length)else none)=getL n t;rw[if_pos (jcg.2 ⟨t,rfl⟩),fO]
theorem jez{a:vB}{n:PA}{p:vN}{v:vB}(h:getL (.ext a n) p=some v):a.data.toList <+: p:=by
 have h:(if a.data.toList.isPrefixOf p=true then getL n (p.drop a.data.toList.length)else none)=some v:=h
 by_cases e:a.data.toList.isPrefixOf p=true
 ·exact List.isPrefixOf_iff_prefix.1 e
 ·rw[if_neg e]at h;cases h
theorem jmG{a:vB}{n:PA}(h:CanP (.ext a n)):∃ p q x y,p.head?≠q.head?/\getL (.ext a n) (a.data.toList++p)=some x/\getL (.ext a n) (a.data.toList++q)=some y:=by
 cases n with
 | br v ks =>
  obtain⟨p,q,x,y,e,o,z⟩:=jhQ h.2.2.2
  exact⟨p,q,x,y,e,by rw[jic,o],by rw[jic,z]⟩
 | nil=>cases h.2.2.1
 | no=>cases h.2.2.1
 | leaf _ _=>cases h.2.2.1
 | ext _ _=>cases h.2.2.1
theorem jc2{a v:vB}{p:vN}{u:vB}(h:getL (.leaf a v) p=some u):a.data.toList=p/\v=u:=by
 have h:(if a.data.toList=p then some v else none)=some u:=h
 by_cases e:a.data.toList=p
 ·rw[if_pos e]at h;exact⟨e,bV h⟩
 ·rw[if_neg e]at h;cases h
theorem jke{p q:vN}(h:p.head?≠q.head?):p≠q:=fun e=>h (by rw[e])
theorem uniq:∀ (P Q:PA),CanP P->CanP Q->(∀ p,getL P p=getL Q p)->P=Q
 | .nil,_,h,_,_=>h.elim
 | .no,_,h,_,_=>h.elim
 | .leaf a v,Q,h,k,e=>by
  cases Q with
  | nil=>exact k.elim
  | no=>exact k.elim
  | leaf b u =>
   have A:getL (.leaf b u) a.data.toList=some v:=by rw[<-e];exact if_pos rfl
   obtain⟨o,E⟩:=jc2 A
   rw[jbW o,E]
  | ext b n =>
   obtain⟨p,q,x,y,A,o,E⟩:=jmG k
   rw[<-e]at o E;exact absurd (gT ((jc2 o).1.symm.trans (jc2 E).1)) (jke A)
  | br u ks =>
   obtain⟨p,q,x,y,A,o,E⟩:=jhQ k
   rw[<-e]at o E;exact absurd ((jc2 o).1.symm.trans (jc2 E).1) (jke A)
 | .ext a n,Q,h,k,e=>by
  obtain⟨p,q,x,y,A,o,E⟩:=jmG h
  cases Q with
  | nil=>exact k.elim
  | no=>exact k.elim
  | leaf b u =>
   rw[e]at o E;exact absurd (gT ((jc2 o).1.symm.trans (jc2 E).1)) (jke A)
  | ext b m =>
   have g2:=o;have g3:=E;rw[e]at g2 g3;have a1:=jiu _ _ p q A (jez g2) (jez g3)
   obtain⟨p',q',x',y',k1,K,O⟩:=jmG k
   have f2:=K;have f3:=O;rw[<-e]at f2 f3;have a0:=jiu _ _ p' q' k1 (jez f2) (jez f3);have X:a.data.toList=b.data.toList:=a0.eq_of_length (Nat.le_antisymm a0.length_le a1.length_le);have X:=jbW X;subst X;rw[uniq n m h.2.2.2 k.2.2.2 (fun t=>by rw[<-jic a n t, <-jic a m t,e])]
  | br u ks =>
   exfalso
   obtain⟨p',q',x',y',k1,K,O⟩:=jhQ k
   rw[<-e]at K O;have Z:=jiu [] _ p' q' k1 (by simpa using jez K) (by simpa using jez O);have Z:=List.prefix_nil.1 Z;apply h.1;rw[<-jaK,Z];rfl
 | .br v ks,Q,h,k,e=>by
  cases Q with
  | nil=>exact k.elim
  | no=>exact k.elim
  | leaf b u =>
   obtain⟨p,q,x,y,A,o,E⟩:=jhQ h
   rw[e]at o E;exact absurd ((jc2 o).1.symm.trans (jc2 E).1) (jke A)
  | ext b m =>
   exfalso
   obtain⟨p',q',x',y',k1,K,O⟩:=jhQ h
   rw[e]at K O;have Z:=jiu [] _ p' q' k1 (by simpa using jez K) (by simpa using jez O);have Z:=List.prefix_nil.1 Z;apply k.1;rw[<-jaK,Z];rfl
  | br u js =>
   have ev:v=u:=by
    have J:=e [];have J:(if v.size=0 then none else some v)=if u.size=0 then none else some u:=J
    by_cases hv:v.size=0
    ·by_cases hu:u.size=0
     ·rw[jbp hv,jbp hu]
     ·rw[if_pos hv,if_neg hu]at J;cases J
    ·by_cases hu:u.size=0
     ·rw[if_neg hv,if_pos hu]at J;cases J
     ·rw[if_neg hv,if_neg hu]at J;exact bV J
   have ek:ks=js:=by
    funext i
    have H:i < 16->∀ t,getL (ks i) t=getL (js i) t:=by
     intro hi t
     have:=e (UInt8.ofNat i :: t)
     have:getL (ks (UInt8.ofNat i).toNat) t=getL (js (UInt8.ofNat i).toNat) t:=this
     rw[jgs hi]at this;exact this
    cases A:(ks i).isNil with
    | true =>
     cases o:(js i).isNil with
     | true=>rw[jbh A,jbh o]
     | false =>
      obtain⟨t,z,hz⟩:=jew (js i) (k.2.1 i o)
      rw[<-H (k.1 i o),jbh A]at hz;cases hz
    | false =>
     cases o:(js i).isNil with
     | true =>
      obtain⟨t,z,hz⟩:=jew (ks i) (h.2.1 i A)
      rw[H (h.1 i A),jbh o]at hz;cases hz
     | false=>exact uniq (ks i) (js i) (h.2.1 i A) (k.2.1 i o) (H (h.1 i A))
   rw[ev,ek]
section
attribute [local go_sem] Oper.semAt_some
def jda(p:vB):Bool:=p.size % 2 == 0 && jaG p
def nib1(i:Nat):vB:=⟨#[UInt8.ofNat i]⟩
def keyV(p:vB):vV:=.tuple #[.string (if jda p=true then jby p else ⟨#[]⟩),.bool (jda p)]
theorem jrm(w:vW)(p:vB)(hs:p.size<=1000000):vR 96 #[.string p] w (keyV p):=by
 by_cases h2:p.size % 2=0
 ·have z:(p.size:Int) % 2=0:=vO
  cases hv:jaG p with
  | true =>
   have o:jda p=true:=by unfold jda;rw[hv,h2];rfl
   have q:keyV p=.tuple #[.string (jby p),.bool true]:=by unfold keyV;rw[o];rfl
   rw[q];clear o q;go_enter Tryz.func96,Tryz.ntmps96;go_wp2_with fail
   refine (jkM w p vO).mono ?_;rintro e w1 ⟨rfl,rfl⟩;rw[hv];go_wp2_with fail
   refine vC (jnb w1 p hs) fun E A=>?_;go_wp2_with fail
   go_ret2
   exact⟨rfl,A⟩
  | false =>
   have o:jda p=false:=by unfold jda;rw[hv,h2];rfl
   have q:keyV p=.tuple #[.string ⟨#[]⟩,.bool false]:=by unfold keyV;rw[o];rfl
   rw[q];clear o q;go_enter Tryz.func96,Tryz.ntmps96;go_wp2_with fail
   refine (jkM w p vO).mono ?_;rintro e w1 ⟨rfl,rfl⟩;rw[hv];go_wp2_with fail
   go_ret2
   exact⟨rfl,ExtR w1⟩
 ·have z:¬(p.size:Int) % 2=0:=vO
  have o:jda p=false:=by unfold jda;rw[show (p.size % 2 == 0)=false by simpa using h2];rfl
  have q:keyV p=.tuple #[.string ⟨#[]⟩,.bool false]:=by unfold keyV;rw[o];rfl
  have H:((p.size:Int) % 2 != 0)=true:=by simpa using z
  rw[q];clear o q;go_enter Tryz.func96,Tryz.ntmps96;go_wp2_with fail
  go_ret2
  exact⟨rfl,ExtR w⟩
def bare(W:vW):vW:={ W with heap:=#[] }
theorem js6(W:vW):Ext (bare W) W:=⟨rfl,rfl,rfl,cB _,fun b hb=>absurd hb (Nat.not_lt_zero b)⟩
theorem ORow.any{T:TypeId}{sz:Nat}{W:vW}{v:vV}{n:Nat}{xs:List vV}(h:W.ownsRow 0 T sz v n xs):ORow T sz (bare W) W v n xs:=⟨jaO h,h,js6 W,fun _ _=>cB _⟩
end
def sumF(g:Nat->Nat):Nat->Nat
 | 0=>0
 | n+1=>sumF g n+g n
def cntT:Nat->vL->Nat
 | 0,_=>1
 | f+1,l=>1+(if l.length<=1 then 0 else if 0 < comK l then cntT f (jag (comK l) l)else sumF (fun i=>if (cutL i l).length=0 then 0 else cntT f (jag 1 (cutL i l))) 16)
theorem joL(g:Nat->Nat)(l:vL)(h0:∀ i,(cutL i l).length=0->g i=0)(hg:∀ i,(cutL i l).length≠0->g i+2<=3 * (cutL i l).length):∀ n,sumF g n+2 * jdl l n<=3 * jc7 l n
 | 0=>by simp[sumF,jc7,jdl]
 | n+1=>by
  have e:=joL g l h0 hg n;rw[sumF,jc7,jdl]
  by_cases hz:(cutL n l).length=0
  ·rw[if_pos hz,h0 n hz];omega
  ·have:=hg n hz
   rw[if_neg hz];omega
structure CntP(c:Nat)(l:vL):Prop where
 all:c+2<=3 * l.length
 two:2<=l.length->comK l=0->c+3<=3 * l.length
theorem juT:∀ (f:Nat) (l:vL),jar f l->l≠[]->CntP (cntT f l) l:=by
 intro f;induction f with
 | zero =>
  intro l h Z;have h0:l.length≠0:=fun e=>Z (bE e);have hl:=jbA h
  exact⟨by show 1+2<=_;omega,fun h2=>by omega⟩
 | succ f ih =>
  intro l h Z;have h0:l.length≠0:=fun e=>Z (bE e)
  by_cases h1:l.length=1
  ·have e:cntT (f+1) l=1:=by unfold cntT;rw[if_pos vO]
   exact⟨by omega,fun h2=>by omega⟩
  have h2:2<=l.length:=vO
  have o:=jbr h h2
  by_cases hk:0 < comK l
  ·have a0:jar f (jag (comK l) l):=(jcm (comK l) h (fun p hp q hq=>(o p hp).1.trans (o q hq).1.symm) (fun p hp=>(o p hp).2)).mono vO
   have H:jag (comK l) l≠[]:=fun e=>by have:=jaA (comK l) l;rw[e]at this;simp at this;omega
   have z:=(ih _ a0 H).two (by rw[jaA];omega) (jgd vO);rw[jaA]at z;have e:cntT (f+1) l=1+cntT f (jag (comK l) l):=by rw[cntT,if_neg vO,if_pos hk]
   exact⟨by omega,fun _ hz=>by omega⟩
  ·have J:∀ i,(cutL i l).length≠0->jag 1 (cutL i l)≠[]:=fun i K e=>by have:=jaA 1 (cutL i l);rw[e]at this;simp at this;omega
   obtain⟨a,ha⟩:∃ a,l[0]?=some a:=⟨_,bA vO⟩
   obtain⟨b,hb⟩:∃ b,l[l.length - 1]?=some b:=⟨_,bA vO⟩
   have ga:l.getD 0 pd=a:=by rw[bG,ha];rfl
   have gb:l.getD (l.length - 1) pd=b:=by rw[bG,hb];rfl
   have A:=bI ha;have O:=bI hb;have Q:=jcy h.rise vO ha hb
   obtain⟨g,E⟩:=vE (fun i=>if (cutL i l).length=0 then 0 else cntT f (jag 1 (cutL i l)))
   have e:cntT (f+1) l=1+sumF g 16:=by rw[cntT,if_neg vO,if_neg hk,E]
   have z:sumF g 16+4<=3 * l.length:=by
    have a2:=joL g l (fun i K=>by rw[E];simp only[K,if_true]) (fun i K=>by
     have:=(ih _ (jdJ i h) (J i K)).all
     rw[jaA]at this;rw[E];simp only[if_neg K];exact this) 16
    have X:jbc a.l b.l=0:=by
     have:comK l=jbc a.l b.l:=by unfold comK jaj;rw[ga,gb]
     omega
    cases hbl:b.l with
    | nil=>rw[hbl]at Q;exact absurd Q (not_lt_nil _)
    | cons y t =>
     have hy:=je0 (h.size b O).2.2.1 hbl;have cb:=jfR O hbl;cases hal:a.l with
     | nil =>
      have:=jle ⟨a,A,hal⟩ 16
      have:=jir cb hy
      omega
     | cons x r =>
      have hx:=je0 (h.size a A).2.2.1 hal;have ca:=jfR A hal;have a1:x≠y:=by
       intro e;rw[hal,hbl,e]at X;simp[jbc]at X
      have H:x.toNat≠y.toNat:=fun e=>a1 (dR.1 e)
      have:=jeP l 16
      have:2<=jdl l 16:=by
       rcases fK x.toNat y.toNat with e | e
       ·exact jgv ca cb e hy
       ·exact jgv cb ca vO hx
      omega
   exact⟨by omega,fun _ _=>by omega⟩
theorem jsn{α:Type}{R:α->α->Prop}(hi:∀ x,¬ R x x)(ht:∀ x y,R x y->¬ R y x):∀ {a b:List α},a.Pairwise R->b.Pairwise R->(∀ x,x∈a↔x∈b)->a=b
 | [],[],_,_,_=>rfl
 | [],y :: b,_,_,h=>absurd ((h y).2 bD) (by simp)
 | x :: a,[],_,_,h=>absurd ((h x).1 bD) (by simp)
 | x :: a,y :: b,ha,hb,h=>by
  rw[cW]at ha hb;have e:x=y:=by
   rcases bJ.1 ((h x).1 bD)with e | h1
   ·exact e
   rcases bJ.1 ((h y).2 bD)with e | h2
   ·exact e.symm
   exact absurd (ha.1 y h2) (ht _ _ (hb.1 x h1))
  subst e;rw[jsn hi ht ha.2 hb.2 fun z=>?_];constructor
  ·intro o
   rcases bJ.1 ((h z).1 (bC _ o))with e | h1
   ·subst e;exact absurd (ha.1 z o) (hi z)
   ·exact h1
  ·intro o
   rcases bJ.1 ((h z).2 (bC _ o))with e | h1
   ·subst e;exact absurd (hb.1 z o) (hi z)
   ·exact h1
def jnS(l:vL):vL:=l.filter fun q=>q.1.size=0
theorem jsx(p:Pair):p.1.size=0↔p.l=[]:=by
 show p.1.data.toList.length=0↔_;exact List.length_eq_zero_iff
theorem jlM(x y:vN)(h:Lt x y):¬ Lt y x:=fun k=>lt_irrefl _ (jdH _ _ _ h k)
theorem jjD{f:Nat}{l:vL}(h:jar f l):l=jnS l++(List.range 16).flatMap fun i=>cutL i l:=by
 refine jsn (R:=fun p q:Pair=>Lt p.l q.l) (fun x=>lt_irrefl _) (fun x y=>jlM _ _) h.rise ?_ fun p=>?_
 ·rw[List.pairwise_append]
  refine⟨h.rise.filter _,?_,fun p e q o=>?_⟩
  ·have:∀ n,((List.range n).flatMap fun i=>cutL i l).Pairwise fun p q:Pair=>Lt p.l q.l:=fun n=>by
    induction n with
    | zero=>simp
    | succ n ih =>
     rw[fW,dL,List.pairwise_append]
     refine⟨ih,?_,fun p e q o=>?_⟩
     ·simpa using (jqM n h).rise
     ·obtain⟨i,A,e⟩:=cO.1 e
      simp only[cF,fL,bS]at o
      obtain⟨_,a,r,E,K⟩:=jbq e
      obtain⟨_,b,t,z,O⟩:=jbq o
      rw[E,z]
      have:=dJ.1 A
      exact jbu.2 (.inl (dW.2 vO))
   exact this 16
  ·obtain⟨_,H⟩:=cH.1 e
   obtain⟨i,_,o⟩:=cO.1 o
   obtain⟨_,b,t,z,_⟩:=jbq o
   rw[(jsx p).1 (by simpa using H),z];exact jon
 ·rw[bR]
  constructor
  ·intro e
   cases hl:p.l with
   | nil=>exact .inl (cH.2 ⟨e,by simpa using (jsx p).2 hl⟩)
   | cons x r =>
    have J:=je0 (h.size p e).2.2.1 hl;exact .inr (cO.2 ⟨x.toNat,dJ.2 J,jqO e hl⟩)
  ·rintro (e | e)
   ·exact (cH.1 e).1
   ·obtain⟨i,_,e⟩:=cO.1 e
    exact (jbq e).1
theorem jjd{f:Nat}{l:vL}(h:jar f l)(hn:l≠[]):jnS l=if (l.getD 0 pd).1.size=0 then [l.getD 0 pd]else []:=by
 cases l with
 | nil=>exact absurd rfl hn
 | cons p r =>
  have z:∀ q∈r,¬ q.1.size=0:=fun q o e=>by
   have:=(cW.1 h.rise).1 q o
   rw[(jsx q).1 e]at this;exact not_lt_nil _ this
  have A:r.filter (fun q:Pair=>q.1.size=0)=[]:=by
   rw[gV];intro q o;simpa using z q o
  show (p :: r).filter _=if p.1.size=0 then [p]else []
  rw[dP,A]
  by_cases e:p.1.size=0
  ·rw[if_pos e,if_pos (by simpa using e)]
  ·rw[if_neg e,if_neg (by simpa using e)]
theorem jcl(a b:vB):(a++b).data.toList=a.data.toList++b.data.toList:=by rw[dK,fQ]
theorem joD{α:Type}(g:Nat->List α)(hg:∀ i,(g i).reverse=g i):∀ l:List Nat,(l.reverse.flatMap g).reverse=l.flatMap g
 | []=>rfl
 | x :: l=>by
  rw[gI,dL,List.reverse_append,joD g hg l,cF];simp[hg]
theorem jxS{x:vU}{i:Nat}(h:x.toNat=i):UInt8.ofNat i=x:=by subst h;exact iH
theorem jmD{p:vB}{i k:Nat}{q:Pair}{x:vU}{r:vN}(h:q.l=x :: r)(hx:x.toNat=i):p++q.1=(p++nib1 i)++q.1.extract 1 q.1.size:=by
 refine jbW ?_;rw[jcl,jcl,jcl,jcD _ _ _ (bM _)];have h:q.1.data.toList=x :: r:=h;rw[h];unfold nib1;rw[jxS hx];simp
theorem jmE{p:vB}{k:Nat}{q:Pair}{a:vB}(h:q.l.take k=a.data.toList):p++q.1=(p++a)++q.1.extract k q.1.size:=by
 refine jbW ?_;rw[jcl,jcl,jcl,jcD _ _ _ (bM _), <-h,bW];show _++q.l=_++(q.l.take k++q.l.drop k);rw[dC]
def jaW:Nat->vL->PA
 | 0,_=>.no
 | f+1,l =>
  if l.length=0 then .no
  else if l.length=1 then .leaf (l.getD 0 pd).1 (l.getD 0 pd).2
  else if 0 < comK l then .ext ((l.getD 0 pd).1.extract 0 (comK l)) (jaW f (jag (comK l) l))
  else .br (if (l.getD 0 pd).1.size=0 then (l.getD 0 pd).2 else ⟨#[]⟩) fun i=>if (cutL i l).length=0 then .nil else jaW f (jag 1 (cutL i l))
theorem jef(f:Nat)(l:vL):jaW (f+1) l =
  if l.length=0 then .no
  else if l.length=1 then .leaf (l.getD 0 pd).1 (l.getD 0 pd).2
  else if 0 < comK l then .ext ((l.getD 0 pd).1.extract 0 (comK l)) (jaW f (jag (comK l) l))
  else .br (if (l.getD 0 pd).1.size=0 then (l.getD 0 pd).2 else ⟨#[]⟩) fun i=>if (cutL i l).length=0 then .nil else jaW f (jag 1 (cutL i l)):=rfl
theorem jbR(f:Nat){l:vL}(h:l.length=0):jaW (f+1) l=.no:=by rw[jef];rw[if_pos h]
theorem jbZ(f:Nat){l:vL}(h:l.length=1):jaW (f+1) l=.leaf (l.getD 0 pd).1 (l.getD 0 pd).2:=by rw[jef];rw[if_neg vO,if_pos h]
theorem jdq(f:Nat){l:vL}(h:2<=l.length)(hk:0 < comK l):jaW (f+1) l=.ext ((l.getD 0 pd).1.extract 0 (comK l)) (jaW f (jag (comK l) l)):=by
 rw[jef];rw[if_neg vO,if_neg vO,if_pos hk]
theorem jeD(f:Nat){l:vL}(h:2<=l.length)(hk:¬ 0 < comK l):jaW (f+1) l=.br (if (l.getD 0 pd).1.size=0 then (l.getD 0 pd).2 else ⟨#[]⟩) fun i=>if (cutL i l).length=0 then .nil else jaW f (jag 1 (cutL i l)):=by
 rw[jef];rw[if_neg vO,if_neg vO,if_neg hk]
theorem jxr{f:Nat}{l:vL}(h:jar f l){i:Nat}(hi:(cutL i l).length≠0):i < 16:=by
 cases e:cutL i l with
 | nil=>rw[e]at hi;exact (hi rfl).elim
 | cons p r =>
  obtain⟨o,a,t,q,z⟩:=jbq (show p∈cutL i l by rw[e];exact bD)
  rw[<-z];exact je0 (h.size p o).2.2.1 q
theorem jkv:∀ (f:Nat) (l:vL),jar f l->∀ p:vB,jaG p=true->getL (jaW (f+1) l) p.data.toList=valL l p:=by
 intro f;induction f with
 | zero =>
  intro l h p H;have hl:=jbA h
  by_cases h0:l.length=0
  ·rw[jbR _ h0,bE h0];rfl
  ·have z:l.length=1:=vO
   rw[jbZ _ z]
   obtain⟨q,rfl⟩:=fC.1 z
   show (if q.1.data.toList=p.data.toList then some q.2 else none)=if q.1=p then some q.2 else valL [] p
   by_cases e:q.1=p
   ·rw[if_pos e,if_pos (by rw[e])]
   ·rw[if_neg e,if_neg (fun h=>e (jbW h))];rfl
 | succ f ih =>
  intro l h p H
  by_cases h0:l.length=0
  ·rw[jbR _ h0,bE h0];rfl
  by_cases z:l.length=1
  ·rw[jbZ _ z]
   obtain⟨q,rfl⟩:=fC.1 z
   show (if q.1.data.toList=p.data.toList then some q.2 else none)=if q.1=p then some q.2 else valL [] p
   by_cases e:q.1=p
   ·rw[if_pos e,if_pos (by rw[e])]
   ·rw[if_neg e,if_neg (fun h=>e (jbW h))];rfl
  have K:2<=l.length:=vO
  have O:=jc9 h K
  by_cases hk:0 < comK l
  ·rw[jdq _ K hk]
   show (if ((l.getD 0 pd).1.extract 0 (comK l)).data.toList.isPrefixOf p.data.toList=true then getL (jaW (f+1) (jag (comK l) l)) (p.data.toList.drop _)else none)=_;rw[jaK,O]
   by_cases hb:preB ((l.getD 0 pd).1.extract 0 (comK l)) p=true
   ·have A:goL l p=some (jag (comK l) l,p.extract (comK l) p.size):=by unfold goL;rw[if_neg vO,if_pos hk,if_pos hb]
    have o:=jq9 h H A;have E:((l.getD 0 pd).1.extract 0 (comK l)).data.toList.isPrefixOf p.data.toList=true:=hb;rw[if_pos E, <-jdi,ih _ o.rows _ o.valid,o.find]
   ·have A:goL l p=none:=by unfold goL;rw[if_neg vO,if_pos hk,if_neg hb]
    have o:=(jq8 h H A).2;have E:¬((l.getD 0 pd).1.extract 0 (comK l)).data.toList.isPrefixOf p.data.toList=true:=hb;rw[if_neg E, <-o];have e:jan (jab (f+1)) l=⟨2,(l.getD 0 pd).1.extract 0 (comK l),⟨#[]⟩,refB (jab (f+1) (jag (comK l) l)).text :: jat 15⟩:=by unfold jan;rw[if_neg h0,if_neg z,if_pos hk]
    rw[e];rfl
  ·rw[jeD _ K hk]
   cases hpl:p.data.toList with
   | nil =>
    have A:goL l p=none:=by unfold goL;rw[if_neg vO,if_neg hk,hpl]
    have o:=(jq8 h H A).2;rw[<-o]
    obtain⟨rs,Q⟩:=vE ((List.range 16).map fun i=>if (cutL i l).length=0 then (⟨#[]⟩:vB)else refB (jab (f+1) (jag 1 (cutL i l))).text)
    have e:jan (jab (f+1)) l=⟨3,⟨#[]⟩,if (l.getD 0 pd).1.size=0 then (l.getD 0 pd).2 else ⟨#[]⟩,rs⟩:=by rw[Q];unfold jan;rw[if_neg h0,if_neg z,if_neg hk]
    rw[e];have X:p.size=0:=by rw[<-jaK p,hpl];rfl
    obtain⟨J,Z⟩:=vE (if (l.getD 0 pd).1.size=0 then (l.getD 0 pd).2 else ⟨#[]⟩)
    rw[<-Z];show (if J.size=0 then none else some J)=if (3:Nat)=1 then _ else if (3:Nat)=3 then (if p.size=0/\J.size≠0 then some J else none)else none
    rw[if_neg (by decide:¬(3:Nat)=1),if_pos rfl]
    by_cases hz:J.size=0
    ·rw[if_pos hz,if_neg (fun h=>h.2 hz)]
    ·rw[if_neg hz,if_pos ⟨X,hz⟩]
   | cons x t =>
    show getL (if (cutL x.toNat l).length=0 then .nil else jaW (f+1) (jag 1 (cutL x.toNat l))) t=_
    by_cases hc:(cutL x.toNat l).length=0
    ·rw[if_pos hc]
     refine (jgG fun q hq e=>?_).symm;exact jfR hq (p:=q) (by show q.1.data.toList=x :: t;rw[e,hpl]) hc
    ·rw[if_neg hc]
     have A:goL l p=some (jag 1 (cutL x.toNat l),p.extract 1 p.size):=by
      unfold goL;rw[if_neg vO,if_neg hk,hpl];show (if (cutL x.toNat l).length=0 then _ else _)=_;rw[if_neg hc]
     have o:=jq9 h H A;have e:t=(p.extract 1 p.size).data.toList:=by rw[jdi,hpl];rfl
     rw[e,ih _ o.rows _ o.valid,o.find]
theorem jeL{f:Nat}{l:vL}(h:jar (f+1) l){i:Nat}(hc:(cutL i l).length≠0):jar f (jag 1 (cutL i l))/\jag 1 (cutL i l)≠[]:=
 ⟨jdJ i h,fun e=>by have:=jaA 1 (cutL i l);rw[e]at this;simp at this;exact hc this.symm⟩
theorem jdW{f:Nat}{l:vL}(h:jar (f+1) l)(h2:2<=l.length)(hk:0 < comK l):jar f (jag (comK l) l)/\jag (comK l) l≠[]/\2<=(jag (comK l) l).length/\comK (jag (comK l) l)=0:=by
 have o:=jbr h h2
 exact⟨(jcm (comK l) h (fun p z q A=>(o p z).1.trans (o q A).1.symm) (fun p z=>(o p z).2)).mono vO,
  fun e=>by have:=jaA (comK l) l;rw[e]at this;simp at this;omega,by rw[jaA];exact h2,jgd vO⟩
theorem jot:∀ (f:Nat) (l:vL),jar f l->l≠[]->CanP (jaW (f+1) l)/\(2<=l.length->comK l=0->(jaW (f+1) l).isBr=true):=by
 intro f;induction f with
 | zero =>
  intro l h X;have hl:=jbA h;have Z:l.length=1:=by have:=gB.2 X;omega
  have E:=h.size _ (jdo (l:=l) vO);rw[jbZ _ Z]
  exact⟨⟨E.2.2.1,by omega⟩,fun A=>by omega⟩
 | succ f ih =>
  intro l h X;have a0:=gB.2 X
  by_cases Z:l.length=1
  ·have E:=h.size _ (jdo (l:=l) vO)
   rw[jbZ _ Z]
   exact⟨⟨E.2.2.1,by omega⟩,fun A=>by omega⟩
  have A:2<=l.length:=vO
  have E:=h.size _ (jdo (l:=l) vO)
  by_cases hk:0 < comK l
  ·obtain⟨H,J,k3,k4⟩:=jdW h A hk
   obtain⟨i1,i2⟩:=ih _ H J
   rw[jdq _ A hk]
   exact⟨⟨by rw[jc9 h A];omega,jhe E.2.2.1 _,i2 k3 k4,i1⟩,fun _ e=>by omega⟩
  ·rw[jeD _ A hk]
   refine⟨⟨fun i o=>?_,fun i o=>?_,?_⟩,fun _ _=>rfl⟩
   ·by_cases q:(cutL i l).length=0
    ·have o:(if (cutL i l).length=0 then PA.nil else jaW (f+1) (jag 1 (cutL i l))).isNil=false:=o
     rw[if_pos q]at o;cases o
    ·exact jxr h q
   ·have o:(if (cutL i l).length=0 then PA.nil else jaW (f+1) (jag 1 (cutL i l))).isNil=false:=o
    show CanP (if (cutL i l).length=0 then PA.nil else jaW (f+1) (jag 1 (cutL i l)))
    by_cases q:(cutL i l).length=0
    ·rw[if_pos q]at o;cases o
    ·rw[if_neg q]
     obtain⟨H,J⟩:=jeL h q
     exact (ih _ H J).1
   ·obtain⟨a,Q⟩:∃ a,l[0]?=some a:=⟨_,bA vO⟩
    obtain⟨b,hb⟩:∃ b,l[l.length - 1]?=some b:=⟨_,bA vO⟩
    have ga:l.getD 0 pd=a:=by rw[bG,Q];rfl
    have gb:l.getD (l.length - 1) pd=b:=by rw[bG,hb];rfl
    have K:=jcy h.rise vO Q hb;have z:jbc a.l b.l=0:=by
     have:comK l=0:=vO
     unfold comK at this;rw[ga,gb]at this;exact this
    have O:∀ p∈l,∀ x t,p.l=x :: t->(if (cutL x.toNat l).length=0 then PA.nil else jaW (f+1) (jag 1 (cutL x.toNat l))).isNil=false:=by
     intro p hp x t hx;have q:=jfR hp hx;rw[if_neg q]
     obtain⟨H,J⟩:=jeL h q
     exact jmH (ih _ H J).1
    cases hbl:b.l with
    | nil=>rw[hbl]at K;exact absurd K (not_lt_nil _)
    | cons y s =>
     have kb:=O b (bI hb) y s hbl;cases hal:a.l with
     | nil =>
      right;rw[ga];have h0:a.1.size=0:=by rw[<-jaK];show a.l.length=0;rw[hal];rfl
      rw[if_pos h0]
      have:=(h.size a (bI Q)).2.2.2.1
      exact⟨by omega,y.toNat,kb⟩
     | cons x t =>
      left
      refine⟨x.toNat,y.toNat,fun e=>?_,O a (bI Q) x t hal,kb⟩
      have e:=dR.1 e;rw[hal,hbl,e]at z;simp[jbc]at z
theorem jeU:∀ (P:PA),CanP P->∀ (p:vN) (v:vB),getL P p=some v->∀ x∈p,x.toNat < 16
 | .nil,h,_,_,_=>h.elim
 | .no,h,_,_,_=>h.elim
 | .leaf a v,h,p,u,e=>by
  obtain⟨rfl,_⟩:=jc2 e
  exact jbU.1 h.1
 | .ext a n,h,p,u,e=>by
  obtain⟨r,rfl⟩:=jez e
  rw[jic]at e;intro x o;rcases bR.1 o with o | o
  ·exact jbU.1 h.2.1 x o
  ·exact jeU n h.2.2.2 r u e x o
 | .br v ks,h,[],u,e=>fun x o=>by cases o
 | .br v ks,h,y :: t,u,e=>by
  have e:getL (ks y.toNat) t=some u:=e;have q:(ks y.toNat).isNil=false:=by
   cases hb:(ks y.toNat).isNil with
   | false=>rfl
   | true=>rw[jbh hb]at e;cases e
  intro x o;rcases bJ.1 o with rfl | o
  ·exact h.1 _ q
  ·exact jeU (ks y.toNat) (h.2.1 _ q) t u e x o
theorem jr5{f:Nat}{l:vL}(h:jar f l){P:PA}(hP:P=.no\/CanP P)(hg:∀ p:vB,jaG p=true->getL P p.data.toList=valL l p):P=jaW (f+1) l:=by
 by_cases h0:l.length=0
 ·rw[jbR _ h0]
  rcases hP with e | q
  ·exact e
  ·exfalso
   obtain⟨p,v,e⟩:=jew P q
   have o:=jeU P q p v e
   have:=hg ⟨p.toArray⟩ (jbU.2 (by simpa using o))
   rw[bE h0]at this;have E:getL P (⟨p.toArray⟩:vB).data.toList=some v:=by simpa using e
   rw[E]at this;cases this
 ·have H:l≠[]:=fun e=>h0 (by rw[e];rfl)
  obtain⟨q,_⟩:=jot f l h H
  rcases hP with rfl | hP
  ·exfalso
   obtain⟨p,v,e⟩:=jew _ q
   have o:=jeU _ q p v e;have z:=jkv f l h ⟨p.toArray⟩ (jbU.2 (by simpa using o));have E:getL (jaW (f+1) l) (⟨p.toArray⟩:vB).data.toList=some v:=by simpa using e
   have A:=hg ⟨p.toArray⟩ (jbU.2 (by simpa using o));rw[E]at z;rw[<-z]at A;cases A
  ·refine uniq P _ hP q fun p=>?_
   by_cases o:∀ x∈p,x.toNat < 16
   ·have z:=jkv f l h ⟨p.toArray⟩ (jbU.2 (by simpa using o))
    have A:=hg ⟨p.toArray⟩ (jbU.2 (by simpa using o));have e:(⟨p.toArray⟩:vB).data.toList=p:=by simp
    rw[e]at z A;rw[z,A]
   ·have g:∀ Q:PA,CanP Q->getL Q p=none:=by
     intro Q J;cases e:getL Q p with
     | none=>rfl
     | some v=>exact absurd (jeU Q J p v e) o
    rw[g P hP,g _ q]
noncomputable def putN(n:jae):vB:=@ite _ (∃ d,jck (InlD d) n) (Classical.propDecidable _) (jaU n) ⟨#[]⟩
theorem jl5{d:Nat}{n:jae}(h:jck (InlD d) n):putN n=jaU n:=if_pos ⟨d,h⟩
noncomputable def textP:PA->vB
 | .nil=>⟨#[]⟩
 | .no=>putN jaV
 | .leaf q v=>putN ⟨1,q,v,jat 16⟩
 | .ext q n=>putN ⟨2,q,⟨#[]⟩,refB (textP n) :: jat 15⟩
 | .br v ks=>putN ⟨3,⟨#[]⟩,v,(List.range 16).map fun i=>if (ks i).isNil then ⟨#[]⟩else refB (textP (ks i))⟩
noncomputable def nodeP:PA->jae
 | .nil=>jaV
 | .no=>jaV
 | .leaf q v=>⟨1,q,v,jat 16⟩
 | .ext q n=>⟨2,q,⟨#[]⟩,refB (textP n) :: jat 15⟩
 | .br v ks=>⟨3,⟨#[]⟩,v,(List.range 16).map fun i=>if (ks i).isNil then ⟨#[]⟩else refB (textP (ks i))⟩
noncomputable def underP:PA->vM
 | .nil=>[]
 | .no=>[]
 | .leaf _ _=>[]
 | .ext _ n=>bigs (textP n)++underP n
 | .br _ ks=>(List.range 16).flatMap fun i=>if (ks i).isNil then []else bigs (textP (ks i))++underP (ks i)
theorem jmn{P:PA}(h:P.isNil=false):textP P=putN (nodeP P):=by cases P <;> first | rfl | cases h
theorem jdx{f:Nat}{l:vL}:(jaW (f+1) l).isNil=false:=by
 rw[jef];split
 ·rfl
 ·split
  ·rfl
  ·split <;> rfl
theorem jgX{α:Type}(g:α->List PT):∀ L:List α,jaz (L.flatMap g)=L.flatMap fun i=>jaz (g i)
 | []=>rfl
 | x :: L=>by rw[cF,jdn,jgX g L];rfl
theorem jeg:∀ (f:Nat) (l:vL),jar f l->nodeP (jaW (f+1) l)=jan (jab f) l/\textP (jaW (f+1) l)=(jab (f+1) l).text/\underP (jaW (f+1) l)=jaz (jaq (jab f) l):=by
 intro f;have o:∀ (f:Nat) (l:vL),jar f l->nodeP (jaW (f+1) l)=jan (jab f) l->textP (jaW (f+1) l)=(jab (f+1) l).text:=by
  intro f l Q h;rw[jmn jdx,h,jl5 (good f l Q).1];rfl
 induction f with
 | zero =>
  intro l h;have hl:=jbA h
  by_cases h0:l.length=0
  ·have e:nodeP (jaW (0+1) l)=jan (jab 0) l:=by rw[jbR _ h0];unfold jan;rw[if_pos h0];rfl
   exact⟨e,o 0 l h e,by rw[jbR _ h0];unfold jaq;rw[if_pos vO];rfl⟩
  ·have q:l.length=1:=vO
   have e:nodeP (jaW (0+1) l)=jan (jab 0) l:=by rw[jbZ _ q];unfold jan;rw[if_neg h0,if_pos q];rfl
   exact⟨e,o 0 l h e,by rw[jbZ _ q];unfold jaq;rw[if_pos vO];rfl⟩
 | succ f ih =>
  intro l h;have A:∀ m,jar f m->m≠[]->bigs (textP (jaW (f+1) m))++underP (jaW (f+1) m)=jaz (jbt (jab (f+1) m)):=by
   intro m O J
   obtain⟨_,X,Z⟩:=ih m O
   have K:=(good f m O).2.1 J;rw[X,Z];unfold bigs jbt
   by_cases hz:(jab (f+1) m).text.size < 32
   ·rw[if_pos hz,if_pos hz]
    have e:(jab (f+1) m).kids=[]:=K.small hz;have e:jaq (jab f) m=[]:=e;rw[e];rfl
   ·rw[if_neg hz,if_neg hz]
    show _=jao (jab (f+1) m)++[];rw[bS];rfl
  by_cases h0:l.length=0
  ·have e:nodeP (jaW (f+1+1) l)=jan (jab (f+1)) l:=by rw[jbR _ h0];unfold jan;rw[if_pos h0];rfl
   exact⟨e,o _ l h e,by rw[jbR _ h0];unfold jaq;rw[if_pos vO];rfl⟩
  by_cases q:l.length=1
  ·have e:nodeP (jaW (f+1+1) l)=jan (jab (f+1)) l:=by rw[jbZ _ q];unfold jan;rw[if_neg h0,if_pos q];rfl
   exact⟨e,o _ l h e,by rw[jbZ _ q];unfold jaq;rw[if_pos vO];rfl⟩
  have E:2<=l.length:=vO
  by_cases hk:0 < comK l
  ·obtain⟨z,H,_,_⟩:=jdW h E hk
   have e:nodeP (jaW (f+1+1) l)=jan (jab (f+1)) l:=by
    rw[jdq _ E hk];unfold jan;rw[if_neg h0,if_neg q,if_pos hk];show (⟨2,_,⟨#[]⟩,refB (textP (jaW (f+1) (jag (comK l) l))) :: jat 15⟩:jae)=_;rw[(ih _ z).2.1]
   refine⟨e,o _ l h e,?_⟩
   rw[jdq _ E hk];unfold jaq;rw[if_neg vO,if_pos hk];exact A _ z H
  ·have e:nodeP (jaW (f+1+1) l)=jan (jab (f+1)) l:=by
    rw[jeD _ E hk];unfold jan;rw[if_neg h0,if_neg q,if_neg hk];show (⟨3,⟨#[]⟩,_,(List.range 16).map _⟩:jae)=⟨3,⟨#[]⟩,_,(List.range 16).map _⟩
    congr 1
    refine cZ fun i _=>?_;show (if (if (cutL i l).length=0 then PA.nil else jaW (f+1) (jag 1 (cutL i l))).isNil=true then _ else refB (textP (if (cutL i l).length=0 then PA.nil else jaW (f+1) (jag 1 (cutL i l)))))=_
    by_cases hc:(cutL i l).length=0
    ·rw[if_pos hc,if_pos hc];rfl
    ·obtain⟨z,H⟩:=jeL h hc
     rw[if_neg hc,if_neg hc,jdx,if_neg ff,(ih _ z).2.1]
   refine⟨e,o _ l h e,?_⟩
   have eB:jaq (jab (f+1)) l=(List.range 16).flatMap fun i=>if (cutL i l).length=0 then []else jbt (jab (f+1) (jag 1 (cutL i l))):=by unfold jaq;rw[if_neg vO,if_neg hk]
   rw[jeD _ E hk,eB,jgX];show (List.range 16).flatMap _=_
   congr 1
   funext i
   show (if (if (cutL i l).length=0 then PA.nil else jaW (f+1) (jag 1 (cutL i l))).isNil=true then _ else bigs (textP (if (cutL i l).length=0 then PA.nil else jaW (f+1) (jag 1 (cutL i l))))++underP (if (cutL i l).length=0 then PA.nil else jaW (f+1) (jag 1 (cutL i l))))=_
   by_cases hc:(cutL i l).length=0
   ·rw[if_pos hc,if_pos hc];rfl
   ·obtain⟨z,H⟩:=jeL h hc
    rw[if_neg hc,if_neg hc,jdx,if_neg ff];exact A _ z H
def keyR(p v:vB):vL:=if jda p=true then [(jby p,v)]else []
def entP:PA->vB->vL
 | .nil,_=>[]
 | .no,_=>[]
 | .leaf q v,p=>keyR (p++q) v
 | .ext q n,p=>entP n (p++q)
 | .br v ks,p=>(if v.size=0 then []else keyR p v)++(List.range 16).flatMap fun i=>if (ks i).isNil then []else entP (ks i) (p++nib1 i)
theorem jlm(p a:vB)(k:Nat)(l:vL)(h:∀ q∈l,p++q.1=(p++a)++q.1.extract k q.1.size):(jag k l).map (fun q=>(jby ((p++a)++q.1),q.2))=l.map fun q=>(jby (p++q.1),q.2):=by
 unfold jag;rw[dE];refine cZ fun q e=>?_;show (jby ((p++a)++q.1.extract k q.1.size),q.2)=_;rw[<-h q e]
theorem jr3:∀ (f:Nat) (l:vL),jar f l->∀ p:vB,(∀ q∈l,jda (p++q.1)=true)->entP (jaW (f+1) l) p=l.map fun q=>(jby (p++q.1),q.2):=by
 intro f;induction f with
 | zero =>
  intro l h p A;have hl:=jbA h
  by_cases h0:l.length=0
  ·rw[jbR _ h0,bE h0];rfl
  ·have E:l.length=1:=vO
   rw[jbZ _ E]
   obtain⟨q,rfl⟩:=fC.1 E
   show keyR (p++q.1) q.2=[(jby (p++q.1),q.2)];unfold keyR;rw[if_pos (A q bD)]
 | succ f ih =>
  intro l h p A
  by_cases h0:l.length=0
  ·rw[jbR _ h0,bE h0];rfl
  by_cases E:l.length=1
  ·rw[jbZ _ E]
   obtain⟨q,rfl⟩:=fC.1 E
   show keyR (p++q.1) q.2=[(jby (p++q.1),q.2)];unfold keyR;rw[if_pos (A q bD)]
  have O:2<=l.length:=vO
  by_cases hk:0 < comK l
  ·obtain⟨Q,k2,_,_⟩:=jdW h O hk
   have H:=jbr h O;rw[jdq _ O hk];show entP (jaW (f+1) (jag (comK l) l)) (p++(l.getD 0 pd).1.extract 0 (comK l))=_;have o:∀ q∈l,p++q.1=(p++(l.getD 0 pd).1.extract 0 (comK l))++q.1.extract (comK l) q.1.size:=fun q z=>jmE (by rw[(H q z).1,jeX]);rw[ih _ Q _ (fun q z=>?_),jlm p _ _ l o]
   obtain⟨r,J,rfl⟩:=bH.1 z
   show jda ((p++(l.getD 0 pd).1.extract 0 (comK l))++r.1.extract (comK l) r.1.size)=true;rw[<-o r J];exact A r J
  ·rw[jeD _ O hk]
   have X:l≠[]:=fun e=>h0 (by rw[e];rfl);have Z:=jjD h;have a0:=jjd h X;have e1:(if (if (l.getD 0 pd).1.size=0 then (l.getD 0 pd).2 else ⟨#[]⟩:vB).size=0 then []else keyR p (if (l.getD 0 pd).1.size=0 then (l.getD 0 pd).2 else ⟨#[]⟩))=(jnS l).map fun q=>(jby (p++q.1),q.2):=by
    rw[a0]
    by_cases hz:(l.getD 0 pd).1.size=0
    ·have hm:=jdo (l:=l) vO
     have hs:=h.size _ hm;rw[if_pos hz,if_pos hz,if_neg vO];have e0:p++(l.getD 0 pd).1=p:=by rw[jbp hz];exact jbW (by rw[jk3];simp)
     show keyR p _=[(jby (p++(l.getD 0 pd).1),(l.getD 0 pd).2)];have K:=A _ hm;rw[e0]at K ⊢;unfold keyR;rw[if_pos K]
    ·rw[if_neg hz,if_neg hz];rfl
   show (if (if (l.getD 0 pd).1.size=0 then (l.getD 0 pd).2 else ⟨#[]⟩:vB).size=0 then []else keyR p (if (l.getD 0 pd).1.size=0 then (l.getD 0 pd).2 else ⟨#[]⟩))++(List.range 16).flatMap _=l.map _;rw[e1]
   conv=>rhs;rw[Z]
   rw[bY,List.map_flatMap]
   congr 1
   congr 1
   funext i
   show (if (if (cutL i l).length=0 then PA.nil else jaW (f+1) (jag 1 (cutL i l))).isNil=true then []else entP (if (cutL i l).length=0 then PA.nil else jaW (f+1) (jag 1 (cutL i l))) (p++nib1 i))=_
   by_cases hc:(cutL i l).length=0
   ·rw[if_pos hc,bE hc];rfl
   ·obtain⟨Q,k2⟩:=jeL h hc
    rw[if_neg hc,jdx,if_neg ff];have o:∀ q∈cutL i l,p++q.1=(p++nib1 i)++q.1.extract 1 q.1.size:=fun q z=>by
     obtain⟨_,a,r,e,ha⟩:=jbq z
     exact jmD (k:=0) e ha
    rw[ih _ Q _ (fun q z=>?_),jlm p _ _ _ o]
    obtain⟨r,J,rfl⟩:=bH.1 z
    show jda ((p++nib1 i)++r.1.extract 1 r.1.size)=true;rw[<-o r J];exact A r (jbq J).1
theorem jyc(w:vW)(v:vV)(l:vL)(hc:jbV w)(hv:RdP w v l)(h:jap l=0):vR 78 #[v] w (.tuple #[.string (jav l).text,.int .i64 0]):=by
 have z:=jau h
 obtain⟨a,c,rfl⟩:=hv.sl;have Q:=Hd hv;have A:=Hd z;have HC:=Hd hc;have H:=Hd h;have E:=Hd z.len;clear hv z hc h;go_enter Tryz.func78,Tryz.ntmps78;go_wp2_with fail
 refine vH (jgS w _ l Q.o (by have:=E.o;omega) (fun p J=>by have:=A.o.size p J;omega)) fun w1 X=>?_;rw[H.o];go_wp2_with fail
 refine (ju4 w1 _ l (Q.o.ext X.o) (by have:=E.o;omega) (fun p J=>by have:=A.o.size p J;omega)).mono ?_;rintro e w2 ⟨u,rfl,K⟩;have Z:=Hd K.rd;have HX:=Hd (X.o.trans K.ext);clear K
 obtain⟨a2,c2,hu⟩:=Z.o.sl
 subst hu;go_wp2_with fail
 refine (jjT 12 (jaP l) (jbm A.o) (by unfold jaP;rw[cC];have:=E.o;omega) w2 _ (HC.o.ext HX.o) Z.o).mono ?_;rintro e w3 ⟨k,rfl,hk,hE⟩
 obtain⟨a0,vk,bk,q,_⟩:=hk.open
 have q0:w3.cell? ⟨k,0,none⟩=some (.string (jab 13 (jaP l)).text):=q.cell vF;have O:=Hd (HX.o.trans hE);clear hk q hE;unfold ptrV;go_wp2_with fail
 go_ret2
 exact⟨rfl,O.o⟩
theorem jwv(w:vW)(v:vV)(l:vL)(hc:jbV w)(hv:RdP w v l)(h:jap l=0):vR 40 #[v] w (.tuple #[.string (shaB (jav l).text),.int .i64 0]):=by
 have z:=jyc w v l hc hv h
 obtain⟨a,c,rfl⟩:=hv.sl
 obtain⟨t,E⟩:=vE (jav l).text
 rw[<-E]at z ⊢;have J:=Hd z;have K:=Hd hc;clear z hc hv E h;go_enter Tryz.func40,Tryz.ntmps40;go_wp2_with fail
 refine J.o.mono ?_;rintro e w1 ⟨rfl,q⟩;have H:=Hd q;clear q;go_wp2_with fail
 refine vH (of_t _ _ [t] (by simp) (jcN w1 [t] 9) (K.o.ext (H.o.alloc _))) fun O q=>?_;rw[jdN];have A:=Hd ((H.o.alloc _).trans q);go_wp2_with fail
 go_ret2
 exact⟨rfl,A.o⟩
theorem jvM(d:Nat)(a b:vB)(w:vW):(Op.equalIn (d+1) 9 (.string a) (.string b)).run Tryz.prog w=.ok (a == b) w:=by
 simp[Op.equalIn,bT,run_underlying Tryz.uStr,Result.andThen,cI]
def jgU(d:Option TypeDesc)(l:List (Bool × TypeId × Nat)):Bool:=match d with | some (.struct fs)=>fs.toList.map (fun f=>(f.name == "_",f.type,f.offset)) == l | _=>false
theorem jvN{d:Option TypeDesc}(h:jgU d [(false,9,0),(false,9,1)]=true):∃ f g:Field,d=some (.struct #[f,g])/\f.name ≠ "_"/\f.type=9/\f.offset=0/\g.name ≠ "_"/\g.type=9/\g.offset=1:=by
 cases d with
 | none=>cases h
 | some d =>
  cases d <;> try (cases h;done)
  rename_i fs
  obtain⟨l⟩:=fs
  rcases l with _ |⟨f,_ |⟨g,_ |⟨e,r⟩⟩⟩ <;> simp[jgU]at h
  obtain⟨⟨o,q,z⟩,A,E,H⟩:=h
  exact⟨f,g,rfl,o,q,z,A,E,H⟩
section
section mixf
variable {P:Program} {l:List Oper} {E:vW->vW->Prop}
variable {R:List Nat->Act->vW->Prop} {ord done:List Nat} {a:Act} {w:vW} {k:Nat} {o:Oper}
end mixf
end
def jxh(P:Program)(l:Nat)(args:Array vV)(W:vW)(r:Nat)(Ct:vW->Prop):Prop:=
 YieldAt Fence.wide 0 P l args W fun e W'=>e=.returned (.bool true)/\jad (fun b=>b≠r) W W'/\Ct W'
def jwY(P:Program)(gf:FuncId)(lb:Array vV){σ:Type}(s0:σ)(Step:σ->Array vV->σ->Prop)(Done:σ->Prop)(S:vW->Prop):Prop:=
 ∀ (l:Nat) (C:σ->vW->Prop) (W:vW),(∀ s W1 W2,C s W1->jad (fun b=>b=W.heap.size) W1 W2->C s W2)->(∀ s W1,C s W1->S W1) ->
  (∀ s v s' W1,Step s v s'->C s W1->W.heap.size < W1.heap.size->jxh P l v W1 W.heap.size (C s'))->C s0 W ->
   CallsIn Fence.wide 0 P gf (#[.func (.yield l) #[] #[]]++lb) W (fun e W'=>(∃ v,e=.returned v)/\∃ s,Done s/\C s W')
def jxb(g:Nat)(W:vW)(Ct:vW->Prop):Exit->Act->vW->Prop
 | .normal,_,W'=>jad (fun b=>b≠g/\b≠g+1/\b≠g+2) W W'/\Ct W'
 | _,_,_=>False
theorem jsM{P:Program}{g:Operand}{ps:Array Tmp}{assign body:Code}{Q:Exit->Act->vW->Prop}{a:Act}{w:vW}
  {gf:Nat} {lb:Array vV} (hg:a.eval g=.func (.func gf) #[] lb) (eg:∀ args w,(callFunc gf args).run P w=.ok (.enter gf args) w)
  {σ:Type} {s0:σ} {Step:σ->Array vV->σ->Prop} {Done:σ->Prop} {S:vW->Prop} (IS:jwY P gf lb s0 Step Done S)
  (hps:∀ s v H,Step s v H->v.size=ps.size)
  (C:σ->vW->Prop) (hC:∀ s W z,C s W->jad (fun b=>b=w.heap.size\/b=w.heap.size+1\/b=w.heap.size+2) W z->C s z) (hS:∀ s W,C s W->S W)
  (h0:C s0 w) (a₁:Array vV->Act)
  (hassign:∀ (l:Nat) (v:Array vV) (s H:σ) (W:vW) (K:Act->vW->Prop),Step s v H->K (a₁ v) W ->
   assign.wpIn (Fence.wide.inRound l) 0 P (Exit.then K (fun _ _ _=>False)) { tmps:=(ps.zip v).foldl (fun t (p,v)=>t.setIfInBounds p v) a.tmps,defers:=[] } W)
  (hbody:∀ (l:Nat) (v:Array vV) (s H:σ) (W:vW),Step s v H->C s W->w.heap.size+2 < W.heap.size->body.wpIn (Fence.wide.inRound l) 0 P (jxb w.heap.size W (C H)) (a₁ v) W)
  (hdone:∀ (s:σ) (W:vW),Done s->C s W->Blk W w.heap.size (.deferred (some []))->Q .normal { a with defers:={ target:=.collected w.heap.size,args:=#[] } :: a.defers } W) :
  (Code.rangeFunc g ps assign body).wpIn Fence.wide 0 P Q a w:=by
 refine wpIn_rangeFunc ?_;intro fn _;show ∃ l mark w₁ d w₁' f args w₂,(Instr.enterLoop fn a.tmps ps assign body none).run P w=_/\_
 obtain⟨o,q⟩:∃ o:LoopState->Option Code->Loop,o=fun st pe=>{ state:=st,pending:=pe,fn,tmps:=a.tmps,params:=ps,assign,body,defers:=w.heap.size }:=⟨_,rfl⟩
 obtain⟨E,J⟩:∃ E,(w.alloc (.deferred (some []))).alloc (.loop (o .ready none))=E:=⟨_,rfl⟩
 have a1:Blk E (w.heap.size+1) (.loop (o .ready none)):=by
  rw[<-J];have:=Blk.new (w.alloc (.deferred (some []))) (.loop (o .ready none));rwa [bN]at this
 have a2:Blk E w.heap.size (.deferred (some [])):=by
  rw[<-J];exact (Blk.new w _).alloc _
 have a3:Ext w E:=by rw[<-J];exact ((jad.refl _ w).alloc _).alloc _
 have A:E.heap.size=w.heap.size+2:=by rw[<-J];simp
 refine⟨w.heap.size+1,[{ target:=.collected w.heap.size,args:=#[] }],E,{ target:=.fn (.func gf) lb,args:=#[.func (.yield (w.heap.size+1)) #[] #[]] },E,gf,
  #[.func (.yield (w.heap.size+1)) #[] #[]]++lb,E,?_,?_,?_,?_,fun h=>by simp[Fence.wide]at h,?_⟩
 ·rw[<-J,q];exact run_enterLoop_outer _ _ _ _ _
 ·simp only[resolve,hg]
  simp[go_sem]
 ·intro f' _;trivial
 ·simp[invoke,go_sem,eg]
 ·let CC:σ->vW->Prop:=fun s W=>C s W/\Blk W (w.heap.size+1) (.loop (o .ready none))/\Blk W w.heap.size (.deferred (some []))
  have a4:=IS (w.heap.size+1) CC E (fun s Wa Wb ⟨Z,h2,O⟩ e=>⟨hC s _ _ Z (e.mono (fun b _ h=>by rw[A]at h;exact .inr (.inr h))),h2.keeps e (by rw[A];omega),O.keeps e (by rw[A];omega)⟩)
   (fun s W h=>hS s W h.1) ?_ ⟨hC s0 _ _ h0 (a3.mono (fun _ _ h=>h.elim)),a1,a2⟩
  ·refine CallsIn.mono a4 ?_
   rintro e z ⟨⟨v,rfl⟩,s,hd,Z,O,h4⟩
   obtain⟨ox,he⟩:∃ ox,(Instr.endLoop (w.heap.size+1)).run P z=.ok none (z.putObj (w.heap.size+1) ox):=⟨_,(run_endLoop (r:=o .ready none) O (by rw[q];simp)).trans (by rw[q])⟩
   exact⟨none,_,he,hdone s _ hd (hC s _ _ Z ((jad.onePut _ _ _).mono (fun b _ h=>.inr (.inl h)))) (h4.put_other vO _)⟩
  ·rintro s v H W X ⟨Z,O,h4⟩ a0
   rw[A]at a0
   refine⟨_,_,_,_,run_yield O (by rw[q];exact hps s v H X),?_⟩
   refine roundIn_of_wpIn trivial ?_;rw[show (o .ready none).tmps=a.tmps from by rw[q],show (o .ready none).params=ps from by rw[q],show (o .ready none).assign=assign from by rw[q],show (o .ready none).body=body from by rw[q]];refine hassign _ v s H W _ X ?_
   refine⟨_,run_beginRound O (by rw[q]),?_⟩
   have a5:C s (W.putObj (w.heap.size+1) (.loop { o .ready none with state:=.busy })):=hC s _ _ Z ((jad.onePut _ _ _).mono (fun b _ h=>.inr (.inl h)));refine Code.wpIn_mono ?_ (hbody (w.heap.size+1) v s H _ X a5 (by rw[World.putObj_size];exact a0));have a6:∀ (j:Option Code) (z:vW),jad (fun b=>b≠w.heap.size/\b≠w.heap.size+1/\b≠w.heap.size+2) (W.putObj (w.heap.size+1) (.loop { o .ready none with state:=.busy })) z ->
     (Instr.endRound (w.heap.size+1) j).run P z=.ok (.bool j.isNone) (z.putObj (w.heap.size+1) (.loop (o (if j.isNone then .ready else .done) j))) /\
     Blk (z.putObj (w.heap.size+1) (.loop (o (if j.isNone then .ready else .done) j))) (w.heap.size+1) (.loop (o (if j.isNone then .ready else .done) j)) /\
     Blk (z.putObj (w.heap.size+1) (.loop (o (if j.isNone then .ready else .done) j))) w.heap.size (.deferred (some [])):=by
    intro j z hK;have hl:Blk z (w.heap.size+1) (.loop { o .ready none with state:=.busy }):=(O.put_same _).keeps hK (fun h=>h.2.1 rfl);have hd:Blk z w.heap.size (.deferred (some [])):=(h4.put_other vO _).keeps hK (fun h=>h.1 rfl)
    refine⟨?_,hl.put_same _,hd.put_other vO _⟩
    rw[run_endRound j hl,q]
   intro e a' z hq;cases e with
   | normal =>
    obtain⟨hK,hc⟩:=hq
    obtain⟨f1,f2,f3⟩:=a6 none z hK
    have k1:jad (fun b=>b≠E.heap.size) W (W.putObj (w.heap.size+1) (.loop { o .ready none with state:=.busy })):=(jad.onePut _ _ _).mono (fun b _ h=>by have h:b=w.heap.size+1:=h;rw[A];omega);have k2:jad (fun b=>b≠E.heap.size) (W.putObj (w.heap.size+1) (.loop { o .ready none with state:=.busy })) z:=hK.mono (fun b _ h=>by rw[A];exact h.2.2);have k3:jad (fun b=>b≠E.heap.size) z (z.putObj (w.heap.size+1) (.loop (o .ready none))):=(jad.onePut _ _ _).mono (fun b _ h=>by have h:b=w.heap.size+1:=h;rw[A];omega)
    exact⟨_,_,f1,rfl,(k1.trans k2).trans k3,hC H _ _ hc ((jad.onePut _ _ _).mono (fun b _ h=>.inr (.inl h))),f2,f3⟩
   | _=>exact hq.elim
section
attribute [local go_sem] Oper.semAt_some
abbrev EntS:=Ent (vN)
theorem Tryz.uMapSE:Tryz.prog.underlying 117=some (.map 9 71):=vY
def jfP(s:List EntS):Array Nat:=(s.map (·.2.2)).toArray
def jwZ(es:List EntS)(s:List EntS)(v:Array vV)(s':List EntS):Prop:=∃ x∈jaX es (jfP s),v=#[str x.1]/\s'=s++[x]
def jo2(es:List EntS)(s:List EntS):Prop:=jaX es (jfP s)=[]
def jsu(w:vW)(r:Nat):Array Nat:=match w.heap[r]? with | some (.mapIter _ _ s _)=>s | _=>#[]
theorem jjF{w:vW}{r:Nat}{m:Option Nat}{a b:Nat}{s:Array Nat}(h:Blk w r (.mapIter m a s b)):jsu w r=s:=by
 unfold jsu;rw[show w.heap[r]?=_ from h]
theorem jv1{es:List EntS}{s:List EntS}{x:EntS}(hx:x∈jaX es (jfP s)):(jaX es (jfP (s++[x]))).length < (jaX es (jfP s)).length:=by
 have e:jaX es (jfP (s++[x]))=(jaX es (jfP s)).filter (fun y => !(y.2.2 == x.2.2)):=by
  unfold jaX jfP;rw[List.filter_filter];refine List.filter_congr (fun y _=>?_);simp only[List.contains_toArray,bY,bL,iD,List.contains_append]
  by_cases h1:y.2.2=x.2.2 <;> simp[h1]
 rw[e,List.length_filter_lt_length_iff_exists]
 exact⟨x,hx,by simp⟩
def KyS(bx bm ck:Nat)(es:List EntS)(W:vW):Prop:=Blk W bx (.cells #[.map (some bm)] 117)/\Blk W bm (.map (Tryz.ES.arr es) ck)
def jyn(r bm ck:Nat)(es:List EntS)(C:List EntS->vW->Prop)(wr:vW):Prop:=∃ s,C s wr/\Blk wr r (.mapIter (some bm) ck (jfP s) ck)
theorem jvX(bx bm ck:Nat)(es:List EntS)(hnd:(es.map (·.2.2)).Nodup)(hlt:∀ x∈es,x.2.2 < ck) :
  jwY Tryz.prog 109 #[.pointer (some ⟨bx,0,none⟩)] ([]:List EntS) (jwZ es) (jo2 es) (KyS bx bm ck es):=by
 intro l C W hC hS hY h0
 obtain⟨J,z⟩:=hS _ _ h0
 have c1:=J.cell (i:=0) (v:=.map (some bm)) vF;have K:=jmh Tryz.ES Tryz.uMapSE z;have A:=Hd (show C [] (W.alloc (.mapIter (some bm) ck #[] ck))from hC [] _ _ h0 (((ExtR W).alloc _).mono (fun _ _ h=>h.elim)));have HC:=Hd hC;have HS:=Hd hS;have HY:=Hd hY;have E:=Hd hnd;have H:=Hd hlt;clear hC hS hY h0 J z hnd hlt;refine callsIn_of_wp Tryz.func109 rfl trivial ?_ rfl;simp only[Tryz.ntmps109,dB,bP,dN,Nat.reduceAdd,Nat.reduceSub,dG,dF,dU,dM,cP,cV];gi_wp2_with fail
 obtain⟨r,hr⟩:=vE W.heap.size
 have HR:=Hd hr;rw[<-hr];clear hr;gi_loopw [] (fun wr=>jyn r bm ck es C wr) (fun wr=>(jaX es (jsu wr r)).length)
 case atStart=>exact⟨[],A.o,by rw[HR.o];exact Blk.new W _⟩
 case round =>
  obtain⟨s,q,O⟩:=hrel
  obtain⟨J,z⟩:=HS.o _ _ q
  rcases joH Tryz.ES z O H.o 0 with⟨hl0,hnx⟩ |⟨x,hxl,w2,hnx,hr2,hk2⟩
  ·have a6:Hid (jo2 es s):=hl0
   have a7:=Hd q;clear hl0 q J z O HC HS HY E H A c1 K;gi_wp2_with fail
   refine bodyPost_end (results_none rfl _ _ _) rfl ?_
   exact⟨⟨_,rfl⟩,s,a6.o,a7.o⟩
  ·have Q:r≠bm:=fun e=>by have:=z.uniq (e ▸ O);cases this
   have X:=z.keeps hk2 (fun e=>Q e.symm);have Z:x∈es:=(cH.1 hxl).1;have a8:=jmg Tryz.ES X Z hr2 E.o;have a1:C s w2:=HC.o s _ _ q (hk2.mono (fun b _ e=>by rw[<-HR.o];exact e))
   obtain⟨fn,tm,a9,bd,a2,a3⟩:=HY.o s #[str x.1] (s++[x]) w2 ⟨x,hxl,rfl,rfl⟩ a1 (by rw[<-HR.o];exact hr2.lt)
   have a0:(Instr.yield l #[Tryz.ES.κ x.1]).run Tryz.prog w2=.ok (.round l fn tm a9 bd) w2:=a2;have b0:=Hd hxl;have b1:=Hd (jjF O);have a4:(jfP s).push x.2.2=jfP (s++[x]):=by unfold jfP;simp
   rw[a4]at hr2;have b2:=Hd hr2;have b3:=Hd a3;clear a2 a1 q J z O HC HS E H A c1 K X hk2 hxl Z hr2 a3 a4 Q;gi_wp2_with fail
   refine⟨rfl,b3.o.mono ?_⟩
   rintro e w5 ⟨rfl,k5,C5⟩;have a5:=Hd (b2.o.keeps k5 (fun h=>h HR.o));have b4:=Hd C5;clear C5 k5 hnx a8 a0;gi_wp2_with fail
   go_roundw
   case rel=>exact⟨_,b4.o,a5.o⟩
   case measure =>
    rw[jjF a5.o,b1.o];exact jv1 b0.o
def revJ(j:Nat):List Nat:=(List.range 16).reverse.take j
theorem jsi{j:Nat}(h:j < 16):revJ (j+1)=revJ j++[15 - j]:=by
 unfold revJ
 have:(List.range 16).reverse[j]?=some (15 - j):=by
  rw[List.getElem?_reverse (by simpa using h),gJ,dV vO]
 rw[cE,this];rfl
theorem jj7{F:BSet}{w2 w3:vW}{m:Nat}{a:Act}{o:Oper}(ho:execOp a.eval o=(do pure (.value (<-convert 56 9 (.slice (some ⟨w2.heap.size,0,none⟩) 1 1)))))
  (h:jad F (w2.alloc (.cells #[.int .u8 (m:Int)] 5)) w3) (hF:¬ F w2.heap.size) (hm:m < 16):(execOp a.eval o).run Tryz.prog w3=.ok (.value (.string (nib1 m))) w3:=by
 have q:=(Blk.new w2 (.cells #[.int .u8 (m:Int)] 5)).keeps h hF;have e:(m:Int)=((UInt8.ofNat m).toNat:Int):=by rw[jnr m vO]
 have z:w3.ownsRow 0 5 1 (.slice (some ⟨w2.heap.size,0,none⟩) 1 1) 1 (jaI [UInt8.ofNat m]):=
  ⟨rfl,.inr ⟨_,1,_,rfl,cB _,q,bM _,by unfold maxLen;omega,rfl,by rw[e];rfl⟩⟩
 have A:=jbB w3 Tryz.uBytes Tryz.uU8 Tryz.uStr z;rw[ho,bT,A];rfl
end
end Go.Proofs.YtmobgkphhbmhbaaGreatDoor
