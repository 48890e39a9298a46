/- Lemmas; each is under no condition but those that it states. -/
import Derived.Test.YtdofbjccfkaijaaGreatDoorPn17
namespace Go.Proofs.YtdofbjccfkaijaaGreatDoor
set_option linter.unusedSimpArgs false
set_option linter.unusedVariables false
set_option maxRecDepth 100000
set_option maxHeartbeats 16000000
open Go Go.RowKit
def joh(n:jad)(p:vB):vB × vB:=
 if n.kind=3 then match p.data.toList with
  | []=>(⟨#[]⟩,p)
  | x :: _=>if (n.refs.getD x.toNat ⟨#[]⟩).size=0 then (⟨#[]⟩,p)else (n.refs.getD x.toNat ⟨#[]⟩,p.extract 1 p.size)
 else if n.kind=2 then if preB n.path p then (n.refs.getD 0 ⟨#[]⟩,p.extract n.path.size p.size)else (⟨#[]⟩,p)
 else (⟨#[]⟩,p)
def jjF(n:jad)(p:vB):Option vB:=
 if n.kind=1 then if n.path=p then some n.value else none
 else if n.kind=3 then if p.size=0/\n.value.size≠0 then some n.value else none
 else none
def valL:vL->vB->Option vB
 | [],_=>none
 | q :: l,p=>if q.1=p then some q.2 else valL l p
def goL(l:vL)(p:vB):Option (vL × vB):=
 if l.length<=1 then none
 else if 0 < comK l then if preB ((l.getD 0 pd).1.extract 0 (comK l)) p then some (jak (comK l) l,p.extract (comK l) p.size)else none
 else match p.data.toList with
  | []=>none
  | x :: _=>if (cutL x.toNat l).length=0 then none else some (jak 1 (cutL x.toNat l),p.extract 1 p.size)
def bigs(t:vB):vM:=if t.size < 32 then []else [t]
def sumL:vL->Nat
 | []=>0
 | q :: l=>q.1.size+sumL l
theorem jlk:∀ {l:vL} {p v:vB},valL l p=some v->(p,v)∈l
 | q :: l,p,v,h=>by
  unfold valL at h;split at h
  ·rename_i e
   obtain rfl:=bS h;subst e;exact bH
  ·exact bE _ (jlk h)
theorem jpZ:∀ {l:vL} {p v:vB},(l.Pairwise fun p q=>Lt p.l q.l)->(p,v)∈l->valL l p=some v
 | q :: l,p,v,hl,h=>by
  rw[cS]at hl;unfold valL;rcases bM.1 h with h | h
  ·subst h;rw[if_pos rfl]
  ·rw[if_neg (fun e=>by have:=hl.1 _ h;rw[show q.l=p.data.toList from congrArg (fun x:vB=>x.data.toList) e]at this;exact lt_irrefl _ this),jpZ hl.2 h]
theorem jgZ{l:vL}{p:vB}(h:∀ q∈l,q.1≠p):valL l p=none:=by
 cases hv:valL l p with
 | none=>rfl
 | some v=>exact absurd rfl (h _ (jlk hv))
theorem jp0{l m:vL}{p q:vB}(hl:l.Pairwise fun p q=>Lt p.l q.l)(hm:m.Pairwise fun p q=>Lt p.l q.l)(h:∀ v,(p,v)∈l↔(q,v)∈m):valL l p=valL m q:=by
 cases hv:valL l p with
 | some v=>exact (jpZ hm ((h v).1 (jlk hv))).symm
 | none =>
  cases hw:valL m q with
  | none=>rfl
  | some v=>rw[jpZ hl ((h v).2 (jlk hw))]at hv;cases hv
theorem jdt(a p:vB):preB a p=true↔∃ r,p.data.toList=a.data.toList++r:=by
 unfold preB;rw[List.isPrefixOf_iff_prefix]
 exact⟨fun ⟨r,h⟩=>⟨r,h.symm⟩,fun ⟨r,h⟩=>⟨r,h.symm⟩⟩
theorem jdS(b:vB)(k:Nat):(b.extract k b.size).data.toList=b.data.toList.drop k:=jcO b k b.size (bL _)
theorem jaT(b:vB):b.data.toList.length=b.size:=rfl
theorem jpP(k:Nat):∀ l:vL,sumL (jak k l)<=sumL l
 | []=>bL _
 | q :: l=>by
  have:=jpP k l
  show (q.1.extract k q.1.size).size+sumL (jak k l)<=q.1.size+sumL l;rw[ja3];omega
theorem jjf{k:Nat}(hk:0 < k):∀ {l:vL},l≠[]->(∀ q∈l,k<=q.1.size)->sumL (jak k l) < sumL l
 | q :: l,_,h=>by
  have:=jpP k l
  have:=h q bH
  show (q.1.extract k q.1.size).size+sumL (jak k l) < q.1.size+sumL l;rw[ja3];omega
theorem jkd(g:Pair->Bool):∀ l:vL,sumL (l.filter g)<=sumL l
 | []=>bL _
 | q :: l=>by
  have:=jkd g l
  rw[dH];show _<=q.1.size+sumL l;split
  ·show q.1.size+sumL _<=_;omega
  ·omega
structure KidP(f:Nat)(l:vL)(p:vB)(m:vL)(q:vB):Prop where
 rows:jas f m
 ne:m≠[]
 step:joh (jap (jac (f+1)) l) p=(refB (jac (f+1) m).text,q)
 less:q.size < p.size
 valid:jaB q=true
 flat:∀ x∈jax (jac (f+1) m),32<=x.size->x∈jax (jac (f+1+1) l)
 find:valL m q=valL l p
 sum:sumL m < sumL l
 no:jjF (jap (jac (f+1)) l) p=none
theorem jdz{l:vL}(h:0 < l.length):l.getD 0 pd∈l:=by rw[bG,bA h];exact dG _
theorem jfe{l:vL}:((l.getD 0 pd).1.extract 0 (comK l)).data.toList=(l.getD 0 pd).l.take (comK l):=by
 rw[dA,fL,dU];simp
theorem jdg{f:Nat}{l:vL}(h:jas f l)(h2:2<=l.length):((l.getD 0 pd).1.extract 0 (comK l)).size=comK l:=by
 have:=(jbl h h2 _ (jdz vO)).2
 rw[cL];omega
theorem jso{f:Nat}{l:vL}{p:vB}{m:vL}{q:vB}(h:jas (f+1) l)(H:jaB p=true)(o:goL l p=some (m,q)):KidP f l p m q:=by
 unfold goL at o
 by_cases h1:l.length<=1
 ·rw[if_pos h1]at o;cases o
 rw[if_neg h1]at o;have J:2<=l.length:=vO
 have z:=jbl h J
 by_cases hk:0 < comK l
 ·rw[if_pos hk]at o
  by_cases hpre:preB ((l.getD 0 pd).1.extract 0 (comK l)) p=true
  case neg=>rw[if_neg hpre]at o;cases o
  rw[if_pos hpre]at o
  obtain⟨rfl,rfl⟩:=Prod.mk.inj (bS o)
  have A:jas f (jak (comK l) l):=(jb9 (comK l) h (fun p H q Q=>(z p H).1.trans (z q Q).1.symm) (fun p H=>(z p H).2)).mono vO;have E:jak (comK l) l≠[]:=fun e=>by have:=jaJ (comK l) l;rw[e]at this;simp at this;omega
  have eB:jav (jac (f+1)) l=jbF (jac (f+1) (jak (comK l) l)):=by unfold jav;rw[if_neg vO,if_pos hk]
  have X:jap (jac (f+1)) l=⟨2,(l.getD 0 pd).1.extract 0 (comK l),⟨#[]⟩,refB (jac (f+1) (jak (comK l) l)).text :: jam 15⟩:=by unfold jap;rw[if_neg vO,if_neg vO,if_pos hk]
  obtain⟨r,hr⟩:=(jdt _ _).1 hpre
  have a4:comK l<=p.size:=by
   rw[<-jaT p,hr,bC,jaT,jdg h J];omega
  refine⟨A,E,?_,by rw[ja3];omega,jbv H _ _,jhX E A (by rw[eB];exact fun _ hh=>hh),?_,jjf hk (fun e=>by rw[e]at J;simp at J) (fun q Q=>(z q Q).2),by rw[X];rfl⟩
  ·rw[X]
   unfold joh;rw[if_neg (show ¬(2:Nat)=3 by decide),if_pos rfl,if_pos hpre];show (_,p.extract ((l.getD 0 pd).1.extract 0 (comK l)).size p.size)=_;rw[jdg h J];rfl
  ·refine jp0 A.rise h.rise fun v=>⟨fun K=>?_,fun K=>?_⟩
   ·obtain⟨x,Z,e⟩:=bJ.1 K
    obtain⟨e1,e2⟩:=Prod.mk.inj e
    have:x=(p,v):=by
     refine Prod.ext (jbC ?_) e2;have e3:x.1.data.toList.drop (comK l)=p.data.toList.drop (comK l):=by rw[<-jdS,e1,jdS]
     have e4:x.1.data.toList.take (comK l)=p.data.toList.take (comK l):=by
      rw[show x.1.data.toList=x.l from rfl,(z x Z).1, <-jfe,hr,gJ (by rw[jaT,jdg h J];exact bL _),bN (by rw[jaT,jdg h J];exact bL _)]
     show x.1.data.toList=p.data.toList;rw[<-cX (comK l) x.1.data.toList,e3,e4,cX]
    rw[<-this];exact Z
   ·exact bJ.2 ⟨_,K,rfl⟩
 ·rw[if_neg hk]at o
  cases hpl:p.data.toList with
  | nil=>rw[hpl]at o;cases o
  | cons x r =>
   rw[hpl]at o
   by_cases hc:(cutL x.toNat l).length=0
   ·have o:(if (cutL x.toNat l).length=0 then none else some (jak 1 (cutL x.toNat l),p.extract 1 p.size))=some (m,q):=o
    rw[if_pos hc]at o;cases o
   have o:(if (cutL x.toNat l).length=0 then none else some (jak 1 (cutL x.toNat l),p.extract 1 p.size))=some (m,q):=o;rw[if_neg hc]at o
   obtain⟨rfl,rfl⟩:=Prod.mk.inj (bS o)
   have A:jas f (jak 1 (cutL x.toNat l)):=jdq x.toNat h;have E:jak 1 (cutL x.toNat l)≠[]:=fun e=>by have:=jaJ 1 (cutL x.toNat l);rw[e]at this;simp at this;exact hc this.symm
   have Z:x.toNat < 16:=jfi (p:=(p,p)) H hpl;have eB:jav (jac (f+1)) l=(List.range 16).flatMap fun i=>if (cutL i l).length=0 then []else jbF (jac (f+1) (jak 1 (cutL i l))):=by unfold jav;rw[if_neg vO,if_neg hk]
   obtain⟨rs,O⟩:=vE ((List.range 16).map fun i=>if (cutL i l).length=0 then (⟨#[]⟩:vB)else refB (jac (f+1) (jak 1 (cutL i l))).text)
   obtain⟨va,a3⟩:=vE (if (l.getD 0 pd).1.size=0 then (l.getD 0 pd).2 else ⟨#[]⟩)
   have X:jap (jac (f+1)) l=⟨3,⟨#[]⟩,va,rs⟩:=by rw[O,a3];unfold jap;rw[if_neg vO,if_neg vO,if_neg hk]
   have a0:rs.getD x.toNat ⟨#[]⟩=refB (jac (f+1) (jak 1 (cutL x.toNat l))).text:=by rw[O,jfF _ Z,if_neg hc]
   clear O a3;have a4:1<=p.size:=by rw[<-jaT p,hpl];simp
   have a1:∀ q∈cutL x.toNat l,1<=q.1.size:=fun q Q=>by
    obtain⟨_,a,r,e,_⟩:=jbz Q
    rw[<-jaT,show q.1.data.toList=a :: r from e];simp
   have a2:sumL (jak 1 (cutL x.toNat l)) < sumL l:=bQ (jjf (iZ) (fun e=>hc (by rw[e];rfl)) a1) (jkd _ _)
   refine⟨A,E,?_,by rw[ja3];omega,jbv H _ _,jhX E A (fun y hy=>?_),?_,a2,?_⟩
   ·rw[X]
    unfold joh;rw[if_pos rfl,hpl];show (if (rs.getD x.toNat ⟨#[]⟩).size=0 then _ else (rs.getD x.toNat ⟨#[]⟩,_))=_;rw[a0,if_neg (jk6 A E)]
   ·rw[eB]
    exact cR.2 ⟨x.toNat,dW.2 Z,by rw[if_neg hc];exact hy⟩
   ·refine jp0 A.rise h.rise fun v=>⟨fun K=>?_,fun K=>?_⟩
    ·obtain⟨y,hy,e⟩:=bJ.1 K
     obtain⟨a5,a,r',e3,e4⟩:=jbz hy
     obtain⟨e1,e2⟩:=Prod.mk.inj e
     have:y=(p,v):=by
      refine Prod.ext (jbC ?_) e2;have e5:y.1.data.toList.drop 1=p.data.toList.drop 1:=by rw[<-jdS,e1,jdS]
      have e3:y.1.data.toList=a :: r':=e3;show y.1.data.toList=p.data.toList;rw[e3,hpl]at e5 ⊢;simp at e5;rw[e5,dP.1 e4]
     rw[<-this];exact a5
    ·refine bJ.2 ⟨(p,v),?_,rfl⟩
     refine cM.2 ⟨K,?_⟩;unfold jeU;show (match p.data.toList with | []=>false | a :: _=>a.toNat == x.toNat)=true;rw[hpl];simp
   ·rw[X]
    unfold jjF;rw[if_neg (show ¬(3:Nat)=1 by decide),if_pos rfl,if_neg (fun e=>by have:=e.1;omega)]
theorem jsn{f:Nat}{l:vL}{p:vB}(h:jas f l)(hp:jaB p=true)(o:goL l p=none):joh (jap (jac f) l) p=(⟨#[]⟩,p)/\jjF (jap (jac f) l) p=valL l p:=by
 by_cases h0:l.length=0
 ·have e:jap (jac f) l=jaG:=by unfold jap;rw[if_pos h0]
  rw[e,bD h0]
  exact⟨rfl,rfl⟩
 by_cases h1:l.length=1
 ·have e:jap (jac f) l=⟨1,(l.getD 0 pd).1,(l.getD 0 pd).2,jam 16⟩:=by unfold jap;rw[if_neg h0,if_pos h1]
  rw[e]
  obtain⟨q,rfl⟩:=fN.1 h1
  exact⟨rfl,by unfold jjF valL valL;rfl⟩
 have h2:2<=l.length:=vO
 have J:=jbl h h2;unfold goL at o;rw[if_neg vO]at o
 by_cases hk:0 < comK l
 ·rw[if_pos hk]at o
  have e:jap (jac f) l=⟨2,(l.getD 0 pd).1.extract 0 (comK l),⟨#[]⟩,refB (jac f (jak (comK l) l)).text :: jam 15⟩:=by unfold jap;rw[if_neg h0,if_neg h1,if_pos hk]
  have z:¬ preB ((l.getD 0 pd).1.extract 0 (comK l)) p=true:=fun hh=>by rw[if_pos hh]at o;cases o
  rw[e]
  refine⟨?_,?_⟩
  ·unfold joh
   rw[if_neg (show ¬(2:Nat)=3 by decide),if_pos rfl,if_neg z]
  ·refine (Eq.trans ?_ (jgZ fun q K e=>?_).symm)
   ·rfl
   ·refine z ((jdt _ _).2 ⟨p.data.toList.drop (comK l),?_⟩)
    rw[jfe, <-(J q K).1,show q.l=p.data.toList from congrArg (fun x:vB=>x.data.toList) e,cX]
 ·rw[if_neg hk]at o
  obtain⟨Z,A⟩:=vE ((List.range 16).map fun i=>if (cutL i l).length=0 then (⟨#[]⟩:vB)else refB (jac f (jak 1 (cutL i l))).text)
  have e:jap (jac f) l=⟨3,⟨#[]⟩,if (l.getD 0 pd).1.size=0 then (l.getD 0 pd).2 else ⟨#[]⟩,Z⟩:=by rw[A];unfold jap;rw[if_neg h0,if_neg h1,if_neg hk]
  have O:∀ i,i < 16->(cutL i l).length=0->Z.getD i ⟨#[]⟩=⟨#[]⟩:=fun i X E=>by rw[A,jfF _ X,if_pos E]
  clear A;rw[e];cases hpl:p.data.toList with
  | nil =>
   have H:p.size=0:=by rw[<-jaT p,hpl];rfl
   refine⟨?_,?_⟩
   ·unfold joh
    rw[if_pos rfl,hpl]
   ·unfold jjF
    rw[if_neg (show ¬(3:Nat)=1 by decide),if_pos rfl];have a1:p=⟨#[]⟩:=jbC (by rw[hpl]);have hm:=jdz (l:=l) vO
    obtain⟨_,_,_,s4,_⟩:=h.size _ hm
    by_cases hz:(l.getD 0 pd).1.size=0
    ·simp only[hz,if_true]
     rw[if_pos ⟨H,by omega⟩];refine (jpZ h.rise ?_).symm;have a0:(l.getD 0 pd).1.data.toList=[]:=bD hz
     have:(p,(l.getD 0 pd).2)=l.getD 0 pd:=Prod.ext (by
      show p=(l.getD 0 pd).1;exact jbC (by rw[hpl,a0])) rfl
     rw[this];exact hm
    ·simp only[if_neg hz]
     rw[if_neg (fun e=>e.2 rfl)];refine (jgZ fun q K e=>?_).symm
     obtain⟨i,X⟩:=gR K
     cases i with
     | zero =>
      have:l.getD 0 pd=q:=by rw[bG,X];rfl
      rw[this,e]at hz;exact hz H
     | succ i =>
      obtain⟨a,ha⟩:∃ a,l[0]?=some a:=⟨_,bA vO⟩
      have:=jca h.rise vO ha X
      rw[show q.l=[]from(congrArg (fun x:vB=>x.data.toList) e).trans hpl]at this;exact not_lt_nil _ this
  | cons x r =>
   rw[hpl]at o;have o:(if (cutL x.toNat l).length=0 then none else some (jak 1 (cutL x.toNat l),p.extract 1 p.size))=none:=o;have E:(cutL x.toNat l).length=0:=by
    by_cases E:(cutL x.toNat l).length=0
    ·exact E
    ·rw[if_neg E]at o;cases o
   have hx:x.toNat < 16:=jfi (p:=(p,p)) hp hpl;have H:1<=p.size:=by rw[<-jaT p,hpl];simp
   refine⟨?_,?_⟩
   ·unfold joh
    rw[if_pos rfl,hpl];show (if (Z.getD x.toNat ⟨#[]⟩).size=0 then _ else _)=_;rw[O _ hx E,if_pos (show (⟨#[]⟩:vB).size=0 from rfl)]
   ·unfold jjF
    rw[if_neg (show ¬(3:Nat)=1 by decide),if_pos rfl,if_neg (fun e=>by have:=e.1;omega)];refine (jgZ fun q K e=>?_).symm;have Q:q∈cutL x.toNat l:=cM.2 ⟨K,by
     unfold jeU;rw[show q.1.data.toList=x :: r from(congrArg (fun x:vB=>x.data.toList) e).trans hpl];simp⟩
    rw[bD E]at Q;cases Q
theorem jjw:∀ (f g:Nat) (l:vL),jas f l->f<=g->jap (jac f) l=jap (jac g) l/\jac (f+1) l=jac (g+1) l:=by
 have A:∀ (f g:Nat) (l:vL),jap (jac f) l=jap (jac g) l->jav (jac f) l=jav (jac g) l->jap (jac f) l=jap (jac g) l/\jac (f+1) l=jac (g+1) l:=fun f g l z E=>⟨z,by
  show PT.mk (jaP (jap (jac f) l)) (jav (jac f) l)=PT.mk (jaP (jap (jac g) l)) (jav (jac g) l);rw[z,E]⟩
 intro f;induction f with
 | zero =>
  intro g l h O;have z:=jbI h;refine A _ _ _ ?_ ?_
  ·unfold jap
   by_cases h0:l.length=0
   ·rw[if_pos h0,if_pos h0]
   ·rw[if_neg h0,if_neg h0,if_pos vO,if_pos vO]
  ·unfold jav;rw[if_pos z,if_pos z]
 | succ f ih =>
  intro g l h O
  obtain⟨g,rfl⟩:∃ k,g=k+1:=⟨g - 1,by omega⟩
  by_cases z:l.length<=1
  ·refine A _ _ _ ?_ ?_
   ·unfold jap
    by_cases h0:l.length=0
    ·rw[if_pos h0,if_pos h0]
    ·rw[if_neg h0,if_neg h0,if_pos vO,if_pos vO]
   ·unfold jav;rw[if_pos z,if_pos z]
  have E:2<=l.length:=vO
  have o:=jbl h E;have J:0 < comK l->jac (f+1) (jak (comK l) l)=jac (g+1) (jak (comK l) l):=fun e =>
   (ih g _ ((jb9 (comK l) h (fun p H q Q=>(o p H).1.trans (o q Q).1.symm) (fun p H=>(o p H).2)).mono vO) vO).2
  have K:∀ i,jac (f+1) (jak 1 (cutL i l))=jac (g+1) (jak 1 (cutL i l)):=fun i=>(ih g _ (jdq i h) vO).2;refine A _ _ _ ?_ ?_
  ·have X:¬ l.length=0:=vO
   have Z:¬ l.length=1:=vO
   unfold jap;simp only[if_neg X,if_neg Z]
   by_cases e:0 < comK l
   ·rw[if_pos e,if_pos e,J e]
   ·rw[if_neg e,if_neg e]
    simp only[K]
  ·unfold jav
   simp only[if_neg z]
   by_cases e:0 < comK l
   ·rw[if_pos e,if_pos e,J e]
   ·rw[if_neg e,if_neg e]
    simp only[K]
theorem jkn(t:vB):(bigs t).length<=1:=by unfold bigs;split <;> simp
theorem jvj{f:Nat}{l:vL}(h:jas f l){x:vB}(hx:x∈jax (jac (f+1) l)):x=(jac (f+1) l).text\/32<=x.size:=by
 have o:jax (jac (f+1) l)=jaP (jap (jac f) l) :: jaH (jav (jac f) l):=by
  show jax (.mk (jaP (jap (jac f) l)) (jav (jac f) l))=_;rw[jax]
 rw[o]at hx;rcases bM.1 hx with e | hx
 ·exact .inl e
 ·exact .inr ((jwL f l h).told x hx).1
theorem jpY{l:vL}(k:vB):valL (jaR l) (jbu k)=valL l k:=by
 have o:∀ {a b:vB},jbu a=jbu b->a=b:=fun {a b} e=>jbC (jkZ (by
  have:=congrArg (fun x:vB=>x.data.toList) e
  simpa [jbu]using this))
 induction l with
 | nil=>rfl
 | cons q l ih =>
  show (if jbu q.1=jbu k then some q.2 else valL (jaR l) (jbu k))=if q.1=k then some q.2 else valL l k
  by_cases e:q.1=k
  ·rw[if_pos (by rw[e]),if_pos e]
  ·rw[if_neg (fun h=>e (o h)),if_neg e,ih]
theorem jk1{a p:vB}(h:preB a p=true):a.size<=p.size:=by
 obtain⟨s,e⟩:=(jdt _ _).1 h
 rw[<-jaT p,e,bC,jaT];omega
theorem jgD{p:vB}{x:vU}{t:vN}(h:p.data.toList=x :: t):∃ h0:0 < p.size,p[0]=x:=by
 obtain⟨⟨l⟩⟩:=p
 have h:l=x :: t:=h;subst h
 exact⟨Nat.succ_pos _,rfl⟩
inductive PA where
 | nil
 | no
 | leaf (path value:vB)
 | ext (path:vB) (next:PA)
 | br (value:vB) (kids:Nat->PA)
def PA.isNil:PA->Bool | .nil=>true | _=>false
def PA.isNo:PA->Bool | .no=>true | _=>false
def PA.isBr:PA->Bool | .br _ _=>true | _=>false
def jci(a:vB)(P:PA):PA:=if a.size=0 then P else match P with
 | .leaf q v=>.leaf (a++q) v
 | .ext q n=>.ext (a++q) n
 | .br v ks=>.ext a (.br v ks)
 | _=>.no
def setK(ks:Nat->PA)(i:Nat)(P:PA):Nat->PA:=fun j=>if j=i then P else ks j
def jat(p:vB):Nat:=(p.data.toList.headD 0).toNat
def jbB(p:vB):vB:=p.extract 1 p.size
def addK:PA->vB->vB->PA
 | .br v ks,p,u=>if p.size=0 then .br u ks else .br v (setK ks (jat p) (.leaf (jbB p) u))
 | P,_,_=>P
theorem jcS(v:vB)(ks:Nat->PA)(p u:vB):addK (.br v ks) p u=if p.size=0 then .br u ks else .br v (setK ks (jat p) (.leaf (jbB p) u)):=rfl
theorem ff:¬(false=true):=by decide
def putP:PA->vB->vB->PA
 | .nil,p,u=>.leaf p u
 | .no,p,u=>.leaf p u
 | .leaf q v,p,u=>if p=q then .leaf p u else
   jci (p.extract 0 (jal q p)) (addK (addK (.br ⟨#[]⟩ fun _=>.nil) (q.extract (jal q p) q.size) v) (p.extract (jal q p) p.size) u)
 | .ext q n,p,u=>if jal q p=q.size then jci q (putP n (p.extract (jal q p) p.size) u)else
   jci (p.extract 0 (jal q p)) (addK (.br ⟨#[]⟩ (setK (fun _=>.nil) (jat (q.extract (jal q p) q.size)) (jci (q.extract (jal q p+1) q.size) n))) (p.extract (jal q p) p.size) u)
 | .br v ks,p,u=>if p.size=0 then .br u ks else .br v (setK ks (jat p) (putP (ks (jat p)) (jbB p) u))
def idxK(ks:Nat->PA):List Nat:=(List.range 16).filter fun i => !(ks i).isNil
def jdu(v:vB)(ks:Nat->PA):PA:=match idxK ks with
 | []=>if v.size=0 then .no else .leaf ⟨#[]⟩ v
 | [i]=>if v.size=0 then jci ⟨#[UInt8.ofNat i]⟩ (ks i)else .br v ks
 | _=>.br v ks
def unNo(P:PA):PA:=if P.isNo then .nil else P
def jbU:PA->vB->PA
 | .nil,_=>.no
 | .no,_=>.no
 | .leaf q v,p=>if p=q then .no else .leaf q v
 | .ext q n,p=>if preB q p then jci q (jbU n (p.extract q.size p.size))else .ext q n
 | .br v ks,p=>if p.size=0 then jdu ⟨#[]⟩ ks else if (ks (jat p)).isNil then .br v ks else jdu v (setK ks (jat p) (unNo (jbU (ks (jat p)) (jbB p))))
def getL:PA->vN->Option vB
 | .nil,_=>none
 | .no,_=>none
 | .leaf q v,p=>if q.data.toList=p then some v else none
 | .ext q n,p=>if q.data.toList.isPrefixOf p then getL n (p.drop q.data.toList.length)else none
 | .br v _,[]=>if v.size=0 then none else some v
 | .br _ ks,x :: t=>getL (ks x.toNat) t
def TwoK(v:vB)(ks:Nat->PA):Prop:=(∃ i j,i≠j/\(ks i).isNil=false/\(ks j).isNil=false)\/(v.size≠0/\∃ i,(ks i).isNil=false)
def CanP:PA->Prop
 | .nil=>False
 | .no=>False
 | .leaf q v=>jaB q=true/\v.size≠0
 | .ext q n=>q.size≠0/\jaB q=true/\n.isBr=true/\CanP n
 | .br v ks=>(∀ i,(ks i).isNil=false->i < 16)/\(∀ i,(ks i).isNil=false->CanP (ks i))/\TwoK v ks
theorem jlC(a b:vB):(a++b).data.toList=a.data.toList++b.data.toList:=by
 simp[cY]
theorem jbE{P:PA}(h:P.isNil=true):P=.nil:=by cases P <;> first | rfl | cases h
theorem jsA{P:PA}(h:P.isNo=true):P=.no:=by cases P <;> first | rfl | cases h
theorem jnv{P:PA}(h:CanP P):P.isNil=false:=by cases P <;> first | rfl | exact h.elim
theorem jzL{P:PA}(h:CanP P):P.isNo=false:=by cases P <;> first | rfl | exact h.elim
theorem jcl{a p:vN}:a.isPrefixOf p=true↔∃ r,p=a++r:=by
 rw[List.isPrefixOf_iff_prefix]
 exact⟨fun ⟨r,h⟩=>⟨r,h.symm⟩,fun ⟨r,h⟩=>⟨r,h.symm⟩⟩
theorem jmy{a p:vN}(h:a.isPrefixOf p=false):∀ r,p≠a++r:=fun r e=>by
 rw[jcl.2 ⟨r,e⟩]at h;cases h
theorem jfQ{a:vB}(h:a.size=0):a.data.toList=[]:=bD (by rw[jaT];exact h)
theorem jcp{a:vB}(h:a.size≠0):∃ x t,a.data.toList=x :: t:=by
 cases e:a.data.toList with
 | nil=>rw[<-jaT,e]at h;exact (h rfl).elim
 | cons x t=>exact⟨x,t,rfl⟩
theorem jbL{p:vB}{x:vU}{t:vN}(h:p.data.toList=x :: t):jat p=x.toNat/\(jbB p).data.toList=t:=by
 refine⟨by unfold jat;rw[h];rfl,?_⟩
 unfold jbB;rw[jdS,h];rfl
theorem jdc{x y:vU}(h:x≠y):x.toNat≠y.toNat:=fun e=>h (dP.1 e)
theorem jfG(a:vB)(P:PA)(p:vN):getL (jci a P) p=if a.data.toList.isPrefixOf p then getL P (p.drop a.data.toList.length)else none:=by
 unfold jci
 by_cases h0:a.size=0
 ·rw[if_pos h0,jfQ h0];simp
 rw[if_neg h0];cases hp:a.data.toList.isPrefixOf p with
 | true =>
  obtain⟨r,rfl⟩:=jcl.1 hp
  rw[if_pos rfl,fV];cases P with
  | nil=>rfl
  | no=>rfl
  | leaf q v=>simp only[getL,jlC,gS]
  | ext q n =>
   simp only[getL,jlC];have e:(a.data.toList++q.data.toList).isPrefixOf (a.data.toList++r)=q.data.toList.isPrefixOf r:=by
    rw[jC,jcl,jcl]
    exact⟨fun ⟨s,e⟩=>⟨s,by rw[cD]at e;exact gY e⟩,fun ⟨s,e⟩=>⟨s,by rw[e,cD]⟩⟩
   rw[e,bC, <-List.drop_drop,fV]
  | br v ks =>
   show (if a.data.toList.isPrefixOf (a.data.toList++r)=true then getL (.br v ks) ((a.data.toList++r).drop _)else none)=_;rw[hp,if_pos rfl,fV]
 | false =>
  have o:=jmy hp;rw[if_neg ff];cases P with
  | nil=>rfl
  | no=>rfl
  | leaf q v =>
   simp only[getL,jlC];rw[if_neg (fun e=>o _ e.symm)]
  | ext q n =>
   simp only[getL,jlC];rw[if_neg];intro e
   obtain⟨s,e⟩:=jcl.1 e
   rw[cD]at e;exact o _ e
  | br v ks =>
   show (if a.data.toList.isPrefixOf p=true then _ else none)=_;rw[hp];rfl
theorem jh1(v:vB)(ks:Nat->PA)(i:Nat)(P:PA)(x:vU)(t:vN):getL (.br v (setK ks i P)) (x :: t)=if x.toNat=i then getL P t else getL (.br v ks) (x :: t):=by
 show getL (setK ks i P x.toNat) t=if x.toNat=i then _ else getL (ks x.toNat) t
 unfold setK
 by_cases h:x.toNat=i
 ·rw[if_pos h,if_pos h]
 ·rw[if_neg h,if_neg h]
theorem jnK(v:vB)(ks:Nat->PA)(p u:vB)(hu:u.size≠0)(hk:∀ x t,p.data.toList=x :: t->(ks x.toNat).isNil=true)(q:vN) :
  getL (addK (.br v ks) p u) q=if q=p.data.toList then some u else getL (.br v ks) q:=by
 rw[jcS]
 by_cases h0:p.size=0
 ·rw[if_pos h0,jfQ h0]
  cases q with
  | nil=>simp[getL,hu]
  | cons x t=>rfl
 ·rw[if_neg h0]
  obtain⟨x,t,o⟩:=jcp h0
  obtain⟨A,E⟩:=jbL o
  have z:=jbE (hk x t o);rw[A,o];cases q with
  | nil=>simp[getL]
  | cons y s =>
   rw[jh1]
   by_cases hy:y=x
   ·subst hy
    rw[if_pos rfl];simp only[getL,E,z,List.cons.injEq,true_and]
    by_cases e:t=s
    ·rw[if_pos e,if_pos e.symm]
    ·rw[if_neg e,if_neg (fun h=>e h.symm)]
   ·rw[if_neg (jdc hy),if_neg (fun e=>hy (List.cons.inj e).1)]
theorem jcN(a b:vN):∃ a' b',a=a.take (ja0 a b)++a'/\b=a.take (ja0 a b)++b'/\a'=a.drop (ja0 a b)/\b'=b.drop (ja0 a b)/\(∀ x s y t,a'=x :: s->b'=y :: t->x≠y):=by
 obtain⟨o,E,H⟩:=jbg a b
 refine⟨_,_,(cX _ _).symm,?_,rfl,rfl,?_⟩
 ·rw[o,cX]
 ·intro x s y t z A e
  have h:=jik a b;rw[z,A,e]at h;simp[ja0]at h
theorem jnB{a b:vN}(h:ja0 a b=a.length):b=a++b.drop a.length:=by
 obtain⟨e,o,z⟩:=jbg a b
 rw[h,cJ]at e
 have:=(cX a.length b).symm
 rw[<-e]at this;exact this
theorem jud(p:vB)(k:Nat):(p.extract 0 k).data.toList=p.data.toList.take k:=by
 simp[dA]
theorem jnL:∀ (P:PA),(CanP P\/P=.no\/P=.nil)->∀ (p u:vB),u.size≠0->∀ q,getL (putP P p u) q=if q=p.data.toList then some u else getL P q
 | .nil,_,p,u,_,q=>by
  show (if p.data.toList=q then some u else none)=if q=p.data.toList then some u else none
  by_cases e:q=p.data.toList
  ·rw[if_pos e,if_pos e.symm]
  ·rw[if_neg e,if_neg (fun h=>e h.symm)]
 | .no,_,p,u,_,q=>by
  show (if p.data.toList=q then some u else none)=if q=p.data.toList then some u else none
  by_cases e:q=p.data.toList
  ·rw[if_pos e,if_pos e.symm]
  ·rw[if_neg e,if_neg (fun h=>e h.symm)]
 | .leaf a v,h,p,u,hu,q=>by
  have hc:v.size≠0:=by
   rcases h with h | h | h
   ·exact h.2
   ·cases h
   ·cases h
  unfold putP
  by_cases hpa:p=a
  ·rw[if_pos hpa]
   subst hpa;simp only[getL]
   by_cases e:q=p.data.toList
   ·rw[if_pos e,if_pos e.symm]
   ·rw[if_neg e,if_neg (fun h=>e h.symm),if_neg (fun h=>e h.symm)]
  rw[if_neg hpa,jfG,jud]
  obtain⟨X,H,J,hb,A,o,a2⟩:=jcN a.data.toList p.data.toList
  obtain⟨O,Z,a3⟩:=jbg a.data.toList p.data.toList
  obtain⟨n,hn⟩:=vE (jal a p)
  have a6:ja0 a.data.toList p.data.toList=n:=hn.symm;rw[a6]at J hb A o O Z a3;rw[<-hn, <-O]
  obtain⟨c,a0⟩:=vE (a.data.toList.take n)
  rw[<-a0]at J hb ⊢;have b1:c.length=n:=by rw[a0,cQ];omega
  have b2:¬(X=[]/\H=[]):=by
   rintro⟨rfl,rfl⟩
   exact hpa (jbC (by rw[hb,J]))
  have Q:(a.extract n a.size).data.toList=X:=by rw[jdS,A]
  have E:(p.extract n p.size).data.toList=H:=by rw[jdS,o]
  obtain⟨x1,e1⟩:∃ x,x=a.extract n a.size:=⟨_,rfl⟩
  obtain⟨x2,e2⟩:∃ x,x=p.extract n p.size:=⟨_,rfl⟩
  rw[<-e1]at Q ⊢;rw[<-e2]at E ⊢;have a4:∀ r,getL (addK (addK (.br ⟨#[]⟩ fun _=>.nil) x1 v) x2 u) r=if r=H then some u else if r=X then some v else none:=by
   intro r;have a5:∃ v1 a1,addK (.br ⟨#[]⟩ fun _=>.nil) x1 v=.br v1 a1/\∀ x t,x2.data.toList=x :: t->(a1 x.toNat).isNil=true:=by
    rw[jcS]
    by_cases h0:x1.size=0
    ·rw[if_pos h0];exact⟨_,_,rfl,fun _ _ _=>rfl⟩
    ·rw[if_neg h0]
     refine⟨_,_,rfl,fun y t hy=>?_⟩
     obtain⟨x,s,hx⟩:=jcp h0
     unfold setK;rw[(jbL hx).1,if_neg (jdc (Ne.symm (a2 x s y t (by rw[<-Q,hx]) (by rw[<-E,hy]))))];rfl
   obtain⟨v1,a1,h1,h2⟩:=a5
   rw[h1,jnK v1 a1 x2 u hu h2, <-h1,jnK _ _ x1 v hc (fun _ _ _=>rfl),Q,E]
   congr 1
   congr 1
   cases r <;> rfl
  cases hp:c.isPrefixOf q with
  | false =>
   have K:=jmy hp;rw[if_neg ff,if_neg (fun e=>K H (e.trans hb))];show none=if a.data.toList=q then some v else none
   rw[if_neg (fun e=>K X (e.symm.trans J))]
  | true =>
   obtain⟨r,rfl⟩:=jcl.1 hp
   rw[if_pos rfl,fV,a4];show _=if c++r=p.data.toList then some u else if a.data.toList=c++r then some v else none
   rw[hb,J];simp only[gS]
   congr 1
   by_cases e:r=X
   ·rw[if_pos e,if_pos e.symm]
   ·rw[if_neg e,if_neg (fun h=>e h.symm)]
 | .ext a n,h,p,u,hu,q=>by
  have hc:CanP (.ext a n):=by
   rcases h with h | h | h
   ·exact h
   ·cases h
   ·cases h
  have ih:=jnL n (.inl hc.2.2.2);unfold putP
  by_cases hf:jal a p=a.size
  ·rw[if_pos hf,jfG]
   have hb:=jnB (a:=a.data.toList) (b:=p.data.toList) (by rw[jaT];exact hf)
   obtain⟨H,o⟩:∃ H,H=p.data.toList.drop a.data.toList.length:=⟨_,rfl⟩
   rw[<-o]at hb;have hx:(p.extract (jal a p) p.size).data.toList=H:=by rw[jdS,hf,o,jaT]
   show _=if q=p.data.toList then some u else if a.data.toList.isPrefixOf q then getL n (q.drop a.data.toList.length)else none
   cases hp:a.data.toList.isPrefixOf q with
   | false =>
    rw[if_neg ff,if_neg ff,if_neg (fun e=>jmy hp H (e.trans hb))]
   | true =>
    obtain⟨r,rfl⟩:=jcl.1 hp
    rw[if_pos rfl,if_pos rfl,fV,ih _ u hu,hx,hb];simp only[gS]
  ·rw[if_neg hf,jfG,jud]
   obtain⟨X,H,J,hb,A,o,a2⟩:=jcN a.data.toList p.data.toList
   obtain⟨O,Z,a3⟩:=jbg a.data.toList p.data.toList
   obtain⟨m,hm⟩:=vE (jal a p)
   have a7:ja0 a.data.toList p.data.toList=m:=hm.symm;rw[a7]at J hb A o O Z a3;rw[<-hm]at hf ⊢;rw[<-O]
   obtain⟨c,a0⟩:=vE (a.data.toList.take m)
   rw[<-a0]at J hb ⊢;have Q:(a.extract m a.size).data.toList=X:=by rw[jdS,A]
   have E:(p.extract m p.size).data.toList=H:=by rw[jdS,o]
   have a8:X.length=a.size - m:=by rw[A,gG,jaT]
   rw[jaT]at Z;cases X with
   | nil=>simp at a8;omega
   | cons x s =>
    have a9:(a.extract (m+1) a.size).data.toList=s:=by
     rw[jdS, <-List.drop_drop, <-A];rfl
    rw[(jbL Q).1]
    obtain⟨x2,e2⟩:∃ x,x=p.extract m p.size:=⟨_,rfl⟩
    rw[<-e2]at E ⊢;have a4:∀ r,getL (addK (.br ⟨#[]⟩ (setK (fun _=>.nil) x.toNat (jci (a.extract (m+1) a.size) n))) x2 u) r=if r=H then some u else if (x :: s).isPrefixOf r then getL n (r.drop (s.length+1))else none:=by
     intro r;rw[jnK _ _ _ u hu,E]
     ·congr 1
      cases r with
      | nil=>rfl
      | cons y t =>
       rw[jh1,jfG,a9]
       by_cases e:y=x
       ·subst e;simp
       ·rw[if_neg (jdc e),if_neg]
        ·rfl
        ·intro K
         obtain⟨r,K⟩:=jcl.1 K
         exact e (List.cons.inj K).1
     ·intro y t hy
      unfold setK;rw[if_neg (jdc (Ne.symm (a2 x s y t rfl (by rw[<-E,hy]))))];rfl
    have b0:a.data.toList.length=c.length+(s.length+1):=by
     have K:=congrArg List.length J;rw[bC]at K;exact K
    show _=if q=p.data.toList then some u else if a.data.toList.isPrefixOf q then getL n (q.drop a.data.toList.length)else none
    cases hp:c.isPrefixOf q with
    | false =>
     have K:=jmy hp;rw[if_neg ff,if_neg (fun e=>K H (e.trans hb)),if_neg];intro e
     obtain⟨r,e⟩:=jcl.1 e
     rw[J,cD]at e;exact K _ e
    | true =>
     obtain⟨r,rfl⟩:=jcl.1 hp
     have e2:(c++r).drop (c.length+(s.length+1))=r.drop (s.length+1):=by rw[<-List.drop_drop,fV]
     rw[if_pos rfl,fV,a4,b0,e2];have e1:a.data.toList.isPrefixOf (c++r)=(x :: s).isPrefixOf r:=by
      rw[jC,jcl,jcl];constructor
      ·rintro⟨z,e⟩
       rw[J,cD]at e
       exact⟨z,gY e⟩
      ·rintro⟨z,rfl⟩
       exact⟨z,by rw[J,cD]⟩
     rw[e1,hb];simp only[gS]
 | .br v ks,h,p,u,hu,q=>by
  have hc:CanP (.br v ks):=by
   rcases h with h | h | h
   ·exact h
   ·cases h
   ·cases h
  unfold putP
  by_cases h0:p.size=0
  ·rw[if_pos h0,jfQ h0]
   cases q with
   | nil=>simp[getL,hu]
   | cons x t=>rfl
  ·rw[if_neg h0]
   obtain⟨x,t,hx⟩:=jcp h0
   obtain⟨h1,h2⟩:=jbL hx
   have ih:=jnL (ks (jat p)) (by
    cases hn:(ks (jat p)).isNil with
    | true=>exact .inr (.inr (jbE hn))
    | false=>exact .inl (hc.2.1 _ hn)) (jbB p) u hu
   rw[h1]at ih ⊢;rw[hx];cases q with
   | nil=>simp[getL]
   | cons y s =>
    rw[jh1]
    by_cases hy:y=x
    ·subst hy
     rw[if_pos rfl,ih,h2];simp only[List.cons.injEq,true_and];rfl
    ·rw[if_neg (jdc hy),if_neg (fun e=>hy (List.cons.inj e).1)]
theorem jcr{s:vB}:jaB s=true↔∀ x∈s.data.toList,x.toNat < 16:=by
 unfold jaB;rw[fB];constructor
 ·intro h x e
  have o:=h x e;simp only[decide_eq_true_eq,dY]at o
  have:(15:vU).toNat=15:=rfl
  omega
 ·intro h x e
  have o:=h x e;simp only[decide_eq_true_eq,dY]
  have:(15:vU).toNat=15:=rfl
  omega
theorem jm6{a b:vB}(h:jaB a=true)(k:jaB b=true):jaB (a++b)=true:=by
 rw[jcr]at *;intro x o;rw[jlC]at o;rcases bT.1 o with e | e
 ·exact h x e
 ·exact k x e
theorem jhD{a:vB}(h:jaB a=true)(k:Nat):jaB (a.extract 0 k)=true:=by
 rw[jcr]at *;intro x e;rw[jud]at e;exact h x (iJ e)
theorem jcx{a:vB}(h:jaB a=true):jaB (jbB a)=true:=jbv h 1 _
theorem jdV{p:vB}(h:jaB p=true)(h0:p.size≠0):jat p < 16:=by
 obtain⟨x,t,e⟩:=jcp h0
 rw[(jbL e).1];exact jcr.1 h x (by rw[e];exact bH)
theorem jc5(a b:vB):(a++b).size=a.size+b.size:=by
 rw[<-jaT,jlC,bC,jaT,jaT]
theorem jfy{a:vB}{P:PA}(ha:jaB a=true)(h:CanP P):CanP (jci a P):=by
 unfold jci
 by_cases h0:a.size=0
 ·rw[if_pos h0];exact h
 rw[if_neg h0];cases P with
 | nil=>exact h.elim
 | no=>exact h.elim
 | leaf q v=>exact⟨jm6 ha h.1,h.2⟩
 | ext q n=>exact⟨by rw[jc5];omega,jm6 ha h.2.1,h.2.2⟩
 | br v ks=>exact⟨h0,ha,rfl,h⟩
theorem jco(ks:Nat->PA)(i:Nat)(P:PA):setK ks i P i=P:=if_pos rfl
theorem jeX(ks:Nat->PA){i j:Nat}(P:PA)(h:j≠i):setK ks i P j=ks j:=if_neg h
def OneB(ks:Nat->PA):Prop:=(∀ i,(ks i).isNil=false->i < 16)/\(∀ i,(ks i).isNil=false->CanP (ks i))
theorem OneB.set{ks:Nat->PA}(h:OneB ks){i:Nat}{P:PA}(hi:i < 16)(hP:CanP P):OneB (setK ks i P):=by
 refine⟨fun j o=>?_,fun j o=>?_⟩
 ·by_cases e:j=i
  ·rw[e];exact hi
  ·rw[jeX _ _ e]at o;exact h.1 j o
 ·by_cases e:j=i
  ·rw[e,jco];exact hP
  ·rw[jeX _ _ e]at o ⊢;exact h.2 j o
theorem OneB.cut{ks:Nat->PA}(h:OneB ks)(i:Nat):OneB (setK ks i .nil):=by
 refine⟨fun j o=>?_,fun j o=>?_⟩
 ·by_cases e:j=i
  ·rw[e,jco]at o;cases o
  ·rw[jeX _ _ e]at o;exact h.1 j o
 ·by_cases e:j=i
  ·rw[e,jco]at o;cases o
  ·rw[jeX _ _ e]at o ⊢;exact h.2 j o
theorem jkQ:OneB (fun _=>.nil):=⟨fun _ h=>Bool.noConfusion h,fun _ h=>Bool.noConfusion h⟩
theorem TwoK.set{v:vB}{ks:Nat->PA}(h:TwoK v ks)(i:Nat){P:PA}(hP:P.isNil=false):TwoK v (setK ks i P):=by
 have o:∀ j,(ks j).isNil=false->(setK ks i P j).isNil=false:=by
  intro j z
  by_cases e:j=i
  ·rw[e,jco];exact hP
  ·rw[jeX _ _ e];exact z
 rcases h with⟨a,b,h1,h2,h3⟩ |⟨h1,a,h2⟩
 ·exact .inl ⟨a,b,h1,o a h2,o b h3⟩
 ·exact .inr ⟨h1,a,o a h2⟩
theorem jnf{ks:Nat->PA}(v p u:vB)(h:OneB ks)(hp:jaB p=true)(hu:u.size≠0)(h2:(v.size≠0/\p.size≠0)\/∃ i,(ks i).isNil=false/\(p.size=0\/jat p≠i)):CanP (addK (.br v ks) p u):=by
 rw[jcS]
 by_cases h0:p.size=0
 ·rw[if_pos h0]
  rcases h2 with⟨_,e⟩ |⟨i,hi,_⟩
  ·exact (e h0).elim
  ·exact⟨h.1,h.2,.inr ⟨hu,i,hi⟩⟩
 ·rw[if_neg h0]
  have o:=h.set (jdV hp h0) (P:=.leaf (jbB p) u) ⟨jcx hp,hu⟩
  refine⟨o.1,o.2,?_⟩
  rcases h2 with⟨e,_⟩ |⟨i,hi,e | e⟩
  ·exact .inr ⟨e,jat p,by rw[jco];rfl⟩
  ·exact (h0 e).elim
  ·exact .inl ⟨jat p,i,e,by rw[jco];rfl,by rw[jeX _ _ (Ne.symm e)];exact hi⟩
theorem jnw:∀ (P:PA),(CanP P\/P=.no\/P=.nil)->∀ (p u:vB),jaB p=true->u.size≠0->CanP (putP P p u)
 | .nil,_,p,u,hp,hu=>⟨hp,hu⟩
 | .no,_,p,u,hp,hu=>⟨hp,hu⟩
 | .leaf a v,h,p,u,hp,hu=>by
  have o:jaB a=true/\v.size≠0:=by
   rcases h with h | h | h
   ·exact h
   ·cases h
   ·cases h
  unfold putP
  by_cases hpa:p=a
  ·rw[if_pos hpa];exact⟨hp,hu⟩
  rw[if_neg hpa];refine jfy (jhD hp _) ?_
  obtain⟨a',b',ha,hb,Q,X,Z⟩:=jcN a.data.toList p.data.toList
  have H:(a.extract (jal a p) a.size).data.toList=a':=by rw[jdS,Q];rfl
  have z:(p.extract (jal a p) p.size).data.toList=b':=by rw[jdS,X];rfl
  have K:=jbv o.1 (jal a p) a.size;have A:=jbv hp (jal a p) p.size;have a0:¬(a'=[]/\b'=[]):=by
   rintro⟨rfl,rfl⟩
   exact hpa (jbC (hb.trans ha.symm))
  obtain⟨x1,e1⟩:∃ x,x=a.extract (jal a p) a.size:=⟨_,rfl⟩
  obtain⟨x2,e2⟩:∃ x,x=p.extract (jal a p) p.size:=⟨_,rfl⟩
  rw[<-e1]at H K ⊢;rw[<-e2]at z A ⊢;rw[jcS]
  by_cases E:x1.size=0
  ·rw[if_pos E]
   refine jnf v x2 u jkQ A hu (.inl ⟨o.2,fun e=>a0 ⟨?_,?_⟩⟩)
   ·rw[<-H];exact jfQ E
   ·rw[<-z];exact jfQ e
  ·rw[if_neg E]
   refine jnf _ x2 u (jkQ.set (jdV K E) ⟨jcx K,o.2⟩) A hu (.inr ⟨jat x1,by rw[jco];rfl,?_⟩)
   by_cases h9:x2.size=0
   ·exact .inl h9
   ·obtain⟨x,s,hx⟩:=jcp E
    obtain⟨y,t,hy⟩:=jcp h9
    rw[(jbL hx).1,(jbL hy).1];exact .inr (jdc (Ne.symm (Z x s y t (by rw[<-H,hx]) (by rw[<-z,hy]))))
 | .ext a n,h,p,u,hp,hu=>by
  have o:CanP (.ext a n):=by
   rcases h with h | h | h
   ·exact h
   ·cases h
   ·cases h
  unfold putP
  by_cases hf:jal a p=a.size
  ·rw[if_pos hf]
   exact jfy o.2.1 (jnw n (.inl o.2.2.2) _ u (jbv hp _ _) hu)
  ·rw[if_neg hf]
   refine jfy (jhD hp _) ?_
   obtain⟨a',b',ha,hb,Q,X,Z⟩:=jcN a.data.toList p.data.toList
   have H:(a.extract (jal a p) a.size).data.toList=a':=by rw[jdS,Q];rfl
   have z:(p.extract (jal a p) p.size).data.toList=b':=by rw[jdS,X];rfl
   have K:=jbv o.2.1 (jal a p) a.size;have A:=jbv hp (jal a p) p.size;have E:(a.extract (jal a p) a.size).size≠0:=by
    have h3:=(jbg a.data.toList p.data.toList).2.1;have h4:jal a p<=a.size:=by rw[<-jaT];exact h3
    rw[ja3];omega
   obtain⟨x2,e2⟩:∃ x,x=p.extract (jal a p) p.size:=⟨_,rfl⟩
   rw[<-e2]at z A ⊢;have hj:=jfy (jbv o.2.1 (jal a p+1) a.size) o.2.2.2;have hO:=jkQ.set (jdV K E) hj
   obtain⟨J,hJ⟩:=vE (jci (a.extract (jal a p+1) a.size) n)
   rw[<-hJ]at hO hj ⊢;have hz:=jco (fun _=>PA.nil) (jat (a.extract (jal a p) a.size)) J;have O:=jnv hj;rw[<-hz]at O
   obtain⟨KS,a1⟩:=vE (setK (fun _=>PA.nil) (jat (a.extract (jal a p) a.size)) J)
   rw[<-a1]at hO O ⊢;refine jnf ⟨#[]⟩ x2 u hO A hu (.inr ⟨jat (a.extract (jal a p) a.size),O,?_⟩)
   by_cases h9:x2.size=0
   ·exact .inl h9
   ·obtain⟨x,s,hx⟩:=jcp E
    obtain⟨y,t,hy⟩:=jcp h9
    rw[(jbL hx).1,(jbL hy).1];exact .inr (jdc (Ne.symm (Z x s y t (by rw[<-H,hx]) (by rw[<-z,hy]))))
 | .br v ks,h,p,u,hp,hu=>by
  have o:CanP (.br v ks):=by
   rcases h with h | h | h
   ·exact h
   ·cases h
   ·cases h
  unfold putP
  by_cases E:p.size=0
  ·rw[if_pos E]
   refine⟨o.1,o.2.1,?_⟩
   rcases o.2.2 with h1 |⟨_,h2⟩
   ·exact .inl h1
   ·exact .inr ⟨hu,h2⟩
  ·rw[if_neg E]
   have hk:=jnw (ks (jat p)) (by
    cases hn:(ks (jat p)).isNil with
    | true=>exact .inr (.inr (jbE hn))
    | false=>exact .inl (o.2.1 _ hn)) (jbB p) u (jcx hp) hu
   have hs:=OneB.set ⟨o.1,o.2.1⟩ (jdV hp E) hk
   exact⟨hs.1,hs.2,o.2.2.set _ (jnv hk)⟩
theorem jsw{ks:Nat->PA}{i:Nat}(h:OneB ks):i∈idxK ks↔(ks i).isNil=false:=by
 unfold idxK;rw[cM,dW,iE]
 exact⟨fun e=>e.2,fun e=>⟨h.1 i e,e⟩⟩
theorem jsx(ks:Nat->PA):(idxK ks).Nodup:=List.Nodup.sublist jK List.nodup_range
theorem jmf{v:vB}{ks:Nat->PA}(h:OneB ks):jdu v ks=.no\/CanP (jdu v ks):=by
 have z:=fun i=>jsw (i:=i) h;have E:=jsx ks;unfold jdu;cases e:idxK ks with
 | nil =>
  show (if v.size=0 then PA.no else .leaf ⟨#[]⟩ v)=.no\/CanP (if v.size=0 then PA.no else .leaf ⟨#[]⟩ v)
  by_cases h0:v.size=0
  ·rw[if_pos h0];exact .inl rfl
  ·rw[if_neg h0];exact .inr ⟨rfl,h0⟩
 | cons i r =>
  rw[e]at z E;have o:=(z i).1 bH;cases r with
  | nil =>
   show (if v.size=0 then jci ⟨#[UInt8.ofNat i]⟩ (ks i)else .br v ks)=.no\/CanP (if v.size=0 then jci ⟨#[UInt8.ofNat i]⟩ (ks i)else .br v ks);right
   by_cases h0:v.size=0
   ·rw[if_pos h0]
    have H:=h.1 i o;refine jfy ?_ (h.2 i o);rw[jcr];intro x A;have A:x=UInt8.ofNat i:=by simpa using A
    rw[A,fF];omega
   ·rw[if_neg h0]
    exact⟨h.1,h.2,.inr ⟨h0,i,o⟩⟩
  | cons j r =>
   right
   refine⟨h.1,h.2,.inl ⟨i,j,?_,o,(z j).1 (by simp)⟩⟩
   rintro rfl;simp at E
theorem jl4{v:vB}{ks:Nat->PA}(h:OneB ks)(q:vN):getL (jdu v ks) q=getL (.br v ks) q:=by
 have o:=fun i=>jsw (i:=i) h;unfold jdu;cases e:idxK ks with
 | nil =>
  rw[e]at o;have K:∀ i,ks i=.nil:=fun i=>jbE (by
   cases hb:(ks i).isNil with
   | true=>rfl
   | false=>exact ((List.mem_nil_iff i).1 ((o i).2 hb)).elim)
  show getL (if v.size=0 then PA.no else .leaf ⟨#[]⟩ v) q=_;cases q with
  | nil =>
   show _=if v.size=0 then none else some v
   by_cases h0:v.size=0
   ·rw[if_pos h0,if_pos h0];rfl
   ·rw[if_neg h0,if_neg h0];rfl
  | cons x t =>
   show _=getL (ks x.toNat) t;rw[K]
   by_cases h0:v.size=0
   ·rw[if_pos h0];rfl
   ·rw[if_neg h0];rfl
 | cons i r =>
  cases r with
  | nil =>
   show getL (if v.size=0 then jci ⟨#[UInt8.ofNat i]⟩ (ks i)else .br v ks) q=_
   by_cases h0:v.size=0
   ·rw[if_pos h0,jfG]
    rw[e]at o;have J:=h.1 i ((o i).1 bH);have z:(UInt8.ofNat i).toNat=i:=by rw[fF];omega
    cases q with
    | nil=>show (if false=true then _ else none)=if v.size=0 then none else some v;rw[if_pos h0,if_neg ff]
    | cons x t =>
     show (if ([UInt8.ofNat i].isPrefixOf (x :: t))=true then getL (ks i) ((x :: t).drop 1)else none)=getL (ks x.toNat) t
     by_cases hx:x=UInt8.ofNat i
     ·subst hx;simp[z]
     ·have A:x.toNat≠i:=fun e=>hx (dP.1 (by rw[z];exact e))
      have E:ks x.toNat=.nil:=jbE (by
       cases hb:(ks x.toNat).isNil with
       | true=>rfl
       | false=>exact (A (by simpa using (o _).2 hb)).elim)
      rw[E,if_neg]
      ·rfl
      ·intro H
       obtain⟨r,H⟩:=jcl.1 H
       exact hx (List.cons.inj H).1
   ·rw[if_neg h0]
  | cons j r=>rfl
theorem jvp(P:PA)(q:vN):getL (unNo P) q=getL P q:=by
 unfold unNo;cases h:P.isNo with
 | true=>rw[if_pos rfl,jsA h];rfl
 | false=>rw[if_neg ff]
theorem jnE:∀ (P:PA),CanP P->∀ (p:vB),jaB p=true->(jbU P p=.no\/CanP (jbU P p))/\∀ q,getL (jbU P p) q=if q=p.data.toList then none else getL P q
 | .nil,h,_,_=>h.elim
 | .no,h,_,_=>h.elim
 | .leaf a v,h,p,hp=>by
  unfold jbU
  by_cases e:p=a
  ·rw[if_pos e]
   refine⟨.inl rfl,fun q=>?_⟩
   subst e;show none=if q=p.data.toList then none else if p.data.toList=q then some v else none
   by_cases h9:q=p.data.toList
   ·rw[if_pos h9]
   ·rw[if_neg h9,if_neg (fun e=>h9 e.symm)]
  ·rw[if_neg e]
   refine⟨.inr h,fun q=>?_⟩
   by_cases h9:q=p.data.toList
   ·rw[if_pos h9]
    show (if a.data.toList=q then some v else none)=none;rw[if_neg (fun Q=>e (jbC (h9.symm.trans Q.symm)))]
   ·rw[if_neg h9]
 | .ext a n,h,p,hp=>by
  unfold jbU
  obtain⟨o,J⟩:=jnE n h.2.2.2 (p.extract a.size p.size) (jbv hp _ _)
  cases hb:preB a p with
  | false =>
   rw[if_neg ff]
   refine⟨.inr h,fun q=>?_⟩
   by_cases h9:q=p.data.toList
   ·rw[if_pos h9,h9]
    show (if a.data.toList.isPrefixOf p.data.toList=true then _ else none)=none;unfold preB at hb;rw[hb];rfl
   ·rw[if_neg h9]
  | true =>
   rw[if_pos rfl]
   obtain⟨K,z⟩:=jcl.1 hb
   have A:(p.extract a.size p.size).data.toList=K:=by rw[jdS,z, <-jaT,fV]
   refine⟨?_,fun q=>?_⟩
   ·rcases o with o | o
    ·rw[o]
     left;unfold jci
     by_cases h0:a.size=0
     ·rw[if_pos h0]
     ·rw[if_neg h0]
    ·exact .inr (jfy h.2.1 o)
   ·rw[jfG]
    show _=if q=p.data.toList then none else if a.data.toList.isPrefixOf q then getL n (q.drop a.data.toList.length)else none
    cases hq:a.data.toList.isPrefixOf q with
    | false =>
     rw[if_neg ff,if_neg ff,if_neg (fun e=>jmy hq K (e.trans z))]
    | true =>
     obtain⟨r,rfl⟩:=jcl.1 hq
     rw[if_pos rfl,if_pos rfl,fV,J,A,z];simp only[gS]
 | .br v ks,h,p,hp=>by
  unfold jbU;have E:OneB ks:=⟨h.1,h.2.1⟩
  by_cases h0:p.size=0
  ·rw[if_pos h0]
   refine⟨jmf E,fun q=>?_⟩
   rw[jl4 E,jfQ h0];cases q with
   | nil=>rfl
   | cons x t=>rfl
  ·rw[if_neg h0]
   obtain⟨x,t,A⟩:=jcp h0
   obtain⟨H,X⟩:=jbL A
   cases hn:(ks (jat p)).isNil with
   | true =>
    rw[if_pos rfl]
    refine⟨.inr h,fun q=>?_⟩
    by_cases h9:q=p.data.toList
    ·rw[if_pos h9,h9,A]
     show getL (ks x.toNat) t=none;rw[<-H,jbE hn];rfl
    ·rw[if_neg h9]
   | false =>
    rw[if_neg ff]
    obtain⟨o,J⟩:=jnE (ks (jat p)) (h.2.1 _ hn) (jbB p) (jcx hp)
    have O:OneB (setK ks (jat p) (unNo (jbU (ks (jat p)) (jbB p)))):=by
     unfold unNo;rcases o with o | o
     ·rw[o];exact E.cut _
     ·rw[jzL o,if_neg ff]
      exact E.set (jdV hp h0) o
    refine⟨jmf O,fun q=>?_⟩
    rw[jl4 O,A];cases q with
    | nil=>rfl
    | cons y s =>
     rw[jh1,H]
     by_cases hy:y=x
     ·subst hy
      rw[if_pos rfl,jvp, <-H,J,X];simp only[List.cons.injEq,true_and];show _=if s=t then none else getL (ks y.toNat) s
      rw[H]
     ·rw[if_neg (jdc hy),if_neg (fun e=>hy (List.cons.inj e).1)]
theorem jgM{i:Nat}(h:i < 16):(UInt8.ofNat i).toNat=i:=by rw[fF];omega
theorem jeK:∀ (P:PA),CanP P->∃ p v,getL P p=some v
 | .nil,h=>h.elim
 | .no,h=>h.elim
 | .leaf a v,_=>⟨a.data.toList,v,if_pos rfl⟩
 | .ext a n,h=>by
  obtain⟨p,v,e⟩:=jeK n h.2.2.2
  refine⟨a.data.toList++p,v,?_⟩
  show (if a.data.toList.isPrefixOf (a.data.toList++p)=true then getL n ((a.data.toList++p).drop a.data.toList.length)else none)=some v;rw[if_pos (jcl.2 ⟨p,rfl⟩),fV,e]
 | .br v ks,h=>by
  have o:∃ i,(ks i).isNil=false:=by
   rcases h.2.2 with⟨i,_,_,e,_⟩ |⟨_,i,e⟩
   ·exact⟨i,e⟩
   ·exact⟨i,e⟩
  obtain⟨i,o⟩:=o
  obtain⟨p,u,e⟩:=jeK (ks i) (h.2.1 i o)
  refine⟨UInt8.ofNat i :: p,u,?_⟩
  show getL (ks (UInt8.ofNat i).toNat) p=some u;rw[jgM (h.1 i o),e]
theorem jij{v:vB}{ks:Nat->PA}(h:CanP (.br v ks)):∃ p q a b,p.head?≠q.head?/\getL (.br v ks) p=some a/\getL (.br v ks) q=some b:=by
 have o:∀ i,(ks i).isNil=false->∃ t u,getL (.br v ks) (UInt8.ofNat i :: t)=some u:=by
  intro i z
  obtain⟨p,u,e⟩:=jeK (ks i) (h.2.1 i z)
  refine⟨p,u,?_⟩
  show getL (ks (UInt8.ofNat i).toNat) p=some u;rw[jgM (h.1 i z),e]
 rcases h.2.2 with⟨i,j,hij,z,hj⟩ |⟨hv,i,z⟩
 ·obtain⟨t,a,A⟩:=o i z
  obtain⟨s,b,E⟩:=o j hj
  refine⟨_,_,a,b,?_,A,E⟩
  intro e;have e:UInt8.ofNat i=UInt8.ofNat j:=by simpa using e
  have:=congrArg UInt8.toNat e
  rw[jgM (h.1 i z),jgM (h.1 j hj)]at this;exact hij this
 ·obtain⟨t,a,A⟩:=o i z
  refine⟨[],_,v,a,?_,?_,A⟩
  ·simp
  ·show (if v.size=0 then none else some v)=some v
   rw[if_neg hv]
theorem jiY:∀ (a r p q:vN),p.head?≠q.head?->r <+: a++p->r <+: a++q->r <+: a
 | [],r,p,q,h,o,z=>by
  cases r with
  | nil=>exact List.nil_prefix
  | cons x s =>
   obtain⟨H,A⟩:=o
   obtain⟨J,E⟩:=z
   rw[cP]at A E;exfalso;apply h;rw[<-A, <-E];rfl
 | y :: a,r,p,q,h,o,z=>by
  cases r with
  | nil=>exact List.nil_prefix
  | cons x s =>
   rw[cZ]at o z
   obtain⟨e,o⟩:=List.cons_prefix_cons.1 o
   obtain⟨_,z⟩:=List.cons_prefix_cons.1 z
   rw[e];exact List.cons_prefix_cons.2 ⟨rfl,jiY a s p q h o z⟩
theorem jiC(a:vB)(n:PA)(t:vN):getL (.ext a n) (a.data.toList++t)=getL n t:=by
 show (if a.data.toList.isPrefixOf (a.data.toList++t)=true then getL n ((a.data.toList++t).drop a.data.toList.length)else none)=getL n t;rw[if_pos (jcl.2 ⟨t,rfl⟩),fV]
theorem jeM{a:vB}{n:PA}{p:vN}{v:vB}(h:getL (.ext a n) p=some v):a.data.toList <+: p:=by
 have h:(if a.data.toList.isPrefixOf p=true then getL n (p.drop a.data.toList.length)else none)=some v:=h
 by_cases e:a.data.toList.isPrefixOf p=true
 ·exact List.isPrefixOf_iff_prefix.1 e
 ·rw[if_neg e]at h;cases h
theorem jnu{a:vB}{n:PA}(h:CanP (.ext a n)):∃ p q x y,p.head?≠q.head?/\getL (.ext a n) (a.data.toList++p)=some x/\getL (.ext a n) (a.data.toList++q)=some y:=by
 cases n with
 | br v ks =>
  obtain⟨p,q,x,y,e,o,z⟩:=jij h.2.2.2
  exact⟨p,q,x,y,e,by rw[jiC,o],by rw[jiC,z]⟩
 | nil=>cases h.2.2.1
 | no=>cases h.2.2.1
 | leaf _ _=>cases h.2.2.1
 | ext _ _=>cases h.2.2.1
theorem jc8{a v:vB}{p:vN}{u:vB}(h:getL (.leaf a v) p=some u):a.data.toList=p/\v=u:=by
 have h:(if a.data.toList=p then some v else none)=some u:=h
 by_cases e:a.data.toList=p
 ·rw[if_pos e]at h;exact⟨e,bS h⟩
 ·rw[if_neg e]at h;cases h
theorem jkG{p q:vN}(h:p.head?≠q.head?):p≠q:=fun e=>h (by rw[e])
theorem uniq:∀ (P Q:PA),CanP P->CanP Q->(∀ p,getL P p=getL Q p)->P=Q
 | .nil,_,h,_,_=>h.elim
 | .no,_,h,_,_=>h.elim
 | .leaf a v,Q,h,k,e=>by
  cases Q with
  | nil=>exact k.elim
  | no=>exact k.elim
  | leaf b u =>
   have A:getL (.leaf b u) a.data.toList=some v:=by rw[<-e];exact if_pos rfl
   obtain⟨o,E⟩:=jc8 A
   rw[jbC o,E]
  | ext b n =>
   obtain⟨p,q,x,y,A,o,E⟩:=jnu k
   rw[<-e]at o E;exact absurd (gY ((jc8 o).1.symm.trans (jc8 E).1)) (jkG A)
  | br u ks =>
   obtain⟨p,q,x,y,A,o,E⟩:=jij k
   rw[<-e]at o E;exact absurd ((jc8 o).1.symm.trans (jc8 E).1) (jkG A)
 | .ext a n,Q,h,k,e=>by
  obtain⟨p,q,x,y,A,o,E⟩:=jnu h
  cases Q with
  | nil=>exact k.elim
  | no=>exact k.elim
  | leaf b u =>
   rw[e]at o E;exact absurd (gY ((jc8 o).1.symm.trans (jc8 E).1)) (jkG A)
  | ext b m =>
   have g2:=o;have g3:=E;rw[e]at g2 g3;have a1:=jiY _ _ p q A (jeM g2) (jeM g3)
   obtain⟨p',q',x',y',k1,K,O⟩:=jnu k
   have f2:=K;have f3:=O;rw[<-e]at f2 f3;have a0:=jiY _ _ p' q' k1 (jeM f2) (jeM f3);have X:a.data.toList=b.data.toList:=a0.eq_of_length (Nat.le_antisymm a0.length_le a1.length_le);have X:=jbC X;subst X;rw[uniq n m h.2.2.2 k.2.2.2 (fun t=>by rw[<-jiC a n t, <-jiC a m t,e])]
  | br u ks =>
   exfalso
   obtain⟨p',q',x',y',k1,K,O⟩:=jij k
   rw[<-e]at K O;have Z:=jiY [] _ p' q' k1 (by simpa using jeM K) (by simpa using jeM O);have Z:=List.prefix_nil.1 Z;apply h.1;rw[<-jaT,Z];rfl
 | .br v ks,Q,h,k,e=>by
  cases Q with
  | nil=>exact k.elim
  | no=>exact k.elim
  | leaf b u =>
   obtain⟨p,q,x,y,A,o,E⟩:=jij h
   rw[e]at o E;exact absurd ((jc8 o).1.symm.trans (jc8 E).1) (jkG A)
  | ext b m =>
   exfalso
   obtain⟨p',q',x',y',k1,K,O⟩:=jij h
   rw[e]at K O;have Z:=jiY [] _ p' q' k1 (by simpa using jeM K) (by simpa using jeM O);have Z:=List.prefix_nil.1 Z;apply k.1;rw[<-jaT,Z];rfl
  | br u js =>
   have ev:v=u:=by
    have J:=e [];have J:(if v.size=0 then none else some v)=if u.size=0 then none else some u:=J
    by_cases hv:v.size=0
    ·by_cases hu:u.size=0
     ·rw[jbq hv,jbq hu]
     ·rw[if_pos hv,if_neg hu]at J;cases J
    ·by_cases hu:u.size=0
     ·rw[if_neg hv,if_pos hu]at J;cases J
     ·rw[if_neg hv,if_neg hu]at J;exact bS J
   have ek:ks=js:=by
    funext i
    have H:i < 16->∀ t,getL (ks i) t=getL (js i) t:=by
     intro hi t
     have:=e (UInt8.ofNat i :: t)
     have:getL (ks (UInt8.ofNat i).toNat) t=getL (js (UInt8.ofNat i).toNat) t:=this
     rw[jgM hi]at this;exact this
    cases A:(ks i).isNil with
    | true =>
     cases o:(js i).isNil with
     | true=>rw[jbE A,jbE o]
     | false =>
      obtain⟨t,z,hz⟩:=jeK (js i) (k.2.1 i o)
      rw[<-H (k.1 i o),jbE A]at hz;cases hz
    | false =>
     cases o:(js i).isNil with
     | true =>
      obtain⟨t,z,hz⟩:=jeK (ks i) (h.2.1 i A)
      rw[H (h.1 i A),jbE o]at hz;cases hz
     | false=>exact uniq (ks i) (js i) (h.2.1 i A) (k.2.1 i o) (H (h.1 i A))
   rw[ev,ek]
section
attribute [local go_sem] Oper.semAt_some
def jdh(p:vB):Bool:=p.size % 2 == 0 && jaB p
def nib1(i:Nat):vB:=⟨#[UInt8.ofNat i]⟩
def keyV(p:vB):vV:=.tuple #[.string (if jdh p=true then jbt p else ⟨#[]⟩),.bool (jdh p)]
theorem jsC(w:vW)(p:vB)(hs:p.size<=1000000):vR 82 #[.string p] w (keyV p):=by
 by_cases h2:p.size % 2=0
 ·have A:(p.size:Int) % 2=0:=vO
  cases hv:jaB p with
  | true =>
   have o:jdh p=true:=by unfold jdh;rw[hv,h2];rfl
   have z:keyV p=.tuple #[.string (jbt p),.bool true]:=by unfold keyV;rw[o];rfl
   rw[z];clear o z;unfold vR vQ;go_in;go_wp2_with fail
   refine (jll w p vO).mono ?_;rintro e w1 ⟨rfl,rfl⟩;rw[hv];go_wp2_with fail
   refine vC (jn0 w1 p hs) fun H E=>?_;go_wp2_with fail
   go_ret2
   exact⟨rfl,E⟩
  | false =>
   have o:jdh p=false:=by unfold jdh;rw[hv,h2];rfl
   have z:keyV p=.tuple #[.string ⟨#[]⟩,.bool false]:=by unfold keyV;rw[o];rfl
   rw[z];clear o z;unfold vR vQ;go_in;go_wp2_with fail
   refine (jll w p vO).mono ?_;rintro e w1 ⟨rfl,rfl⟩;rw[hv];go_wp2_with fail
   go_ret2
   exact⟨rfl,ExtR w1⟩
 ·have A:¬(p.size:Int) % 2=0:=vO
  have o:jdh p=false:=by unfold jdh;rw[show (p.size % 2 == 0)=false by simpa using h2];rfl
  have z:keyV p=.tuple #[.string ⟨#[]⟩,.bool false]:=by unfold keyV;rw[o];rfl
  have J:((p.size:Int) % 2 != 0)=true:=by simpa using A
  rw[z];clear o z;unfold vR vQ;go_in;go_wp2_with fail
  go_ret2
  exact⟨rfl,ExtR w⟩
def bare(W:vW):vW:={ W with heap:=#[] }
theorem juH(W:vW):Ext (bare W) W:=⟨rfl,rfl,rfl,cE _,fun b hb=>absurd hb (Nat.not_lt_zero b)⟩
theorem ORow.any{T:TypeId}{sz:Nat}{W:vW}{v:vV}{n:Nat}{xs:List vV}(h:W.ownsRow 0 T sz v n xs):ORow T sz (bare W) W v n xs:=⟨jaU h,h,juH W,fun _ _=>cE _⟩
end
def sumF(g:Nat->Nat):Nat->Nat
 | 0=>0
 | n+1=>sumF g n+g n
def cntT:Nat->vL->Nat
 | 0,_=>1
 | f+1,l=>1+(if l.length<=1 then 0 else if 0 < comK l then cntT f (jak (comK l) l)else sumF (fun i=>if (cutL i l).length=0 then 0 else cntT f (jak 1 (cutL i l))) 16)
theorem jpQ(g:Nat->Nat)(l:vL)(h0:∀ i,(cutL i l).length=0->g i=0)(hg:∀ i,(cutL i l).length≠0->g i+2<=3 * (cutL i l).length):∀ n,sumF g n+2 * jdv l n<=3 * jdf l n
 | 0=>by simp[sumF,jdf,jdv]
 | n+1=>by
  have e:=jpQ g l h0 hg n;rw[sumF,jdf,jdv]
  by_cases hz:(cutL n l).length=0
  ·rw[if_pos hz,h0 n hz];omega
  ·have:=hg n hz
   rw[if_neg hz];omega
structure CntP(c:Nat)(l:vL):Prop where
 all:c+2<=3 * l.length
 two:2<=l.length->comK l=0->c+3<=3 * l.length
theorem jwM:∀ (f:Nat) (l:vL),jas f l->l≠[]->CntP (cntT f l) l:=by
 intro f;induction f with
 | zero =>
  intro l h Z;have h0:l.length≠0:=fun e=>Z (bD e);have hl:=jbI h
  exact⟨by show 1+2<=_;omega,fun h2=>by omega⟩
 | succ f ih =>
  intro l h Z;have h0:l.length≠0:=fun e=>Z (bD e)
  by_cases h1:l.length=1
  ·have e:cntT (f+1) l=1:=by unfold cntT;rw[if_pos vO]
   exact⟨by omega,fun h2=>by omega⟩
  have h2:2<=l.length:=vO
  have o:=jbl h h2
  by_cases hk:0 < comK l
  ·have a0:jas f (jak (comK l) l):=(jb9 (comK l) h (fun p hp q hq=>(o p hp).1.trans (o q hq).1.symm) (fun p hp=>(o p hp).2)).mono vO
   have H:jak (comK l) l≠[]:=fun e=>by have:=jaJ (comK l) l;rw[e]at this;simp at this;omega
   have z:=(ih _ a0 H).two (by rw[jaJ];omega) (jgz vO);rw[jaJ]at z;have e:cntT (f+1) l=1+cntT f (jak (comK l) l):=by rw[cntT,if_neg vO,if_pos hk]
   exact⟨by omega,fun _ hz=>by omega⟩
  ·have J:∀ i,(cutL i l).length≠0->jak 1 (cutL i l)≠[]:=fun i K e=>by have:=jaJ 1 (cutL i l);rw[e]at this;simp at this;omega
   obtain⟨a,ha⟩:∃ a,l[0]?=some a:=⟨_,bA vO⟩
   obtain⟨b,hb⟩:∃ b,l[l.length - 1]?=some b:=⟨_,bA vO⟩
   have ga:l.getD 0 pd=a:=by rw[bG,ha];rfl
   have gb:l.getD (l.length - 1) pd=b:=by rw[bG,hb];rfl
   have A:=bI ha;have O:=bI hb;have Q:=jca h.rise vO ha hb
   obtain⟨g,E⟩:=vE (fun i=>if (cutL i l).length=0 then 0 else cntT f (jak 1 (cutL i l)))
   have e:cntT (f+1) l=1+sumF g 16:=by rw[cntT,if_neg vO,if_neg hk,E]
   have z:sumF g 16+4<=3 * l.length:=by
    have a2:=jpQ g l (fun i K=>by rw[E];simp only[K,if_true]) (fun i K=>by
     have:=(ih _ (jdq i h) (J i K)).all
     rw[jaJ]at this;rw[E];simp only[if_neg K];exact this) 16
    have X:ja0 a.l b.l=0:=by
     have:comK l=ja0 a.l b.l:=by unfold comK jal;rw[ga,gb]
     omega
    cases hbl:b.l with
    | nil=>rw[hbl]at Q;exact absurd Q (not_lt_nil _)
    | cons y t =>
     have hy:=jfi (h.size b O).2.2.1 hbl;have cb:=jf6 O hbl;cases hal:a.l with
     | nil =>
      have:=jlP ⟨a,A,hal⟩ 16
      have:=jiV cb hy
      omega
     | cons x r =>
      have hx:=jfi (h.size a A).2.2.1 hal;have ca:=jf6 A hal;have a1:x≠y:=by
       intro e;rw[hal,hbl,e]at X;simp[ja0]at X
      have H:x.toNat≠y.toNat:=fun e=>a1 (dP.1 e)
      have:=je9 l 16
      have:2<=jdv l 16:=by
       rcases fQ x.toNat y.toNat with e | e
       ·exact jgO ca cb e hy
       ·exact jgO cb ca vO hx
      omega
   exact⟨by omega,fun _ _=>by omega⟩
theorem jtP{α:Type}{R:α->α->Prop}(hi:∀ x,¬ R x x)(ht:∀ x y,R x y->¬ R y x):∀ {a b:List α},a.Pairwise R->b.Pairwise R->(∀ x,x∈a↔x∈b)->a=b
 | [],[],_,_,_=>rfl
 | [],y :: b,_,_,h=>absurd ((h y).2 bH) (by simp)
 | x :: a,[],_,_,h=>absurd ((h x).1 bH) (by simp)
 | x :: a,y :: b,ha,hb,h=>by
  rw[cS]at ha hb;have e:x=y:=by
   rcases bM.1 ((h x).1 bH)with e | h1
   ·exact e
   rcases bM.1 ((h y).2 bH)with e | h2
   ·exact e.symm
   exact absurd (ha.1 y h2) (ht _ _ (hb.1 x h1))
  subst e;rw[jtP hi ht ha.2 hb.2 fun z=>?_];constructor
  ·intro o
   rcases bM.1 ((h z).1 (bE _ o))with e | h1
   ·subst e;exact absurd (ha.1 z o) (hi z)
   ·exact h1
  ·intro o
   rcases bM.1 ((h z).2 (bE _ o))with e | h1
   ·subst e;exact absurd (hb.1 z o) (hi z)
   ·exact h1
def joO(l:vL):vL:=l.filter fun q=>q.1.size=0
theorem jt4(p:Pair):p.1.size=0↔p.l=[]:=by
 show p.1.data.toList.length=0↔_;exact List.length_eq_zero_iff
theorem jmk(x y:vN)(h:Lt x y):¬ Lt y x:=fun k=>lt_irrefl _ (jdk _ _ _ h k)
theorem jj8{f:Nat}{l:vL}(h:jas f l):l=joO l++(List.range 16).flatMap fun i=>cutL i l:=by
 refine jtP (R:=fun p q:Pair=>Lt p.l q.l) (fun x=>lt_irrefl _) (fun x y=>jmk _ _) h.rise ?_ fun p=>?_
 ·rw[List.pairwise_append]
  refine⟨h.rise.filter _,?_,fun p e q o=>?_⟩
  ·have:∀ n,((List.range n).flatMap fun i=>cutL i l).Pairwise fun p q:Pair=>Lt p.l q.l:=fun n=>by
    induction n with
    | zero=>simp
    | succ n ih =>
     rw[fS,dR,List.pairwise_append]
     refine⟨ih,?_,fun p e q o=>?_⟩
     ·simpa using (jr3 n h).rise
     ·obtain⟨i,A,e⟩:=cR.1 e
      simp only[cH,fU,bW]at o
      obtain⟨_,a,r,E,K⟩:=jbz e
      obtain⟨_,b,t,z,O⟩:=jbz o
      rw[E,z]
      have:=dW.1 A
      exact jbG.2 (.inl (dD.2 vO))
   exact this 16
  ·obtain⟨_,H⟩:=cM.1 e
   obtain⟨i,_,o⟩:=cR.1 o
   obtain⟨_,b,t,z,_⟩:=jbz o
   rw[(jt4 p).1 (by simpa using H),z];exact jpm
 ·rw[bT]
  constructor
  ·intro e
   cases hl:p.l with
   | nil=>exact .inl (cM.2 ⟨e,by simpa using (jt4 p).2 hl⟩)
   | cons x r =>
    have J:=jfi (h.size p e).2.2.1 hl;exact .inr (cR.2 ⟨x.toNat,dW.2 J,jr5 e hl⟩)
  ·rintro (e | e)
   ·exact (cM.1 e).1
   ·obtain⟨i,_,e⟩:=cR.1 e
    exact (jbz e).1
theorem jjL{f:Nat}{l:vL}(h:jas f l)(hn:l≠[]):joO l=if (l.getD 0 pd).1.size=0 then [l.getD 0 pd]else []:=by
 cases l with
 | nil=>exact absurd rfl hn
 | cons p r =>
  have z:∀ q∈r,¬ q.1.size=0:=fun q o e=>by
   have:=(cS.1 h.rise).1 q o
   rw[(jt4 q).1 e]at this;exact not_lt_nil _ this
  have A:r.filter (fun q:Pair=>q.1.size=0)=[]:=by
   rw[iB];intro q o;simpa using z q o
  show (p :: r).filter _=if p.1.size=0 then [p]else []
  rw[dH,A]
  by_cases e:p.1.size=0
  ·rw[if_pos e,if_pos (by simpa using e)]
  ·rw[if_neg e,if_neg (by simpa using e)]
theorem jcs(a b:vB):(a++b).data.toList=a.data.toList++b.data.toList:=by rw[cY,fW]
theorem jpG{α:Type}(g:Nat->List α)(hg:∀ i,(g i).reverse=g i):∀ l:List Nat,(l.reverse.flatMap g).reverse=l.flatMap g
 | []=>rfl
 | x :: l=>by
  rw[gP,dR,List.reverse_append,jpG g hg l,cH];simp[hg]
theorem jAh{x:vU}{i:Nat}(h:x.toNat=i):UInt8.ofNat i=x:=by subst h;exact iQ
theorem jnl{p:vB}{i k:Nat}{q:Pair}{x:vU}{r:vN}(h:q.l=x :: r)(hx:x.toNat=i):p++q.1=(p++nib1 i)++q.1.extract 1 q.1.size:=by
 refine jbC ?_;rw[jcs,jcs,jcs,jcO _ _ _ (bL _)];have h:q.1.data.toList=x :: r:=h;rw[h];unfold nib1;rw[jAh hx];simp
theorem jnm{p:vB}{k:Nat}{q:Pair}{a:vB}(h:q.l.take k=a.data.toList):p++q.1=(p++a)++q.1.extract k q.1.size:=by
 refine jbC ?_;rw[jcs,jcs,jcs,jcO _ _ _ (bL _), <-h,cD];show _++q.l=_++(q.l.take k++q.l.drop k);rw[cX]
def ja4:Nat->vL->PA
 | 0,_=>.no
 | f+1,l =>
  if l.length=0 then .no
  else if l.length=1 then .leaf (l.getD 0 pd).1 (l.getD 0 pd).2
  else if 0 < comK l then .ext ((l.getD 0 pd).1.extract 0 (comK l)) (ja4 f (jak (comK l) l))
  else .br (if (l.getD 0 pd).1.size=0 then (l.getD 0 pd).2 else ⟨#[]⟩) fun i=>if (cutL i l).length=0 then .nil else ja4 f (jak 1 (cutL i l))
theorem jew(f:Nat)(l:vL):ja4 (f+1) l =
  if l.length=0 then .no
  else if l.length=1 then .leaf (l.getD 0 pd).1 (l.getD 0 pd).2
  else if 0 < comK l then .ext ((l.getD 0 pd).1.extract 0 (comK l)) (ja4 f (jak (comK l) l))
  else .br (if (l.getD 0 pd).1.size=0 then (l.getD 0 pd).2 else ⟨#[]⟩) fun i=>if (cutL i l).length=0 then .nil else ja4 f (jak 1 (cutL i l)):=rfl
theorem jbW(f:Nat){l:vL}(h:l.length=0):ja4 (f+1) l=.no:=by rw[jew];rw[if_pos h]
theorem jb0(f:Nat){l:vL}(h:l.length=1):ja4 (f+1) l=.leaf (l.getD 0 pd).1 (l.getD 0 pd).2:=by rw[jew];rw[if_neg vO,if_pos h]
theorem jdB(f:Nat){l:vL}(h:2<=l.length)(hk:0 < comK l):ja4 (f+1) l=.ext ((l.getD 0 pd).1.extract 0 (comK l)) (ja4 f (jak (comK l) l)):=by
 rw[jew];rw[if_neg vO,if_neg vO,if_pos hk]
theorem jeT(f:Nat){l:vL}(h:2<=l.length)(hk:¬ 0 < comK l):ja4 (f+1) l=.br (if (l.getD 0 pd).1.size=0 then (l.getD 0 pd).2 else ⟨#[]⟩) fun i=>if (cutL i l).length=0 then .nil else ja4 f (jak 1 (cutL i l)):=by
 rw[jew];rw[if_neg vO,if_neg vO,if_neg hk]
theorem jzN{f:Nat}{l:vL}(h:jas f l){i:Nat}(hi:(cutL i l).length≠0):i < 16:=by
 cases e:cutL i l with
 | nil=>rw[e]at hi;exact (hi rfl).elim
 | cons p r =>
  obtain⟨o,a,t,z,A⟩:=jbz (show p∈cutL i l by rw[e];exact bH)
  rw[<-A];exact jfi (h.size p o).2.2.1 z
theorem jkY:∀ (f:Nat) (l:vL),jas f l->∀ p:vB,jaB p=true->getL (ja4 (f+1) l) p.data.toList=valL l p:=by
 intro f;induction f with
 | zero =>
  intro l h p H;have hl:=jbI h
  by_cases h0:l.length=0
  ·rw[jbW _ h0,bD h0];rfl
  ·have z:l.length=1:=vO
   rw[jb0 _ z]
   obtain⟨q,rfl⟩:=fN.1 z
   show (if q.1.data.toList=p.data.toList then some q.2 else none)=if q.1=p then some q.2 else valL [] p
   by_cases e:q.1=p
   ·rw[if_pos e,if_pos (by rw[e])]
   ·rw[if_neg e,if_neg (fun h=>e (jbC h))];rfl
 | succ f ih =>
  intro l h p H
  by_cases h0:l.length=0
  ·rw[jbW _ h0,bD h0];rfl
  by_cases z:l.length=1
  ·rw[jb0 _ z]
   obtain⟨q,rfl⟩:=fN.1 z
   show (if q.1.data.toList=p.data.toList then some q.2 else none)=if q.1=p then some q.2 else valL [] p
   by_cases e:q.1=p
   ·rw[if_pos e,if_pos (by rw[e])]
   ·rw[if_neg e,if_neg (fun h=>e (jbC h))];rfl
  have K:2<=l.length:=vO
  have O:=jdg h K
  by_cases hk:0 < comK l
  ·rw[jdB _ K hk]
   show (if ((l.getD 0 pd).1.extract 0 (comK l)).data.toList.isPrefixOf p.data.toList=true then getL (ja4 (f+1) (jak (comK l) l)) (p.data.toList.drop _)else none)=_;rw[jaT,O]
   by_cases hb:preB ((l.getD 0 pd).1.extract 0 (comK l)) p=true
   ·have A:goL l p=some (jak (comK l) l,p.extract (comK l) p.size):=by unfold goL;rw[if_neg vO,if_pos hk,if_pos hb]
    have o:=jso h H A;have E:((l.getD 0 pd).1.extract 0 (comK l)).data.toList.isPrefixOf p.data.toList=true:=hb;rw[if_pos E, <-jdS,ih _ o.rows _ o.valid,o.find]
   ·have A:goL l p=none:=by unfold goL;rw[if_neg vO,if_pos hk,if_neg hb]
    have o:=(jsn h H A).2;have E:¬((l.getD 0 pd).1.extract 0 (comK l)).data.toList.isPrefixOf p.data.toList=true:=hb;rw[if_neg E, <-o];have e:jap (jac (f+1)) l=⟨2,(l.getD 0 pd).1.extract 0 (comK l),⟨#[]⟩,refB (jac (f+1) (jak (comK l) l)).text :: jam 15⟩:=by unfold jap;rw[if_neg h0,if_neg z,if_pos hk]
    rw[e];rfl
  ·rw[jeT _ K hk]
   cases hpl:p.data.toList with
   | nil =>
    have A:goL l p=none:=by unfold goL;rw[if_neg vO,if_neg hk,hpl]
    have o:=(jsn h H A).2;rw[<-o]
    obtain⟨rs,Q⟩:=vE ((List.range 16).map fun i=>if (cutL i l).length=0 then (⟨#[]⟩:vB)else refB (jac (f+1) (jak 1 (cutL i l))).text)
    have e:jap (jac (f+1)) l=⟨3,⟨#[]⟩,if (l.getD 0 pd).1.size=0 then (l.getD 0 pd).2 else ⟨#[]⟩,rs⟩:=by rw[Q];unfold jap;rw[if_neg h0,if_neg z,if_neg hk]
    rw[e];have X:p.size=0:=by rw[<-jaT p,hpl];rfl
    obtain⟨J,Z⟩:=vE (if (l.getD 0 pd).1.size=0 then (l.getD 0 pd).2 else ⟨#[]⟩)
    rw[<-Z];show (if J.size=0 then none else some J)=if (3:Nat)=1 then _ else if (3:Nat)=3 then (if p.size=0/\J.size≠0 then some J else none)else none
    rw[if_neg (by decide:¬(3:Nat)=1),if_pos rfl]
    by_cases hz:J.size=0
    ·rw[if_pos hz,if_neg (fun h=>h.2 hz)]
    ·rw[if_neg hz,if_pos ⟨X,hz⟩]
   | cons x t =>
    show getL (if (cutL x.toNat l).length=0 then .nil else ja4 (f+1) (jak 1 (cutL x.toNat l))) t=_
    by_cases hc:(cutL x.toNat l).length=0
    ·rw[if_pos hc]
     refine (jgZ fun q hq e=>?_).symm;exact jf6 hq (p:=q) (by show q.1.data.toList=x :: t;rw[e,hpl]) hc
    ·rw[if_neg hc]
     have A:goL l p=some (jak 1 (cutL x.toNat l),p.extract 1 p.size):=by
      unfold goL;rw[if_neg vO,if_neg hk,hpl];show (if (cutL x.toNat l).length=0 then _ else _)=_;rw[if_neg hc]
     have o:=jso h H A;have e:t=(p.extract 1 p.size).data.toList:=by rw[jdS,hpl];rfl
     rw[e,ih _ o.rows _ o.valid,o.find]
theorem je3{f:Nat}{l:vL}(h:jas (f+1) l){i:Nat}(hc:(cutL i l).length≠0):jas f (jak 1 (cutL i l))/\jak 1 (cutL i l)≠[]:=
 ⟨jdq i h,fun e=>by have:=jaJ 1 (cutL i l);rw[e]at this;simp at this;exact hc this.symm⟩
theorem jef{f:Nat}{l:vL}(h:jas (f+1) l)(h2:2<=l.length)(hk:0 < comK l):jas f (jak (comK l) l)/\jak (comK l) l≠[]/\2<=(jak (comK l) l).length/\comK (jak (comK l) l)=0:=by
 have o:=jbl h h2
 exact⟨(jb9 (comK l) h (fun p z q A=>(o p z).1.trans (o q A).1.symm) (fun p z=>(o p z).2)).mono vO,
  fun e=>by have:=jaJ (comK l) l;rw[e]at this;simp at this;omega,by rw[jaJ];exact h2,jgz vO⟩
theorem jpu:∀ (f:Nat) (l:vL),jas f l->l≠[]->CanP (ja4 (f+1) l)/\(2<=l.length->comK l=0->(ja4 (f+1) l).isBr=true):=by
 intro f;induction f with
 | zero =>
  intro l h Z;have hl:=jbI h;have h1:l.length=1:=by have:=gB.2 Z;omega
  have H:=h.size _ (jdz (l:=l) vO);rw[jb0 _ h1]
  exact⟨⟨H.2.2.1,by omega⟩,fun E=>by omega⟩
 | succ f ih =>
  intro l h Z;have a0:=gB.2 Z
  by_cases h1:l.length=1
  ·have H:=h.size _ (jdz (l:=l) vO)
   rw[jb0 _ h1]
   exact⟨⟨H.2.2.1,by omega⟩,fun E=>by omega⟩
  have E:2<=l.length:=vO
  have H:=h.size _ (jdz (l:=l) vO)
  by_cases hk:0 < comK l
  ·obtain⟨J,K,k3,k4⟩:=jef h E hk
   obtain⟨i1,i2⟩:=ih _ J K
   rw[jdB _ E hk]
   exact⟨⟨by rw[jdg h E];omega,jhD H.2.2.1 _,i2 k3 k4,i1⟩,fun _ e=>by omega⟩
  ·rw[jeT _ E hk]
   refine⟨⟨fun i o=>?_,fun i o=>?_,?_⟩,fun _ _=>rfl⟩
   ·by_cases z:(cutL i l).length=0
    ·have o:(if (cutL i l).length=0 then PA.nil else ja4 (f+1) (jak 1 (cutL i l))).isNil=false:=o
     rw[if_pos z]at o;cases o
    ·exact jzN h z
   ·have o:(if (cutL i l).length=0 then PA.nil else ja4 (f+1) (jak 1 (cutL i l))).isNil=false:=o
    show CanP (if (cutL i l).length=0 then PA.nil else ja4 (f+1) (jak 1 (cutL i l)))
    by_cases z:(cutL i l).length=0
    ·rw[if_pos z]at o;cases o
    ·rw[if_neg z]
     obtain⟨J,K⟩:=je3 h z
     exact (ih _ J K).1
   ·obtain⟨a,X⟩:∃ a,l[0]?=some a:=⟨_,bA vO⟩
    obtain⟨b,hb⟩:∃ b,l[l.length - 1]?=some b:=⟨_,bA vO⟩
    have ga:l.getD 0 pd=a:=by rw[bG,X];rfl
    have gb:l.getD (l.length - 1) pd=b:=by rw[bG,hb];rfl
    have O:=jca h.rise vO X hb;have A:ja0 a.l b.l=0:=by
     have:comK l=0:=vO
     unfold comK at this;rw[ga,gb]at this;exact this
    have Q:∀ p∈l,∀ x t,p.l=x :: t->(if (cutL x.toNat l).length=0 then PA.nil else ja4 (f+1) (jak 1 (cutL x.toNat l))).isNil=false:=by
     intro p hp x t hx;have z:=jf6 hp hx;rw[if_neg z]
     obtain⟨J,K⟩:=je3 h z
     exact jnv (ih _ J K).1
    cases hbl:b.l with
    | nil=>rw[hbl]at O;exact absurd O (not_lt_nil _)
    | cons y s =>
     have kb:=Q b (bI hb) y s hbl;cases hal:a.l with
     | nil =>
      right;rw[ga];have h0:a.1.size=0:=by rw[<-jaT];show a.l.length=0;rw[hal];rfl
      rw[if_pos h0]
      have:=(h.size a (bI X)).2.2.2.1
      exact⟨by omega,y.toNat,kb⟩
     | cons x t =>
      left
      refine⟨x.toNat,y.toNat,fun e=>?_,Q a (bI X) x t hal,kb⟩
      have e:=dP.1 e;rw[hal,hbl,e]at A;simp[ja0]at A
theorem jfb:∀ (P:PA),CanP P->∀ (p:vN) (v:vB),getL P p=some v->∀ x∈p,x.toNat < 16
 | .nil,h,_,_,_=>h.elim
 | .no,h,_,_,_=>h.elim
 | .leaf a v,h,p,u,e=>by
  obtain⟨rfl,_⟩:=jc8 e
  exact jcr.1 h.1
 | .ext a n,h,p,u,e=>by
  obtain⟨r,rfl⟩:=jeM e
  rw[jiC]at e;intro x o;rcases bT.1 o with o | o
  ·exact jcr.1 h.2.1 x o
  ·exact jfb n h.2.2.2 r u e x o
 | .br v ks,h,[],u,e=>fun x o=>by cases o
 | .br v ks,h,y :: t,u,e=>by
  have e:getL (ks y.toNat) t=some u:=e;have z:(ks y.toNat).isNil=false:=by
   cases hb:(ks y.toNat).isNil with
   | false=>rfl
   | true=>rw[jbE hb]at e;cases e
  intro x o;rcases bM.1 o with rfl | o
  ·exact h.1 _ z
  ·exact jfb (ks y.toNat) (h.2.1 _ z) t u e x o
theorem jtr{f:Nat}{l:vL}(h:jas f l){P:PA}(hP:P=.no\/CanP P)(hg:∀ p:vB,jaB p=true->getL P p.data.toList=valL l p):P=ja4 (f+1) l:=by
 by_cases h0:l.length=0
 ·rw[jbW _ h0]
  rcases hP with e | z
  ·exact e
  ·exfalso
   obtain⟨p,v,e⟩:=jeK P z
   have o:=jfb P z p v e
   have:=hg ⟨p.toArray⟩ (jcr.2 (by simpa using o))
   rw[bD h0]at this;have H:getL P (⟨p.toArray⟩:vB).data.toList=some v:=by simpa using e
   rw[H]at this;cases this
 ·have J:l≠[]:=fun e=>h0 (by rw[e];rfl)
  obtain⟨z,_⟩:=jpu f l h J
  rcases hP with rfl | hP
  ·exfalso
   obtain⟨p,v,e⟩:=jeK _ z
   have o:=jfb _ z p v e;have A:=jkY f l h ⟨p.toArray⟩ (jcr.2 (by simpa using o));have H:getL (ja4 (f+1) l) (⟨p.toArray⟩:vB).data.toList=some v:=by simpa using e
   have E:=hg ⟨p.toArray⟩ (jcr.2 (by simpa using o));rw[H]at A;rw[<-A]at E;cases E
  ·refine uniq P _ hP z fun p=>?_
   by_cases o:∀ x∈p,x.toNat < 16
   ·have A:=jkY f l h ⟨p.toArray⟩ (jcr.2 (by simpa using o))
    have E:=hg ⟨p.toArray⟩ (jcr.2 (by simpa using o));have e:(⟨p.toArray⟩:vB).data.toList=p:=by simp
    rw[e]at A E;rw[A,E]
   ·have g:∀ Q:PA,CanP Q->getL Q p=none:=by
     intro Q K;cases e:getL Q p with
     | none=>rfl
     | some v=>exact absurd (jfb Q K p v e) o
    rw[g P hP,g _ z]
noncomputable def putN(n:jad):vB:=@ite _ (∃ d,jbT (InlD d) n) (Classical.propDecidable _) (jaP n) ⟨#[]⟩
theorem jmA{d:Nat}{n:jad}(h:jbT (InlD d) n):putN n=jaP n:=if_pos ⟨d,h⟩
noncomputable def textP:PA->vB
 | .nil=>⟨#[]⟩
 | .no=>putN jaG
 | .leaf q v=>putN ⟨1,q,v,jam 16⟩
 | .ext q n=>putN ⟨2,q,⟨#[]⟩,refB (textP n) :: jam 15⟩
 | .br v ks=>putN ⟨3,⟨#[]⟩,v,(List.range 16).map fun i=>if (ks i).isNil then ⟨#[]⟩else refB (textP (ks i))⟩
noncomputable def nodeP:PA->jad
 | .nil=>jaG
 | .no=>jaG
 | .leaf q v=>⟨1,q,v,jam 16⟩
 | .ext q n=>⟨2,q,⟨#[]⟩,refB (textP n) :: jam 15⟩
 | .br v ks=>⟨3,⟨#[]⟩,v,(List.range 16).map fun i=>if (ks i).isNil then ⟨#[]⟩else refB (textP (ks i))⟩
noncomputable def underP:PA->vM
 | .nil=>[]
 | .no=>[]
 | .leaf _ _=>[]
 | .ext _ n=>bigs (textP n)++underP n
 | .br _ ks=>(List.range 16).flatMap fun i=>if (ks i).isNil then []else bigs (textP (ks i))++underP (ks i)
theorem jm3{P:PA}(h:P.isNil=false):textP P=putN (nodeP P):=by cases P <;> first | rfl | cases h
theorem jdJ{f:Nat}{l:vL}:(ja4 (f+1) l).isNil=false:=by
 rw[jew];split
 ·rfl
 ·split
  ·rfl
  ·split <;> rfl
theorem jhl{α:Type}(g:α->List PT):∀ L:List α,jaH (L.flatMap g)=L.flatMap fun i=>jaH (g i)
 | []=>rfl
 | x :: L=>by rw[cH,jdy,jhl g L];rfl
theorem jfK:∀ (f:Nat) (l:vL),jas f l->nodeP (ja4 (f+1) l)=jap (jac f) l/\textP (ja4 (f+1) l)=(jac (f+1) l).text/\underP (ja4 (f+1) l)=jaH (jav (jac f) l):=by
 intro f;have o:∀ (f:Nat) (l:vL),jas f l->nodeP (ja4 (f+1) l)=jap (jac f) l->textP (ja4 (f+1) l)=(jac (f+1) l).text:=by
  intro f l X h;rw[jm3 jdJ,h,jmA (good f l X).1];rfl
 induction f with
 | zero =>
  intro l h;have hl:=jbI h
  by_cases h0:l.length=0
  ·have e:nodeP (ja4 (0+1) l)=jap (jac 0) l:=by rw[jbW _ h0];unfold jap;rw[if_pos h0];rfl
   exact⟨e,o 0 l h e,by rw[jbW _ h0];unfold jav;rw[if_pos vO];rfl⟩
  ·have z:l.length=1:=vO
   have e:nodeP (ja4 (0+1) l)=jap (jac 0) l:=by rw[jb0 _ z];unfold jap;rw[if_neg h0,if_pos z];rfl
   exact⟨e,o 0 l h e,by rw[jb0 _ z];unfold jav;rw[if_pos vO];rfl⟩
 | succ f ih =>
  intro l h;have E:∀ m,jas f m->m≠[]->bigs (textP (ja4 (f+1) m))++underP (ja4 (f+1) m)=jaH (jbF (jac (f+1) m)):=by
   intro m Q K
   obtain⟨_,Z,i3⟩:=ih m Q
   have O:=(good f m Q).2.1 K;rw[Z,i3];unfold bigs jbF
   by_cases hz:(jac (f+1) m).text.size < 32
   ·rw[if_pos hz,if_pos hz]
    have e:(jac (f+1) m).kids=[]:=O.small hz;have e:jav (jac f) m=[]:=e;rw[e];rfl
   ·rw[if_neg hz,if_neg hz]
    show _=jax (jac (f+1) m)++[];rw[bW];rfl
  by_cases h0:l.length=0
  ·have e:nodeP (ja4 (f+1+1) l)=jap (jac (f+1)) l:=by rw[jbW _ h0];unfold jap;rw[if_pos h0];rfl
   exact⟨e,o _ l h e,by rw[jbW _ h0];unfold jav;rw[if_pos vO];rfl⟩
  by_cases z:l.length=1
  ·have e:nodeP (ja4 (f+1+1) l)=jap (jac (f+1)) l:=by rw[jb0 _ z];unfold jap;rw[if_neg h0,if_pos z];rfl
   exact⟨e,o _ l h e,by rw[jb0 _ z];unfold jav;rw[if_pos vO];rfl⟩
  have H:2<=l.length:=vO
  by_cases hk:0 < comK l
  ·obtain⟨A,J,_,_⟩:=jef h H hk
   have e:nodeP (ja4 (f+1+1) l)=jap (jac (f+1)) l:=by
    rw[jdB _ H hk];unfold jap;rw[if_neg h0,if_neg z,if_pos hk];show (⟨2,_,⟨#[]⟩,refB (textP (ja4 (f+1) (jak (comK l) l))) :: jam 15⟩:jad)=_;rw[(ih _ A).2.1]
   refine⟨e,o _ l h e,?_⟩
   rw[jdB _ H hk];unfold jav;rw[if_neg vO,if_pos hk];exact E _ A J
  ·have e:nodeP (ja4 (f+1+1) l)=jap (jac (f+1)) l:=by
    rw[jeT _ H hk];unfold jap;rw[if_neg h0,if_neg z,if_neg hk];show (⟨3,⟨#[]⟩,_,(List.range 16).map _⟩:jad)=⟨3,⟨#[]⟩,_,(List.range 16).map _⟩
    congr 1
    refine dI fun i _=>?_;show (if (if (cutL i l).length=0 then PA.nil else ja4 (f+1) (jak 1 (cutL i l))).isNil=true then _ else refB (textP (if (cutL i l).length=0 then PA.nil else ja4 (f+1) (jak 1 (cutL i l)))))=_
    by_cases hc:(cutL i l).length=0
    ·rw[if_pos hc,if_pos hc];rfl
    ·obtain⟨A,J⟩:=je3 h hc
     rw[if_neg hc,if_neg hc,jdJ,if_neg ff,(ih _ A).2.1]
   refine⟨e,o _ l h e,?_⟩
   have eB:jav (jac (f+1)) l=(List.range 16).flatMap fun i=>if (cutL i l).length=0 then []else jbF (jac (f+1) (jak 1 (cutL i l))):=by unfold jav;rw[if_neg vO,if_neg hk]
   rw[jeT _ H hk,eB,jhl];show (List.range 16).flatMap _=_
   congr 1
   funext i
   show (if (if (cutL i l).length=0 then PA.nil else ja4 (f+1) (jak 1 (cutL i l))).isNil=true then _ else bigs (textP (if (cutL i l).length=0 then PA.nil else ja4 (f+1) (jak 1 (cutL i l))))++underP (if (cutL i l).length=0 then PA.nil else ja4 (f+1) (jak 1 (cutL i l))))=_
   by_cases hc:(cutL i l).length=0
   ·rw[if_pos hc,if_pos hc];rfl
   ·obtain⟨A,J⟩:=je3 h hc
    rw[if_neg hc,if_neg hc,jdJ,if_neg ff];exact E _ A J
def keyR(p v:vB):vL:=if jdh p=true then [(jbt p,v)]else []
def entP:PA->vB->vL
 | .nil,_=>[]
 | .no,_=>[]
 | .leaf q v,p=>keyR (p++q) v
 | .ext q n,p=>entP n (p++q)
 | .br v ks,p=>(if v.size=0 then []else keyR p v)++(List.range 16).flatMap fun i=>if (ks i).isNil then []else entP (ks i) (p++nib1 i)
theorem jlV(p a:vB)(k:Nat)(l:vL)(h:∀ q∈l,p++q.1=(p++a)++q.1.extract k q.1.size):(jak k l).map (fun q=>(jbt ((p++a)++q.1),q.2))=l.map fun q=>(jbt (p++q.1),q.2):=by
 unfold jak;rw[dJ];refine dI fun q e=>?_;show (jbt ((p++a)++q.1.extract k q.1.size),q.2)=_;rw[<-h q e]
theorem jtp:∀ (f:Nat) (l:vL),jas f l->∀ p:vB,(∀ q∈l,jdh (p++q.1)=true)->entP (ja4 (f+1) l) p=l.map fun q=>(jbt (p++q.1),q.2):=by
 intro f;induction f with
 | zero =>
  intro l h p A;have hl:=jbI h
  by_cases h0:l.length=0
  ·rw[jbW _ h0,bD h0];rfl
  ·have E:l.length=1:=vO
   rw[jb0 _ E]
   obtain⟨q,rfl⟩:=fN.1 E
   show keyR (p++q.1) q.2=[(jbt (p++q.1),q.2)];unfold keyR;rw[if_pos (A q bH)]
 | succ f ih =>
  intro l h p A
  by_cases h0:l.length=0
  ·rw[jbW _ h0,bD h0];rfl
  by_cases E:l.length=1
  ·rw[jb0 _ E]
   obtain⟨q,rfl⟩:=fN.1 E
   show keyR (p++q.1) q.2=[(jbt (p++q.1),q.2)];unfold keyR;rw[if_pos (A q bH)]
  have O:2<=l.length:=vO
  by_cases hk:0 < comK l
  ·obtain⟨Q,k2,_,_⟩:=jef h O hk
   have H:=jbl h O;rw[jdB _ O hk];show entP (ja4 (f+1) (jak (comK l) l)) (p++(l.getD 0 pd).1.extract 0 (comK l))=_;have o:∀ q∈l,p++q.1=(p++(l.getD 0 pd).1.extract 0 (comK l))++q.1.extract (comK l) q.1.size:=fun q z=>jnm (by rw[(H q z).1,jfe]);rw[ih _ Q _ (fun q z=>?_),jlV p _ _ l o]
   obtain⟨r,J,rfl⟩:=bJ.1 z
   show jdh ((p++(l.getD 0 pd).1.extract 0 (comK l))++r.1.extract (comK l) r.1.size)=true;rw[<-o r J];exact A r J
  ·rw[jeT _ O hk]
   have X:l≠[]:=fun e=>h0 (by rw[e];rfl);have Z:=jj8 h;have a0:=jjL h X;have e1:(if (if (l.getD 0 pd).1.size=0 then (l.getD 0 pd).2 else ⟨#[]⟩:vB).size=0 then []else keyR p (if (l.getD 0 pd).1.size=0 then (l.getD 0 pd).2 else ⟨#[]⟩))=(joO l).map fun q=>(jbt (p++q.1),q.2):=by
    rw[a0]
    by_cases hz:(l.getD 0 pd).1.size=0
    ·have hm:=jdz (l:=l) vO
     have hs:=h.size _ hm;rw[if_pos hz,if_pos hz,if_neg vO];have e0:p++(l.getD 0 pd).1=p:=by rw[jbq hz];exact jbC (by rw[jlC];simp)
     show keyR p _=[(jbt (p++(l.getD 0 pd).1),(l.getD 0 pd).2)];have K:=A _ hm;rw[e0]at K ⊢;unfold keyR;rw[if_pos K]
    ·rw[if_neg hz,if_neg hz];rfl
   show (if (if (l.getD 0 pd).1.size=0 then (l.getD 0 pd).2 else ⟨#[]⟩:vB).size=0 then []else keyR p (if (l.getD 0 pd).1.size=0 then (l.getD 0 pd).2 else ⟨#[]⟩))++(List.range 16).flatMap _=l.map _;rw[e1]
   conv=>rhs;rw[Z]
   rw[cB,List.map_flatMap]
   congr 1
   congr 1
   funext i
   show (if (if (cutL i l).length=0 then PA.nil else ja4 (f+1) (jak 1 (cutL i l))).isNil=true then []else entP (if (cutL i l).length=0 then PA.nil else ja4 (f+1) (jak 1 (cutL i l))) (p++nib1 i))=_
   by_cases hc:(cutL i l).length=0
   ·rw[if_pos hc,bD hc];rfl
   ·obtain⟨Q,k2⟩:=je3 h hc
    rw[if_neg hc,jdJ,if_neg ff];have o:∀ q∈cutL i l,p++q.1=(p++nib1 i)++q.1.extract 1 q.1.size:=fun q z=>by
     obtain⟨_,a,r,e,ha⟩:=jbz z
     exact jnl (k:=0) e ha
    rw[ih _ Q _ (fun q z=>?_),jlV p _ _ _ o]
    obtain⟨r,J,rfl⟩:=bJ.1 z
    show jdh ((p++nib1 i)++r.1.extract 1 r.1.size)=true;rw[<-o r J];exact A r (jbz J).1
theorem jAM(w:vW)(v:vV)(l:vL)(hc:jbY w)(hv:RdP w v l)(h:jaw l=0):vR 111 #[v] w (.tuple #[.string (jaF l).text,.int .i64 0]):=by
 have A:=jaA h
 obtain⟨a,c,rfl⟩:=hv.sl;have X:=Hd hv;have E:=Hd A;have HC:=Hd hc;have H:=Hd h;have J:=Hd A.len;clear hv A hc h;unfold vR vQ;go_in;go_wp2_with fail
 refine vH (jhc w _ l X.o (by have:=J.o;omega) (fun p K=>by have:=E.o.size p K;omega)) fun w1 Z=>?_;rw[H.o];go_wp2_with fail
 refine (jw0 w1 _ l (X.o.ext Z.o) (by have:=J.o;omega) (fun p K=>by have:=E.o.size p K;omega)).mono ?_;rintro e w2 ⟨u,rfl,O⟩;have HR:=Hd O.rd;have HX:=Hd (Z.o.trans O.ext);clear O
 obtain⟨a2,c2,hu⟩:=HR.o.sl
 subst hu;go_wp2_with fail
 refine (jkp 12 (jaR l) (jbw E.o) (by unfold jaR;rw[cC];have:=J.o;omega) w2 _ (HC.o.ext HX.o) HR.o).mono ?_;rintro e w3 ⟨k,rfl,hk,hE⟩
 obtain⟨a0,vk,bk,z,_⟩:=hk.open
 have q0:w3.cell? ⟨k,0,none⟩=some (.string (jac 13 (jaR l)).text):=z.cell vF;have Q:=Hd (HX.o.trans hE);clear hk z hE;unfold ptrV;go_wp2_with fail
 go_ret2
 exact⟨rfl,Q.o⟩
theorem jyA(w:vW)(v:vV)(l:vL)(hc:jbY w)(hv:RdP w v l)(h:jaw l=0):vR 74 #[v] w (.tuple #[.string (shaB (jaF l).text),.int .i64 0]):=by
 have A:=jAM w v l hc hv h
 obtain⟨a,c,rfl⟩:=hv.sl
 obtain⟨t,H⟩:=vE (jaF l).text
 rw[<-H]at A ⊢;have K:=Hd A;have O:=Hd hc;clear A hc hv H h;unfold vR vQ;go_in;go_wp2_with fail
 refine K.o.mono ?_;rintro e w1 ⟨rfl,z⟩;have J:=Hd z;clear z;go_wp2_with fail
 refine vH (of_t _ _ [t] (by simp) (jcm w1 [t] 9) (O.o.ext (J.o.alloc _))) fun Q z=>?_;rw[jdx];have E:=Hd ((J.o.alloc _).trans z);go_wp2_with fail
 go_ret2
 exact⟨rfl,E.o⟩
theorem jxI(d:Nat)(a b:vB)(w:vW):(Op.equalIn (d+1) 9 (.string a) (.string b)).run Tryz.prog w=.ok (a == b) w:=by
 simp[Op.equalIn,bX,run_underlying Tryz.uStr,Result.andThen,cO]
def jhi(d:Option TypeDesc)(l:List (Bool × TypeId × Nat)):Bool:=match d with | some (.struct fs)=>fs.toList.map (fun f=>(f.name == "_",f.type,f.offset)) == l | _=>false
theorem jxJ{d:Option TypeDesc}(h:jhi d [(false,9,0),(false,9,1)]=true):∃ f g:Field,d=some (.struct #[f,g])/\f.name ≠ "_"/\f.type=9/\f.offset=0/\g.name ≠ "_"/\g.type=9/\g.offset=1:=by
 cases d with
 | none=>cases h
 | some d =>
  cases d <;> try (cases h;done)
  rename_i fs
  obtain⟨l⟩:=fs
  rcases l with _ |⟨f,_ |⟨g,_ |⟨e,r⟩⟩⟩ <;> simp[jhi]at h
  obtain⟨⟨o,z,A⟩,E,H,J⟩:=h
  exact⟨f,g,rfl,o,z,A,E,H,J⟩
section
section mixf
variable {P:Program} {l:List Oper} {E:vW->vW->Prop}
variable {R:List Nat->Act->vW->Prop} {ord done:List Nat} {a:Act} {w:vW} {k:Nat} {o:Oper}
end mixf
end
def jzz(P:Program)(l:Nat)(args:Array vV)(W:vW)(r:Nat)(Ct:vW->Prop):Prop:=
 YieldAt Fence.wide 0 P l args W fun e W'=>e=.returned (.bool true)/\jaf (fun b=>b≠r) W W'/\Ct W'
def jze(P:Program)(gf:FuncId)(lb:Array vV){σ:Type}(s0:σ)(Step:σ->Array vV->σ->Prop)(Done:σ->Prop)(S:vW->Prop):Prop:=
 ∀ (l:Nat) (C:σ->vW->Prop) (W:vW),(∀ s W1 W2,C s W1->jaf (fun b=>b=W.heap.size) W1 W2->C s W2)->(∀ s W1,C s W1->S W1) ->
  (∀ s v s' W1,Step s v s'->C s W1->W.heap.size < W1.heap.size->jzz P l v W1 W.heap.size (C s'))->C s0 W ->
   CallsIn Fence.wide 0 P gf (#[.func (.yield l) #[] #[]]++lb) W (fun e W'=>(∃ v,e=.returned v)/\∃ s,Done s/\C s W')
def jzt(g:Nat)(W:vW)(Ct:vW->Prop):Exit->Act->vW->Prop
 | .normal,_,W'=>jaf (fun b=>b≠g/\b≠g+1/\b≠g+2) W W'/\Ct W'
 | _,_,_=>False
theorem juo{P:Program}{g:Operand}{ps:Array Tmp}{assign body:Code}{Q:Exit->Act->vW->Prop}{a:Act}{w:vW}
  {gf:Nat} {lb:Array vV} (hg:a.eval g=.func (.func gf) #[] lb) (eg:∀ args w,(callFunc gf args).run P w=.ok (.enter gf args) w)
  {σ:Type} {s0:σ} {Step:σ->Array vV->σ->Prop} {Done:σ->Prop} {S:vW->Prop} (IS:jze P gf lb s0 Step Done S)
  (hps:∀ s v J,Step s v J->v.size=ps.size)
  (C:σ->vW->Prop) (hC:∀ s W A,C s W->jaf (fun b=>b=w.heap.size\/b=w.heap.size+1\/b=w.heap.size+2) W A->C s A) (hS:∀ s W,C s W->S W)
  (h0:C s0 w) (a₁:Array vV->Act)
  (hassign:∀ (l:Nat) (v:Array vV) (s J:σ) (W:vW) (K:Act->vW->Prop),Step s v J->K (a₁ v) W ->
   assign.wpIn (Fence.wide.inRound l) 0 P (Exit.then K (fun _ _ _=>False)) { tmps:=(ps.zip v).foldl (fun t (p,v)=>t.setIfInBounds p v) a.tmps,defers:=[] } W)
  (hbody:∀ (l:Nat) (v:Array vV) (s J:σ) (W:vW),Step s v J->C s W->w.heap.size+2 < W.heap.size->body.wpIn (Fence.wide.inRound l) 0 P (jzt w.heap.size W (C J)) (a₁ v) W)
  (hdone:∀ (s:σ) (W:vW),Done s->C s W->Blk W w.heap.size (.deferred (some []))->Q .normal { a with defers:={ target:=.collected w.heap.size,args:=#[] } :: a.defers } W) :
  (Code.rangeFunc g ps assign body).wpIn Fence.wide 0 P Q a w:=by
 refine wpIn_rangeFunc ?_;intro fn _;show ∃ l mark w₁ d w₁' f args w₂,(Instr.enterLoop fn a.tmps ps assign body none).run P w=_/\_
 obtain⟨o,z⟩:∃ o:LoopState->Option Code->Loop,o=fun st pe=>{ state:=st,pending:=pe,fn,tmps:=a.tmps,params:=ps,assign,body,defers:=w.heap.size }:=⟨_,rfl⟩
 obtain⟨H,O⟩:∃ H,(w.alloc (.deferred (some []))).alloc (.loop (o .ready none))=H:=⟨_,rfl⟩
 have a1:Blk H (w.heap.size+1) (.loop (o .ready none)):=by
  rw[<-O];have:=Blk.new (w.alloc (.deferred (some []))) (.loop (o .ready none));rwa [bR]at this
 have a2:Blk H w.heap.size (.deferred (some [])):=by
  rw[<-O];exact (Blk.new w _).alloc _
 have a3:Ext w H:=by rw[<-O];exact ((jaf.refl _ w).alloc _).alloc _
 have E:H.heap.size=w.heap.size+2:=by rw[<-O];simp
 refine⟨w.heap.size+1,[{ target:=.collected w.heap.size,args:=#[] }],H,{ target:=.fn (.func gf) lb,args:=#[.func (.yield (w.heap.size+1)) #[] #[]] },H,gf,
  #[.func (.yield (w.heap.size+1)) #[] #[]]++lb,H,?_,?_,?_,?_,fun h=>by simp[Fence.wide]at h,?_⟩
 ·rw[<-O,z];exact run_enterLoop_outer _ _ _ _ _
 ·simp only[resolve,hg]
  simp[go_sem]
 ·intro f' _;trivial
 ·simp[invoke,go_sem,eg]
 ·let CC:σ->vW->Prop:=fun s W=>C s W/\Blk W (w.heap.size+1) (.loop (o .ready none))/\Blk W w.heap.size (.deferred (some []))
  have a4:=IS (w.heap.size+1) CC H (fun s Wa Wb ⟨h1,h2,X⟩ e=>⟨hC s _ _ h1 (e.mono (fun b _ h=>by rw[E]at h;exact .inr (.inr h))),h2.keeps e (by rw[E];omega),X.keeps e (by rw[E];omega)⟩)
   (fun s W h=>hS s W h.1) ?_ ⟨hC s0 _ _ h0 (a3.mono (fun _ _ h=>h.elim)),a1,a2⟩
  ·refine CallsIn.mono a4 ?_
   rintro e A ⟨⟨v,rfl⟩,s,hd,h1,X,h4⟩
   obtain⟨ox,he⟩:∃ ox,(Instr.endLoop (w.heap.size+1)).run P A=.ok none (A.putObj (w.heap.size+1) ox):=⟨_,(run_endLoop (r:=o .ready none) X (by rw[z];simp)).trans (by rw[z])⟩
   exact⟨none,_,he,hdone s _ hd (hC s _ _ h1 ((jaf.onePut _ _ _).mono (fun b _ h=>.inr (.inl h)))) (h4.put_other vO _)⟩
  ·rintro s v J W Z ⟨h1,X,h4⟩ a0
   rw[E]at a0
   refine⟨_,_,_,_,run_yield X (by rw[z];exact hps s v J Z),?_⟩
   refine roundIn_of_wpIn trivial ?_;rw[show (o .ready none).tmps=a.tmps from by rw[z],show (o .ready none).params=ps from by rw[z],show (o .ready none).assign=assign from by rw[z],show (o .ready none).body=body from by rw[z]];refine hassign _ v s J W _ Z ?_
   refine⟨_,run_beginRound X (by rw[z]),?_⟩
   have a5:C s (W.putObj (w.heap.size+1) (.loop { o .ready none with state:=.busy })):=hC s _ _ h1 ((jaf.onePut _ _ _).mono (fun b _ h=>.inr (.inl h)));refine Code.wpIn_mono ?_ (hbody (w.heap.size+1) v s J _ Z a5 (by rw[World.putObj_size];exact a0));have a6:∀ (j:Option Code) (A:vW),jaf (fun b=>b≠w.heap.size/\b≠w.heap.size+1/\b≠w.heap.size+2) (W.putObj (w.heap.size+1) (.loop { o .ready none with state:=.busy })) A ->
     (Instr.endRound (w.heap.size+1) j).run P A=.ok (.bool j.isNone) (A.putObj (w.heap.size+1) (.loop (o (if j.isNone then .ready else .done) j))) /\
     Blk (A.putObj (w.heap.size+1) (.loop (o (if j.isNone then .ready else .done) j))) (w.heap.size+1) (.loop (o (if j.isNone then .ready else .done) j)) /\
     Blk (A.putObj (w.heap.size+1) (.loop (o (if j.isNone then .ready else .done) j))) w.heap.size (.deferred (some [])):=by
    intro j A hK;have hl:Blk A (w.heap.size+1) (.loop { o .ready none with state:=.busy }):=(X.put_same _).keeps hK (fun h=>h.2.1 rfl);have hd:Blk A w.heap.size (.deferred (some [])):=(h4.put_other vO _).keeps hK (fun h=>h.1 rfl)
    refine⟨?_,hl.put_same _,hd.put_other vO _⟩
    rw[run_endRound j hl,z]
   intro e a' A hq;cases e with
   | normal =>
    obtain⟨hK,hc⟩:=hq
    obtain⟨f1,f2,f3⟩:=a6 none A hK
    have k1:jaf (fun b=>b≠H.heap.size) W (W.putObj (w.heap.size+1) (.loop { o .ready none with state:=.busy })):=(jaf.onePut _ _ _).mono (fun b _ h=>by have h:b=w.heap.size+1:=h;rw[E];omega);have k2:jaf (fun b=>b≠H.heap.size) (W.putObj (w.heap.size+1) (.loop { o .ready none with state:=.busy })) A:=hK.mono (fun b _ h=>by rw[E];exact h.2.2);have k3:jaf (fun b=>b≠H.heap.size) A (A.putObj (w.heap.size+1) (.loop (o .ready none))):=(jaf.onePut _ _ _).mono (fun b _ h=>by have h:b=w.heap.size+1:=h;rw[E];omega)
    exact⟨_,_,f1,rfl,(k1.trans k2).trans k3,hC J _ _ hc ((jaf.onePut _ _ _).mono (fun b _ h=>.inr (.inl h))),f2,f3⟩
   | _=>exact hq.elim
section
attribute [local go_sem] Oper.semAt_some
abbrev EntS:=Ent (vN)
theorem Tryz.uMapSE:Tryz.prog.underlying 56=some (.map 9 47):=vY
def jf4(s:List EntS):Array Nat:=(s.map (·.2.2)).toArray
def jzf(es:List EntS)(s:List EntS)(v:Array vV)(s':List EntS):Prop:=∃ x∈ja1 es (jf4 s),v=#[str x.1]/\s'=s++[x]
def jp7(es:List EntS)(s:List EntS):Prop:=ja1 es (jf4 s)=[]
def jtZ(w:vW)(r:Nat):Array Nat:=match w.heap[r]? with | some (.mapIter _ _ s _)=>s | _=>#[]
theorem jkb{w:vW}{r:Nat}{m:Option Nat}{a b:Nat}{s:Array Nat}(h:Blk w r (.mapIter m a s b)):jtZ w r=s:=by
 unfold jtZ;rw[show w.heap[r]?=_ from h]
theorem jxY{es:List EntS}{s:List EntS}{x:EntS}(hx:x∈ja1 es (jf4 s)):(ja1 es (jf4 (s++[x]))).length < (ja1 es (jf4 s)).length:=by
 have e:ja1 es (jf4 (s++[x]))=(ja1 es (jf4 s)).filter (fun y => !(y.2.2 == x.2.2)):=by
  unfold ja1 jf4;rw[List.filter_filter];refine List.filter_congr (fun y _=>?_);simp only[List.contains_toArray,cB,bV,iO,List.contains_append]
  by_cases h1:y.2.2=x.2.2 <;> simp[h1]
 rw[e,List.length_filter_lt_length_iff_exists]
 exact⟨x,hx,by simp⟩
def KyS(bx bm ck:Nat)(es:List EntS)(W:vW):Prop:=Blk W bx (.cells #[.map (some bm)] 56)/\Blk W bm (.map (Tryz.ES.arr es) ck)
def jAZ(r bm ck:Nat)(es:List EntS)(C:List EntS->vW->Prop)(wr:vW):Prop:=∃ s,C s wr/\Blk wr r (.mapIter (some bm) ck (jf4 s) ck)
theorem jxT(bx bm ck:Nat)(es:List EntS)(hnd:(es.map (·.2.2)).Nodup)(hlt:∀ x∈es,x.2.2 < ck) :
  jze Tryz.prog 46 #[.pointer (some ⟨bx,0,none⟩)] ([]:List EntS) (jzf es) (jp7 es) (KyS bx bm ck es):=by
 intro l C W hC hS hY h0
 obtain⟨K,A⟩:=hS _ _ h0
 have c1:=K.cell (i:=0) (v:=.map (some bm)) vF;have O:=jjb Tryz.ES Tryz.uMapSE A;have E:=Hd (show C [] (W.alloc (.mapIter (some bm) ck #[] ck))from hC [] _ _ h0 (((ExtR W).alloc _).mono (fun _ _ h=>h.elim)));have HC:=Hd hC;have HS:=Hd hS;have HY:=Hd hY;have H:=Hd hnd;have J:=Hd hlt;clear hC hS hY h0 K A hnd hlt;refine callsIn_of_wp Tryz.func46 rfl trivial ?_ rfl;simp only[Tryz.ntmps46,dL,bF,cF,Nat.reduceAdd,Nat.reduceSub,dO,dN,fC,dS,cP,cZ];gi_wp2_with fail
 obtain⟨r,hr⟩:=vE W.heap.size
 have HR:=Hd hr;rw[<-hr];clear hr;gi_loopw [] (fun wr=>jAZ r bm ck es C wr) (fun wr=>(ja1 es (jtZ wr r)).length)
 case atStart=>exact⟨[],E.o,by rw[HR.o];exact Blk.new W _⟩
 case round =>
  obtain⟨s,z,Q⟩:=hrel
  obtain⟨K,A⟩:=HS.o _ _ z
  rcases jle Tryz.ES A Q J.o 0 with⟨hl0,hnx⟩ |⟨x,hxl,w2,hnx,hr2,hk2⟩
  ·have a7:Hid (jp7 es s):=hl0
   have a8:=Hd z;clear hl0 z K A Q HC HS HY H J E c1 O;gi_wp2_with fail
   refine bodyPost_end (results_none rfl _ _ _) rfl ?_
   exact⟨⟨_,rfl⟩,s,a7.o,a8.o⟩
  ·have X:r≠bm:=fun e=>by have:=A.uniq (e ▸ Q);cases this
   have Z:=A.keeps hk2 (fun e=>X e.symm);have a1:x∈es:=(cM.1 hxl).1;have a9:=jja Tryz.ES Z a1 hr2 H.o;have a2:C s w2:=HC.o s _ _ z (hk2.mono (fun b _ e=>by rw[<-HR.o];exact e))
   obtain⟨fn,tm,b0,bd,a3,a4⟩:=HY.o s #[str x.1] (s++[x]) w2 ⟨x,hxl,rfl,rfl⟩ a2 (by rw[<-HR.o];exact hr2.lt)
   have a0:(Instr.yield l #[Tryz.ES.κ x.1]).run Tryz.prog w2=.ok (.round l fn tm b0 bd) w2:=a3;have b1:=Hd hxl;have b2:=Hd (jkb Q);have a5:(jf4 s).push x.2.2=jf4 (s++[x]):=by unfold jf4;simp
   rw[a5]at hr2;have b3:=Hd hr2;have b4:=Hd a4;clear a3 a2 z K A Q HC HS H J E c1 O Z hk2 hxl a1 hr2 a4 a5 X;gi_wp2_with fail
   refine⟨rfl,b4.o.mono ?_⟩
   rintro e w5 ⟨rfl,k5,C5⟩;have a6:=Hd (b3.o.keeps k5 (fun h=>h HR.o));have b5:=Hd C5;clear C5 k5 hnx a9 a0;gi_wp2_with fail
   go_roundw
   case rel=>exact⟨_,b5.o,a6.o⟩
   case measure =>
    rw[jkb a6.o,b2.o];exact jxY b1.o
def revJ(j:Nat):List Nat:=(List.range 16).reverse.take j
theorem jtH{j:Nat}(h:j < 16):revJ (j+1)=revJ j++[15 - j]:=by
 unfold revJ
 have:(List.range 16).reverse[j]?=some (15 - j):=by
  rw[List.getElem?_reverse (by simpa using h),gQ,fA vO]
 rw[bY,this];rfl
theorem jkz{F:BSet}{w2 w3:vW}{m:Nat}{a:Act}{o:Oper}(ho:execOp a.eval o=(do pure (.value (<-convert 132 9 (.slice (some ⟨w2.heap.size,0,none⟩) 1 1)))))
  (h:jaf F (w2.alloc (.cells #[.int .u8 (m:Int)] 5)) w3) (hF:¬ F w2.heap.size) (hm:m < 16):(execOp a.eval o).run Tryz.prog w3=.ok (.value (.string (nib1 m))) w3:=by
 have z:=(Blk.new w2 (.cells #[.int .u8 (m:Int)] 5)).keeps h hF;have e:(m:Int)=((UInt8.ofNat m).toNat:Int):=by rw[jok m vO]
 have A:w3.ownsRow 0 5 1 (.slice (some ⟨w2.heap.size,0,none⟩) 1 1) 1 (jaL [UInt8.ofNat m]):=
  ⟨rfl,.inr ⟨_,1,_,rfl,cE _,z,bL _,by unfold maxLen;omega,rfl,by rw[e];rfl⟩⟩
 have E:=jbA w3 Tryz.uBytes Tryz.uU8 Tryz.uStr A;rw[ho,bX,E];rfl
end
