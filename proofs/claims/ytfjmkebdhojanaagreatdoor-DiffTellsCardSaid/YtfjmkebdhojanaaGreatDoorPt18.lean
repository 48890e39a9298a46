/- Lemmas; each is under no condition but those that it states. -/
import Derived.Test.YtfjmkebdhojanaaGreatDoorPt17
namespace Go.Proofs.YtfjmkebdhojanaaGreatDoor
set_option linter.unusedSimpArgs false
set_option linter.unusedVariables false
set_option maxRecDepth 100000
set_option maxHeartbeats 16000000
open Go Go.RowKit
def jou(n:jad)(p:vB):vB × vB:=
 if n.kind=3 then match p.data.toList with
  | []=>(⟨#[]⟩,p)
  | x :: _=>if (n.refs.getD x.toNat ⟨#[]⟩).size=0 then (⟨#[]⟩,p)else (n.refs.getD x.toNat ⟨#[]⟩,p.extract 1 p.size)
 else if n.kind=2 then if preB n.path p then (n.refs.getD 0 ⟨#[]⟩,p.extract n.path.size p.size)else (⟨#[]⟩,p)
 else (⟨#[]⟩,p)
def jjI(n:jad)(p:vB):Option vB:=
 if n.kind=1 then if n.path=p then some n.value else none
 else if n.kind=3 then if p.size=0/\n.value.size≠0 then some n.value else none
 else none
def valL:vL->vB->Option vB
 | [],_=>none
 | q :: l,p=>if q.1=p then some q.2 else valL l p
def goL(l:vL)(p:vB):Option (vL × vB):=
 if l.length<=1 then none
 else if 0 < comK l then if preB ((l.getD 0 pd).1.extract 0 (comK l)) p then some (jak (comK l) l,p.extract (comK l) p.size)else none
 else match p.data.toList with
  | []=>none
  | x :: _=>if (cutL x.toNat l).length=0 then none else some (jak 1 (cutL x.toNat l),p.extract 1 p.size)
def bigs(t:vB):vM:=if t.size < 32 then []else [t]
def sumL:vL->Nat
 | []=>0
 | q :: l=>q.1.size+sumL l
theorem jlp:∀ {l:vL} {p v:vB},valL l p=some v->(p,v)∈l
 | q :: l,p,v,h=>by
  unfold valL at h;split at h
  ·rename_i e
   obtain rfl:=bO h;subst e;exact bG
  ·exact bD _ (jlp h)
theorem jp3:∀ {l:vL} {p v:vB},(l.Pairwise fun p q=>Lt p.l q.l)->(p,v)∈l->valL l p=some v
 | q :: l,p,v,hl,h=>by
  rw[cW]at hl;unfold valL;rcases bM.1 h with h | h
  ·subst h;rw[if_pos rfl]
  ·rw[if_neg (fun e=>by have:=hl.1 _ h;rw[show q.l=p.data.toList from congrArg (fun x:vB=>x.data.toList) e]at this;exact lt_irrefl _ this),jp3 hl.2 h]
theorem jgV{l:vL}{p:vB}(h:∀ q∈l,q.1≠p):valL l p=none:=by
 cases hv:valL l p with
 | none=>rfl
 | some v=>exact absurd rfl (h _ (jlp hv))
theorem jp4{l m:vL}{p q:vB}(hl:l.Pairwise fun p q=>Lt p.l q.l)(hm:m.Pairwise fun p q=>Lt p.l q.l)(h:∀ v,(p,v)∈l↔(q,v)∈m):valL l p=valL m q:=by
 cases hv:valL l p with
 | some v=>exact (jp3 hm ((h v).1 (jlp hv))).symm
 | none =>
  cases hw:valL m q with
  | none=>rfl
  | some v=>rw[jp3 hl ((h v).2 (jlp hw))]at hv;cases hv
theorem jds(a p:vB):preB a p=true↔∃ r,p.data.toList=a.data.toList++r:=by
 unfold preB;rw[List.isPrefixOf_iff_prefix]
 exact⟨fun ⟨r,h⟩=>⟨r,h.symm⟩,fun ⟨r,h⟩=>⟨r,h.symm⟩⟩
theorem jdR(b:vB)(k:Nat):(b.extract k b.size).data.toList=b.data.toList.drop k:=jcR b k b.size (bL _)
theorem jaS(b:vB):b.data.toList.length=b.size:=rfl
theorem jpV(k:Nat):∀ l:vL,sumL (jak k l)<=sumL l
 | []=>bL _
 | q :: l=>by
  have:=jpV k l
  show (q.1.extract k q.1.size).size+sumL (jak k l)<=q.1.size+sumL l;rw[ja1];omega
theorem jjg{k:Nat}(hk:0 < k):∀ {l:vL},l≠[]->(∀ q∈l,k<=q.1.size)->sumL (jak k l) < sumL l
 | q :: l,_,h=>by
  have:=jpV k l
  have:=h q bG
  show (q.1.extract k q.1.size).size+sumL (jak k l) < q.1.size+sumL l;rw[ja1];omega
theorem jkj(g:Pair->Bool):∀ l:vL,sumL (l.filter g)<=sumL l
 | []=>bL _
 | q :: l=>by
  have:=jkj g l
  rw[dR];show _<=q.1.size+sumL l;split
  ·show q.1.size+sumL _<=_;omega
  ·omega
structure KidP(f:Nat)(l:vL)(p:vB)(m:vL)(q:vB):Prop where
 rows:jap f m
 ne:m≠[]
 step:jou (jar (jac (f+1)) l) p=(refB (jac (f+1) m).text,q)
 less:q.size < p.size
 valid:jaB q=true
 flat:∀ x∈jav (jac (f+1) m),32<=x.size->x∈jav (jac (f+1+1) l)
 find:valL m q=valL l p
 sum:sumL m < sumL l
 no:jjI (jar (jac (f+1)) l) p=none
theorem jdy{l:vL}(h:0 < l.length):l.getD 0 pd∈l:=by rw[bH,bA h];exact dD _
theorem jfk{l:vL}:((l.getD 0 pd).1.extract 0 (comK l)).data.toList=(l.getD 0 pd).l.take (comK l):=by
 rw[dB,fM,dZ];simp
theorem jdi{f:Nat}{l:vL}(h:jap f l)(h2:2<=l.length):((l.getD 0 pd).1.extract 0 (comK l)).size=comK l:=by
 have:=(jbi h h2 _ (jdy vO)).2
 rw[cJ];omega
theorem jsm{f:Nat}{l:vL}{p:vB}{m:vL}{q:vB}(h:jap (f+1) l)(J:jaB p=true)(o:goL l p=some (m,q)):KidP f l p m q:=by
 unfold goL at o
 by_cases h1:l.length<=1
 ·rw[if_pos h1]at o;cases o
 rw[if_neg h1]at o;have K:2<=l.length:=vO
 have A:=jbi h K
 by_cases hk:0 < comK l
 ·rw[if_pos hk]at o
  by_cases hpre:preB ((l.getD 0 pd).1.extract 0 (comK l)) p=true
  case neg=>rw[if_neg hpre]at o;cases o
  rw[if_pos hpre]at o
  obtain⟨rfl,rfl⟩:=Prod.mk.inj (bO o)
  have E:jap f (jak (comK l) l):=(jcb (comK l) h (fun p J q X=>(A p J).1.trans (A q X).1.symm) (fun p J=>(A p J).2)).mono vO;have H:jak (comK l) l≠[]:=fun e=>by have:=jaI (comK l) l;rw[e]at this;simp at this;omega
  have eB:jas (jac (f+1)) l=jbp (jac (f+1) (jak (comK l) l)):=by unfold jas;rw[if_neg vO,if_pos hk]
  have Z:jar (jac (f+1)) l=⟨2,(l.getD 0 pd).1.extract 0 (comK l),⟨#[]⟩,refB (jac (f+1) (jak (comK l) l)).text :: jan 15⟩:=by unfold jar;rw[if_neg vO,if_neg vO,if_pos hk]
  obtain⟨r,hr⟩:=(jds _ _).1 hpre
  have a4:comK l<=p.size:=by
   rw[<-jaS p,hr,bC,jaS,jdi h K];omega
  refine⟨E,H,?_,by rw[ja1];omega,jbw J _ _,jhT H E (by rw[eB];exact fun _ hh=>hh),?_,jjg hk (fun e=>by rw[e]at K;simp at K) (fun q X=>(A q X).2),by rw[Z];rfl⟩
  ·rw[Z]
   unfold jou;rw[if_neg (show ¬(2:Nat)=3 by decide),if_pos rfl,if_pos hpre];show (_,p.extract ((l.getD 0 pd).1.extract 0 (comK l)).size p.size)=_;rw[jdi h K];rfl
  ·refine jp4 E.rise h.rise fun v=>⟨fun O=>?_,fun O=>?_⟩
   ·obtain⟨x,hx,e⟩:=bK.1 O
    obtain⟨e1,e2⟩:=Prod.mk.inj e
    have:x=(p,v):=by
     refine Prod.ext (jbo ?_) e2;have e3:x.1.data.toList.drop (comK l)=p.data.toList.drop (comK l):=by rw[<-jdR,e1,jdR]
     have e4:x.1.data.toList.take (comK l)=p.data.toList.take (comK l):=by
      rw[show x.1.data.toList=x.l from rfl,(A x hx).1, <-jfk,hr,gL (by rw[jaS,jdi h K];exact bL _),bN (by rw[jaS,jdi h K];exact bL _)]
     show x.1.data.toList=p.data.toList;rw[<-cV (comK l) x.1.data.toList,e3,e4,cV]
    rw[<-this];exact hx
   ·exact bK.2 ⟨_,O,rfl⟩
 ·rw[if_neg hk]at o
  cases hpl:p.data.toList with
  | nil=>rw[hpl]at o;cases o
  | cons x r =>
   rw[hpl]at o
   by_cases hc:(cutL x.toNat l).length=0
   ·have o:(if (cutL x.toNat l).length=0 then none else some (jak 1 (cutL x.toNat l),p.extract 1 p.size))=some (m,q):=o
    rw[if_pos hc]at o;cases o
   have o:(if (cutL x.toNat l).length=0 then none else some (jak 1 (cutL x.toNat l),p.extract 1 p.size))=some (m,q):=o;rw[if_neg hc]at o
   obtain⟨rfl,rfl⟩:=Prod.mk.inj (bO o)
   have E:jap f (jak 1 (cutL x.toNat l)):=jcU x.toNat h;have H:jak 1 (cutL x.toNat l)≠[]:=fun e=>by have:=jaI 1 (cutL x.toNat l);rw[e]at this;simp at this;exact hc this.symm
   have hx:x.toNat < 16:=jfn (p:=(p,p)) J hpl;have eB:jas (jac (f+1)) l=(List.range 16).flatMap fun i=>if (cutL i l).length=0 then []else jbp (jac (f+1) (jak 1 (cutL i l))):=by unfold jas;rw[if_neg vO,if_neg hk]
   obtain⟨rs,Q⟩:=vE ((List.range 16).map fun i=>if (cutL i l).length=0 then (⟨#[]⟩:vB)else refB (jac (f+1) (jak 1 (cutL i l))).text)
   obtain⟨va,a3⟩:=vE (if (l.getD 0 pd).1.size=0 then (l.getD 0 pd).2 else ⟨#[]⟩)
   have Z:jar (jac (f+1)) l=⟨3,⟨#[]⟩,va,rs⟩:=by rw[Q,a3];unfold jar;rw[if_neg vO,if_neg vO,if_neg hk]
   have a0:rs.getD x.toNat ⟨#[]⟩=refB (jac (f+1) (jak 1 (cutL x.toNat l))).text:=by rw[Q,jfI _ hx,if_neg hc]
   clear Q a3;have a4:1<=p.size:=by rw[<-jaS p,hpl];simp
   have a1:∀ q∈cutL x.toNat l,1<=q.1.size:=fun q X=>by
    obtain⟨_,a,r,e,_⟩:=jbA X
    rw[<-jaS,show q.1.data.toList=a :: r from e];simp
   have a2:sumL (jak 1 (cutL x.toNat l)) < sumL l:=bQ (jjg (iZ) (fun e=>hc (by rw[e];rfl)) a1) (jkj _ _)
   refine⟨E,H,?_,by rw[ja1];omega,jbw J _ _,jhT H E (fun y hy=>?_),?_,a2,?_⟩
   ·rw[Z]
    unfold jou;rw[if_pos rfl,hpl];show (if (rs.getD x.toNat ⟨#[]⟩).size=0 then _ else (rs.getD x.toNat ⟨#[]⟩,_))=_;rw[a0,if_neg (jlc E H)]
   ·rw[eB]
    exact cU.2 ⟨x.toNat,fA.2 hx,by rw[if_neg hc];exact hy⟩
   ·refine jp4 E.rise h.rise fun v=>⟨fun O=>?_,fun O=>?_⟩
    ·obtain⟨y,hy,e⟩:=bK.1 O
     obtain⟨a5,a,r',e3,e4⟩:=jbA hy
     obtain⟨e1,e2⟩:=Prod.mk.inj e
     have:y=(p,v):=by
      refine Prod.ext (jbo ?_) e2;have e5:y.1.data.toList.drop 1=p.data.toList.drop 1:=by rw[<-jdR,e1,jdR]
      have e3:y.1.data.toList=a :: r':=e3;show y.1.data.toList=p.data.toList;rw[e3,hpl]at e5 ⊢;simp at e5;rw[e5,dS.1 e4]
     rw[<-this];exact a5
    ·refine bK.2 ⟨(p,v),?_,rfl⟩
     refine cP.2 ⟨O,?_⟩;unfold jeT;show (match p.data.toList with | []=>false | a :: _=>a.toNat == x.toNat)=true;rw[hpl];simp
   ·rw[Z]
    unfold jjI;rw[if_neg (show ¬(3:Nat)=1 by decide),if_pos rfl,if_neg (fun e=>by have:=e.1;omega)]
theorem jsl{f:Nat}{l:vL}{p:vB}(h:jap f l)(hp:jaB p=true)(o:goL l p=none):jou (jar (jac f) l) p=(⟨#[]⟩,p)/\jjI (jar (jac f) l) p=valL l p:=by
 by_cases h0:l.length=0
 ·have e:jar (jac f) l=jaH:=by unfold jar;rw[if_pos h0]
  rw[e,bE h0]
  exact⟨rfl,rfl⟩
 by_cases h1:l.length=1
 ·have e:jar (jac f) l=⟨1,(l.getD 0 pd).1,(l.getD 0 pd).2,jan 16⟩:=by unfold jar;rw[if_neg h0,if_pos h1]
  rw[e]
  obtain⟨q,rfl⟩:=fO.1 h1
  exact⟨rfl,by unfold jjI valL valL;rfl⟩
 have h2:2<=l.length:=vO
 have K:=jbi h h2;unfold goL at o;rw[if_neg vO]at o
 by_cases hk:0 < comK l
 ·rw[if_pos hk]at o
  have e:jar (jac f) l=⟨2,(l.getD 0 pd).1.extract 0 (comK l),⟨#[]⟩,refB (jac f (jak (comK l) l)).text :: jan 15⟩:=by unfold jar;rw[if_neg h0,if_neg h1,if_pos hk]
  have A:¬ preB ((l.getD 0 pd).1.extract 0 (comK l)) p=true:=fun hh=>by rw[if_pos hh]at o;cases o
  rw[e]
  refine⟨?_,?_⟩
  ·unfold jou
   rw[if_neg (show ¬(2:Nat)=3 by decide),if_pos rfl,if_neg A]
  ·refine (Eq.trans ?_ (jgV fun q O e=>?_).symm)
   ·rfl
   ·refine A ((jds _ _).2 ⟨p.data.toList.drop (comK l),?_⟩)
    rw[jfk, <-(K q O).1,show q.l=p.data.toList from congrArg (fun x:vB=>x.data.toList) e,cV]
 ·rw[if_neg hk]at o
  obtain⟨rs,E⟩:=vE ((List.range 16).map fun i=>if (cutL i l).length=0 then (⟨#[]⟩:vB)else refB (jac f (jak 1 (cutL i l))).text)
  have e:jar (jac f) l=⟨3,⟨#[]⟩,if (l.getD 0 pd).1.size=0 then (l.getD 0 pd).2 else ⟨#[]⟩,rs⟩:=by rw[E];unfold jar;rw[if_neg h0,if_neg h1,if_neg hk]
  have Q:∀ i,i < 16->(cutL i l).length=0->rs.getD i ⟨#[]⟩=⟨#[]⟩:=fun i Z H=>by rw[E,jfI _ Z,if_pos H]
  clear E;rw[e];cases hpl:p.data.toList with
  | nil =>
   have J:p.size=0:=by rw[<-jaS p,hpl];rfl
   refine⟨?_,?_⟩
   ·unfold jou
    rw[if_pos rfl,hpl]
   ·unfold jjI
    rw[if_neg (show ¬(3:Nat)=1 by decide),if_pos rfl];have a1:p=⟨#[]⟩:=jbo (by rw[hpl]);have hm:=jdy (l:=l) vO
    obtain⟨_,_,_,s4,_⟩:=h.size _ hm
    by_cases hz:(l.getD 0 pd).1.size=0
    ·simp only[hz,if_true]
     rw[if_pos ⟨J,by omega⟩];refine (jp3 h.rise ?_).symm;have a0:(l.getD 0 pd).1.data.toList=[]:=bE hz
     have:(p,(l.getD 0 pd).2)=l.getD 0 pd:=Prod.ext (by
      show p=(l.getD 0 pd).1;exact jbo (by rw[hpl,a0])) rfl
     rw[this];exact hm
    ·simp only[if_neg hz]
     rw[if_neg (fun e=>e.2 rfl)];refine (jgV fun q O e=>?_).symm
     obtain⟨i,Z⟩:=iL O
     cases i with
     | zero =>
      have:l.getD 0 pd=q:=by rw[bH,Z];rfl
      rw[this,e]at hz;exact hz J
     | succ i =>
      obtain⟨a,ha⟩:∃ a,l[0]?=some a:=⟨_,bA vO⟩
      have:=jcc h.rise vO ha Z
      rw[show q.l=[]from(congrArg (fun x:vB=>x.data.toList) e).trans hpl]at this;exact not_lt_nil _ this
  | cons x r =>
   rw[hpl]at o;have o:(if (cutL x.toNat l).length=0 then none else some (jak 1 (cutL x.toNat l),p.extract 1 p.size))=none:=o;have H:(cutL x.toNat l).length=0:=by
    by_cases H:(cutL x.toNat l).length=0
    ·exact H
    ·rw[if_neg H]at o;cases o
   have hx:x.toNat < 16:=jfn (p:=(p,p)) hp hpl;have J:1<=p.size:=by rw[<-jaS p,hpl];simp
   refine⟨?_,?_⟩
   ·unfold jou
    rw[if_pos rfl,hpl];show (if (rs.getD x.toNat ⟨#[]⟩).size=0 then _ else _)=_;rw[Q _ hx H,if_pos (show (⟨#[]⟩:vB).size=0 from rfl)]
   ·unfold jjI
    rw[if_neg (show ¬(3:Nat)=1 by decide),if_pos rfl,if_neg (fun e=>by have:=e.1;omega)];refine (jgV fun q O e=>?_).symm;have X:q∈cutL x.toNat l:=cP.2 ⟨O,by
     unfold jeT;rw[show q.1.data.toList=x :: r from(congrArg (fun x:vB=>x.data.toList) e).trans hpl];simp⟩
    rw[bE H]at X;cases X
theorem jjz:∀ (f g:Nat) (l:vL),jap f l->f<=g->jar (jac f) l=jar (jac g) l/\jac (f+1) l=jac (g+1) l:=by
 have E:∀ (f g:Nat) (l:vL),jar (jac f) l=jar (jac g) l->jas (jac f) l=jas (jac g) l->jar (jac f) l=jar (jac g) l/\jac (f+1) l=jac (g+1) l:=fun f g l A H=>⟨A,by
  show PT.mk (jaQ (jar (jac f) l)) (jas (jac f) l)=PT.mk (jaQ (jar (jac g) l)) (jas (jac g) l);rw[A,H]⟩
 intro f;induction f with
 | zero =>
  intro g l h Q;have A:=jbI h;refine E _ _ _ ?_ ?_
  ·unfold jar
   by_cases h0:l.length=0
   ·rw[if_pos h0,if_pos h0]
   ·rw[if_neg h0,if_neg h0,if_pos vO,if_pos vO]
  ·unfold jas;rw[if_pos A,if_pos A]
 | succ f ih =>
  intro g l h Q
  obtain⟨g,rfl⟩:∃ k,g=k+1:=⟨g - 1,by omega⟩
  by_cases A:l.length<=1
  ·refine E _ _ _ ?_ ?_
   ·unfold jar
    by_cases h0:l.length=0
    ·rw[if_pos h0,if_pos h0]
    ·rw[if_neg h0,if_neg h0,if_pos vO,if_pos vO]
   ·unfold jas;rw[if_pos A,if_pos A]
  have H:2<=l.length:=vO
  have o:=jbi h H;have K:0 < comK l->jac (f+1) (jak (comK l) l)=jac (g+1) (jak (comK l) l):=fun e =>
   (ih g _ ((jcb (comK l) h (fun p J q X=>(o p J).1.trans (o q X).1.symm) (fun p J=>(o p J).2)).mono vO) vO).2
  have O:∀ i,jac (f+1) (jak 1 (cutL i l))=jac (g+1) (jak 1 (cutL i l)):=fun i=>(ih g _ (jcU i h) vO).2;refine E _ _ _ ?_ ?_
  ·have Z:¬ l.length=0:=vO
   have n1:¬ l.length=1:=vO
   unfold jar;simp only[if_neg Z,if_neg n1]
   by_cases e:0 < comK l
   ·rw[if_pos e,if_pos e,K e]
   ·rw[if_neg e,if_neg e]
    simp only[O]
  ·unfold jas
   simp only[if_neg A]
   by_cases e:0 < comK l
   ·rw[if_pos e,if_pos e,K e]
   ·rw[if_neg e,if_neg e]
    simp only[O]
theorem jkt(t:vB):(bigs t).length<=1:=by unfold bigs;split <;> simp
theorem jvg{f:Nat}{l:vL}(h:jap f l){x:vB}(hx:x∈jav (jac (f+1) l)):x=(jac (f+1) l).text\/32<=x.size:=by
 have o:jav (jac (f+1) l)=jaQ (jar (jac f) l) :: jaA (jas (jac f) l):=by
  show jav (.mk (jaQ (jar (jac f) l)) (jas (jac f) l))=_;rw[jav]
 rw[o]at hx;rcases bM.1 hx with e | hx
 ·exact .inl e
 ·exact .inr ((jwF f l h).told x hx).1
theorem jp2{l:vL}(k:vB):valL (jaP l) (jbv k)=valL l k:=by
 have o:∀ {a b:vB},jbv a=jbv b->a=b:=fun {a b} e=>jbo (jk5 (by
  have:=congrArg (fun x:vB=>x.data.toList) e
  simpa [jbv]using this))
 induction l with
 | nil=>rfl
 | cons q l ih =>
  show (if jbv q.1=jbv k then some q.2 else valL (jaP l) (jbv k))=if q.1=k then some q.2 else valL l k
  by_cases e:q.1=k
  ·rw[if_pos (by rw[e]),if_pos e]
  ·rw[if_neg (fun h=>e (o h)),if_neg e,ih]
theorem jk7{a p:vB}(h:preB a p=true):a.size<=p.size:=by
 obtain⟨s,e⟩:=(jds _ _).1 h
 rw[<-jaS p,e,bC,jaS];omega
theorem jgy{p:vB}{x:vU}{t:vN}(h:p.data.toList=x :: t):∃ h0:0 < p.size,p[0]=x:=by
 obtain⟨⟨l⟩⟩:=p
 have h:l=x :: t:=h;subst h
 exact⟨Nat.succ_pos _,rfl⟩
inductive PA where
 | nil
 | no
 | leaf (path value:vB)
 | ext (path:vB) (next:PA)
 | br (value:vB) (kids:Nat->PA)
def PA.isNil:PA->Bool | .nil=>true | _=>false
def PA.isNo:PA->Bool | .no=>true | _=>false
def PA.isBr:PA->Bool | .br _ _=>true | _=>false
def jcj(a:vB)(P:PA):PA:=if a.size=0 then P else match P with
 | .leaf q v=>.leaf (a++q) v
 | .ext q n=>.ext (a++q) n
 | .br v ks=>.ext a (.br v ks)
 | _=>.no
def setK(ks:Nat->PA)(i:Nat)(P:PA):Nat->PA:=fun j=>if j=i then P else ks j
def jau(p:vB):Nat:=(p.data.toList.headD 0).toNat
def jbC(p:vB):vB:=p.extract 1 p.size
def addK:PA->vB->vB->PA
 | .br v ks,p,u=>if p.size=0 then .br u ks else .br v (setK ks (jau p) (.leaf (jbC p) u))
 | P,_,_=>P
theorem jcW(v:vB)(ks:Nat->PA)(p u:vB):addK (.br v ks) p u=if p.size=0 then .br u ks else .br v (setK ks (jau p) (.leaf (jbC p) u)):=rfl
theorem ff:¬(false=true):=by decide
def putP:PA->vB->vB->PA
 | .nil,p,u=>.leaf p u
 | .no,p,u=>.leaf p u
 | .leaf q v,p,u=>if p=q then .leaf p u else
   jcj (p.extract 0 (jal q p)) (addK (addK (.br ⟨#[]⟩ fun _=>.nil) (q.extract (jal q p) q.size) v) (p.extract (jal q p) p.size) u)
 | .ext q n,p,u=>if jal q p=q.size then jcj q (putP n (p.extract (jal q p) p.size) u)else
   jcj (p.extract 0 (jal q p)) (addK (.br ⟨#[]⟩ (setK (fun _=>.nil) (jau (q.extract (jal q p) q.size)) (jcj (q.extract (jal q p+1) q.size) n))) (p.extract (jal q p) p.size) u)
 | .br v ks,p,u=>if p.size=0 then .br u ks else .br v (setK ks (jau p) (putP (ks (jau p)) (jbC p) u))
def idxK(ks:Nat->PA):List Nat:=(List.range 16).filter fun i => !(ks i).isNil
def jdt(v:vB)(ks:Nat->PA):PA:=match idxK ks with
 | []=>if v.size=0 then .no else .leaf ⟨#[]⟩ v
 | [i]=>if v.size=0 then jcj ⟨#[UInt8.ofNat i]⟩ (ks i)else .br v ks
 | _=>.br v ks
def unNo(P:PA):PA:=if P.isNo then .nil else P
def jbT:PA->vB->PA
 | .nil,_=>.no
 | .no,_=>.no
 | .leaf q v,p=>if p=q then .no else .leaf q v
 | .ext q n,p=>if preB q p then jcj q (jbT n (p.extract q.size p.size))else .ext q n
 | .br v ks,p=>if p.size=0 then jdt ⟨#[]⟩ ks else if (ks (jau p)).isNil then .br v ks else jdt v (setK ks (jau p) (unNo (jbT (ks (jau p)) (jbC p))))
def getL:PA->vN->Option vB
 | .nil,_=>none
 | .no,_=>none
 | .leaf q v,p=>if q.data.toList=p then some v else none
 | .ext q n,p=>if q.data.toList.isPrefixOf p then getL n (p.drop q.data.toList.length)else none
 | .br v _,[]=>if v.size=0 then none else some v
 | .br _ ks,x :: t=>getL (ks x.toNat) t
def TwoK(v:vB)(ks:Nat->PA):Prop:=(∃ i j,i≠j/\(ks i).isNil=false/\(ks j).isNil=false)\/(v.size≠0/\∃ i,(ks i).isNil=false)
def CanP:PA->Prop
 | .nil=>False
 | .no=>False
 | .leaf q v=>jaB q=true/\v.size≠0
 | .ext q n=>q.size≠0/\jaB q=true/\n.isBr=true/\CanP n
 | .br v ks=>(∀ i,(ks i).isNil=false->i < 16)/\(∀ i,(ks i).isNil=false->CanP (ks i))/\TwoK v ks
theorem jlK(a b:vB):(a++b).data.toList=a.data.toList++b.data.toList:=by
 simp[cZ]
theorem jbF{P:PA}(h:P.isNil=true):P=.nil:=by cases P <;> first | rfl | cases h
theorem jsz{P:PA}(h:P.isNo=true):P=.no:=by cases P <;> first | rfl | cases h
theorem jnK{P:PA}(h:CanP P):P.isNil=false:=by cases P <;> first | rfl | exact h.elim
theorem jzz{P:PA}(h:CanP P):P.isNo=false:=by cases P <;> first | rfl | exact h.elim
theorem jcl{a p:vN}:a.isPrefixOf p=true↔∃ r,p=a++r:=by
 rw[List.isPrefixOf_iff_prefix]
 exact⟨fun ⟨r,h⟩=>⟨r,h.symm⟩,fun ⟨r,h⟩=>⟨r,h.symm⟩⟩
theorem jmJ{a p:vN}(h:a.isPrefixOf p=false):∀ r,p≠a++r:=fun r e=>by
 rw[jcl.2 ⟨r,e⟩]at h;cases h
theorem jfR{a:vB}(h:a.size=0):a.data.toList=[]:=bE (by rw[jaS];exact h)
theorem jco{a:vB}(h:a.size≠0):∃ x t,a.data.toList=x :: t:=by
 cases e:a.data.toList with
 | nil=>rw[<-jaS,e]at h;exact (h rfl).elim
 | cons x t=>exact⟨x,t,rfl⟩
theorem jbL{p:vB}{x:vU}{t:vN}(h:p.data.toList=x :: t):jau p=x.toNat/\(jbC p).data.toList=t:=by
 refine⟨by unfold jau;rw[h];rfl,?_⟩
 unfold jbC;rw[jdR,h];rfl
theorem jde{x y:vU}(h:x≠y):x.toNat≠y.toNat:=fun e=>h (dS.1 e)
theorem jfJ(a:vB)(P:PA)(p:vN):getL (jcj a P) p=if a.data.toList.isPrefixOf p then getL P (p.drop a.data.toList.length)else none:=by
 unfold jcj
 by_cases h0:a.size=0
 ·rw[if_pos h0,jfR h0];simp
 rw[if_neg h0];cases hp:a.data.toList.isPrefixOf p with
 | true =>
  obtain⟨r,rfl⟩:=jcl.1 hp
  rw[if_pos rfl,fW];cases P with
  | nil=>rfl
  | no=>rfl
  | leaf q v=>simp only[getL,jlK,gT]
  | ext q n =>
   simp only[getL,jlK];have e:(a.data.toList++q.data.toList).isPrefixOf (a.data.toList++r)=q.data.toList.isPrefixOf r:=by
    rw[jB,jcl,jcl]
    exact⟨fun ⟨s,e⟩=>⟨s,by rw[cE]at e;exact iA e⟩,fun ⟨s,e⟩=>⟨s,by rw[e,cE]⟩⟩
   rw[e,bC, <-List.drop_drop,fW]
  | br v ks =>
   show (if a.data.toList.isPrefixOf (a.data.toList++r)=true then getL (.br v ks) ((a.data.toList++r).drop _)else none)=_;rw[hp,if_pos rfl,fW]
 | false =>
  have o:=jmJ hp;rw[if_neg ff];cases P with
  | nil=>rfl
  | no=>rfl
  | leaf q v =>
   simp only[getL,jlK];rw[if_neg (fun e=>o _ e.symm)]
  | ext q n =>
   simp only[getL,jlK];rw[if_neg];intro e
   obtain⟨s,e⟩:=jcl.1 e
   rw[cE]at e;exact o _ e
  | br v ks =>
   show (if a.data.toList.isPrefixOf p=true then _ else none)=_;rw[hp];rfl
theorem jhX(v:vB)(ks:Nat->PA)(i:Nat)(P:PA)(x:vU)(t:vN):getL (.br v (setK ks i P)) (x :: t)=if x.toNat=i then getL P t else getL (.br v ks) (x :: t):=by
 show getL (setK ks i P x.toNat) t=if x.toNat=i then _ else getL (ks x.toNat) t
 unfold setK
 by_cases h:x.toNat=i
 ·rw[if_pos h,if_pos h]
 ·rw[if_neg h,if_neg h]
theorem jnZ(v:vB)(ks:Nat->PA)(p u:vB)(hu:u.size≠0)(hk:∀ x t,p.data.toList=x :: t->(ks x.toNat).isNil=true)(q:vN) :
  getL (addK (.br v ks) p u) q=if q=p.data.toList then some u else getL (.br v ks) q:=by
 rw[jcW]
 by_cases h0:p.size=0
 ·rw[if_pos h0,jfR h0]
  cases q with
  | nil=>simp[getL,hu]
  | cons x t=>rfl
 ·rw[if_neg h0]
  obtain⟨x,t,o⟩:=jco h0
  obtain⟨E,H⟩:=jbL o
  have A:=jbF (hk x t o);rw[E,o];cases q with
  | nil=>simp[getL]
  | cons y s =>
   rw[jhX]
   by_cases hy:y=x
   ·subst hy
    rw[if_pos rfl];simp only[getL,H,A,List.cons.injEq,true_and]
    by_cases e:t=s
    ·rw[if_pos e,if_pos e.symm]
    ·rw[if_neg e,if_neg (fun h=>e h.symm)]
   ·rw[if_neg (jde hy),if_neg (fun e=>hy (List.cons.inj e).1)]
theorem jcQ(a b:vN):∃ a' b',a=a.take (jaY a b)++a'/\b=a.take (jaY a b)++b'/\a'=a.drop (jaY a b)/\b'=b.drop (jaY a b)/\(∀ x s y t,a'=x :: s->b'=y :: t->x≠y):=by
 obtain⟨o,H,J⟩:=jbf a b
 refine⟨_,_,(cV _ _).symm,?_,rfl,rfl,?_⟩
 ·rw[o,cV]
 ·intro x s y t A E e
  have h:=jih a b;rw[A,E,e]at h;simp[jaY]at h
theorem jnQ{a b:vN}(h:jaY a b=a.length):b=a++b.drop a.length:=by
 obtain⟨e,o,A⟩:=jbf a b
 rw[h,cL]at e
 have:=(cV a.length b).symm
 rw[<-e]at this;exact this
theorem jua(p:vB)(k:Nat):(p.extract 0 k).data.toList=p.data.toList.take k:=by
 simp[dB]
theorem jn0:∀ (P:PA),(CanP P\/P=.no\/P=.nil)->∀ (p u:vB),u.size≠0->∀ q,getL (putP P p u) q=if q=p.data.toList then some u else getL P q
 | .nil,_,p,u,_,q=>by
  show (if p.data.toList=q then some u else none)=if q=p.data.toList then some u else none
  by_cases e:q=p.data.toList
  ·rw[if_pos e,if_pos e.symm]
  ·rw[if_neg e,if_neg (fun h=>e h.symm)]
 | .no,_,p,u,_,q=>by
  show (if p.data.toList=q then some u else none)=if q=p.data.toList then some u else none
  by_cases e:q=p.data.toList
  ·rw[if_pos e,if_pos e.symm]
  ·rw[if_neg e,if_neg (fun h=>e h.symm)]
 | .leaf a v,h,p,u,hu,q=>by
  have hc:v.size≠0:=by
   rcases h with h | h | h
   ·exact h.2
   ·cases h
   ·cases h
  unfold putP
  by_cases hpa:p=a
  ·rw[if_pos hpa]
   subst hpa;simp only[getL]
   by_cases e:q=p.data.toList
   ·rw[if_pos e,if_pos e.symm]
   ·rw[if_neg e,if_neg (fun h=>e h.symm),if_neg (fun h=>e h.symm)]
  rw[if_neg hpa,jfJ,jua]
  obtain⟨X,H,J,hb,A,o,a2⟩:=jcQ a.data.toList p.data.toList
  obtain⟨O,Z,a3⟩:=jbf a.data.toList p.data.toList
  obtain⟨n,hn⟩:=vE (jal a p)
  have a6:jaY a.data.toList p.data.toList=n:=hn.symm;rw[a6]at J hb A o O Z a3;rw[<-hn, <-O]
  obtain⟨c,a0⟩:=vE (a.data.toList.take n)
  rw[<-a0]at J hb ⊢;have b1:c.length=n:=by rw[a0,cI];omega
  have b2:¬(X=[]/\H=[]):=by
   rintro⟨rfl,rfl⟩
   exact hpa (jbo (by rw[hb,J]))
  have Q:(a.extract n a.size).data.toList=X:=by rw[jdR,A]
  have E:(p.extract n p.size).data.toList=H:=by rw[jdR,o]
  obtain⟨x1,e1⟩:∃ x,x=a.extract n a.size:=⟨_,rfl⟩
  obtain⟨x2,e2⟩:∃ x,x=p.extract n p.size:=⟨_,rfl⟩
  rw[<-e1]at Q ⊢;rw[<-e2]at E ⊢;have a4:∀ r,getL (addK (addK (.br ⟨#[]⟩ fun _=>.nil) x1 v) x2 u) r=if r=H then some u else if r=X then some v else none:=by
   intro r;have a5:∃ v1 a1,addK (.br ⟨#[]⟩ fun _=>.nil) x1 v=.br v1 a1/\∀ x t,x2.data.toList=x :: t->(a1 x.toNat).isNil=true:=by
    rw[jcW]
    by_cases h0:x1.size=0
    ·rw[if_pos h0];exact⟨_,_,rfl,fun _ _ _=>rfl⟩
    ·rw[if_neg h0]
     refine⟨_,_,rfl,fun y t hy=>?_⟩
     obtain⟨x,s,hx⟩:=jco h0
     unfold setK;rw[(jbL hx).1,if_neg (jde (Ne.symm (a2 x s y t (by rw[<-Q,hx]) (by rw[<-E,hy]))))];rfl
   obtain⟨v1,a1,h1,h2⟩:=a5
   rw[h1,jnZ v1 a1 x2 u hu h2, <-h1,jnZ _ _ x1 v hc (fun _ _ _=>rfl),Q,E]
   congr 1
   congr 1
   cases r <;> rfl
  cases hp:c.isPrefixOf q with
  | false =>
   have K:=jmJ hp;rw[if_neg ff,if_neg (fun e=>K H (e.trans hb))];show none=if a.data.toList=q then some v else none
   rw[if_neg (fun e=>K X (e.symm.trans J))]
  | true =>
   obtain⟨r,rfl⟩:=jcl.1 hp
   rw[if_pos rfl,fW,a4];show _=if c++r=p.data.toList then some u else if a.data.toList=c++r then some v else none
   rw[hb,J];simp only[gT]
   congr 1
   by_cases e:r=X
   ·rw[if_pos e,if_pos e.symm]
   ·rw[if_neg e,if_neg (fun h=>e h.symm)]
 | .ext a n,h,p,u,hu,q=>by
  have hc:CanP (.ext a n):=by
   rcases h with h | h | h
   ·exact h
   ·cases h
   ·cases h
  have ih:=jn0 n (.inl hc.2.2.2);unfold putP
  by_cases hf:jal a p=a.size
  ·rw[if_pos hf,jfJ]
   have hb:=jnQ (a:=a.data.toList) (b:=p.data.toList) (by rw[jaS];exact hf)
   obtain⟨H,o⟩:∃ H,H=p.data.toList.drop a.data.toList.length:=⟨_,rfl⟩
   rw[<-o]at hb;have hx:(p.extract (jal a p) p.size).data.toList=H:=by rw[jdR,hf,o,jaS]
   show _=if q=p.data.toList then some u else if a.data.toList.isPrefixOf q then getL n (q.drop a.data.toList.length)else none
   cases hp:a.data.toList.isPrefixOf q with
   | false =>
    rw[if_neg ff,if_neg ff,if_neg (fun e=>jmJ hp H (e.trans hb))]
   | true =>
    obtain⟨r,rfl⟩:=jcl.1 hp
    rw[if_pos rfl,if_pos rfl,fW,ih _ u hu,hx,hb];simp only[gT]
  ·rw[if_neg hf,jfJ,jua]
   obtain⟨X,H,J,hb,A,o,a2⟩:=jcQ a.data.toList p.data.toList
   obtain⟨O,Z,a3⟩:=jbf a.data.toList p.data.toList
   obtain⟨m,hm⟩:=vE (jal a p)
   have a7:jaY a.data.toList p.data.toList=m:=hm.symm;rw[a7]at J hb A o O Z a3;rw[<-hm]at hf ⊢;rw[<-O]
   obtain⟨c,a0⟩:=vE (a.data.toList.take m)
   rw[<-a0]at J hb ⊢;have Q:(a.extract m a.size).data.toList=X:=by rw[jdR,A]
   have E:(p.extract m p.size).data.toList=H:=by rw[jdR,o]
   have a8:X.length=a.size - m:=by rw[A,dQ,jaS]
   rw[jaS]at Z;cases X with
   | nil=>simp at a8;omega
   | cons x s =>
    have a9:(a.extract (m+1) a.size).data.toList=s:=by
     rw[jdR, <-List.drop_drop, <-A];rfl
    rw[(jbL Q).1]
    obtain⟨x2,e2⟩:∃ x,x=p.extract m p.size:=⟨_,rfl⟩
    rw[<-e2]at E ⊢;have a4:∀ r,getL (addK (.br ⟨#[]⟩ (setK (fun _=>.nil) x.toNat (jcj (a.extract (m+1) a.size) n))) x2 u) r=if r=H then some u else if (x :: s).isPrefixOf r then getL n (r.drop (s.length+1))else none:=by
     intro r;rw[jnZ _ _ _ u hu,E]
     ·congr 1
      cases r with
      | nil=>rfl
      | cons y t =>
       rw[jhX,jfJ,a9]
       by_cases e:y=x
       ·subst e;simp
       ·rw[if_neg (jde e),if_neg]
        ·rfl
        ·intro K
         obtain⟨r,K⟩:=jcl.1 K
         exact e (List.cons.inj K).1
     ·intro y t hy
      unfold setK;rw[if_neg (jde (Ne.symm (a2 x s y t rfl (by rw[<-E,hy]))))];rfl
    have b0:a.data.toList.length=c.length+(s.length+1):=by
     have K:=congrArg List.length J;rw[bC]at K;exact K
    show _=if q=p.data.toList then some u else if a.data.toList.isPrefixOf q then getL n (q.drop a.data.toList.length)else none
    cases hp:c.isPrefixOf q with
    | false =>
     have K:=jmJ hp;rw[if_neg ff,if_neg (fun e=>K H (e.trans hb)),if_neg];intro e
     obtain⟨r,e⟩:=jcl.1 e
     rw[J,cE]at e;exact K _ e
    | true =>
     obtain⟨r,rfl⟩:=jcl.1 hp
     have e2:(c++r).drop (c.length+(s.length+1))=r.drop (s.length+1):=by rw[<-List.drop_drop,fW]
     rw[if_pos rfl,fW,a4,b0,e2];have e1:a.data.toList.isPrefixOf (c++r)=(x :: s).isPrefixOf r:=by
      rw[jB,jcl,jcl];constructor
      ·rintro⟨z,e⟩
       rw[J,cE]at e
       exact⟨z,iA e⟩
      ·rintro⟨z,rfl⟩
       exact⟨z,by rw[J,cE]⟩
     rw[e1,hb];simp only[gT]
 | .br v ks,h,p,u,hu,q=>by
  have hc:CanP (.br v ks):=by
   rcases h with h | h | h
   ·exact h
   ·cases h
   ·cases h
  unfold putP
  by_cases h0:p.size=0
  ·rw[if_pos h0,jfR h0]
   cases q with
   | nil=>simp[getL,hu]
   | cons x t=>rfl
  ·rw[if_neg h0]
   obtain⟨x,t,hx⟩:=jco h0
   obtain⟨h1,h2⟩:=jbL hx
   have ih:=jn0 (ks (jau p)) (by
    cases hn:(ks (jau p)).isNil with
    | true=>exact .inr (.inr (jbF hn))
    | false=>exact .inl (hc.2.1 _ hn)) (jbC p) u hu
   rw[h1]at ih ⊢;rw[hx];cases q with
   | nil=>simp[getL]
   | cons y s =>
    rw[jhX]
    by_cases hy:y=x
    ·subst hy
     rw[if_pos rfl,ih,h2];simp only[List.cons.injEq,true_and];rfl
    ·rw[if_neg (jde hy),if_neg (fun e=>hy (List.cons.inj e).1)]
theorem jcq{s:vB}:jaB s=true↔∀ x∈s.data.toList,x.toNat < 16:=by
 unfold jaB;rw[fH];constructor
 ·intro h x e
  have o:=h x e;simp only[decide_eq_true_eq,fB]at o
  have:(15:vU).toNat=15:=rfl
  omega
 ·intro h x e
  have o:=h x e;simp only[decide_eq_true_eq,fB]
  have:(15:vU).toNat=15:=rfl
  omega
theorem jnl{a b:vB}(h:jaB a=true)(k:jaB b=true):jaB (a++b)=true:=by
 rw[jcq]at *;intro x o;rw[jlK]at o;rcases bU.1 o with e | e
 ·exact h x e
 ·exact k x e
theorem jhz{a:vB}(h:jaB a=true)(k:Nat):jaB (a.extract 0 k)=true:=by
 rw[jcq]at *;intro x e;rw[jua]at e;exact h x (gC e)
theorem jcz{a:vB}(h:jaB a=true):jaB (jbC a)=true:=jbw h 1 _
theorem jdU{p:vB}(h:jaB p=true)(h0:p.size≠0):jau p < 16:=by
 obtain⟨x,t,e⟩:=jco h0
 rw[(jbL e).1];exact jcq.1 h x (by rw[e];exact bG)
theorem jc7(a b:vB):(a++b).size=a.size+b.size:=by
 rw[<-jaS,jlK,bC,jaS,jaS]
theorem jfC{a:vB}{P:PA}(ha:jaB a=true)(h:CanP P):CanP (jcj a P):=by
 unfold jcj
 by_cases h0:a.size=0
 ·rw[if_pos h0];exact h
 rw[if_neg h0];cases P with
 | nil=>exact h.elim
 | no=>exact h.elim
 | leaf q v=>exact⟨jnl ha h.1,h.2⟩
 | ext q n=>exact⟨by rw[jc7];omega,jnl ha h.2.1,h.2.2⟩
 | br v ks=>exact⟨h0,ha,rfl,h⟩
theorem jcn(ks:Nat->PA)(i:Nat)(P:PA):setK ks i P i=P:=if_pos rfl
theorem jeW(ks:Nat->PA){i j:Nat}(P:PA)(h:j≠i):setK ks i P j=ks j:=if_neg h
def OneB(ks:Nat->PA):Prop:=(∀ i,(ks i).isNil=false->i < 16)/\(∀ i,(ks i).isNil=false->CanP (ks i))
theorem OneB.set{ks:Nat->PA}(h:OneB ks){i:Nat}{P:PA}(hi:i < 16)(hP:CanP P):OneB (setK ks i P):=by
 refine⟨fun j o=>?_,fun j o=>?_⟩
 ·by_cases e:j=i
  ·rw[e];exact hi
  ·rw[jeW _ _ e]at o;exact h.1 j o
 ·by_cases e:j=i
  ·rw[e,jcn];exact hP
  ·rw[jeW _ _ e]at o ⊢;exact h.2 j o
theorem OneB.cut{ks:Nat->PA}(h:OneB ks)(i:Nat):OneB (setK ks i .nil):=by
 refine⟨fun j o=>?_,fun j o=>?_⟩
 ·by_cases e:j=i
  ·rw[e,jcn]at o;cases o
  ·rw[jeW _ _ e]at o;exact h.1 j o
 ·by_cases e:j=i
  ·rw[e,jcn]at o;cases o
  ·rw[jeW _ _ e]at o ⊢;exact h.2 j o
theorem jkW:OneB (fun _=>.nil):=⟨fun _ h=>Bool.noConfusion h,fun _ h=>Bool.noConfusion h⟩
theorem TwoK.set{v:vB}{ks:Nat->PA}(h:TwoK v ks)(i:Nat){P:PA}(hP:P.isNil=false):TwoK v (setK ks i P):=by
 have o:∀ j,(ks j).isNil=false->(setK ks i P j).isNil=false:=by
  intro j A
  by_cases e:j=i
  ·rw[e,jcn];exact hP
  ·rw[jeW _ _ e];exact A
 rcases h with⟨a,b,h1,h2,h3⟩ |⟨h1,a,h2⟩
 ·exact .inl ⟨a,b,h1,o a h2,o b h3⟩
 ·exact .inr ⟨h1,a,o a h2⟩
theorem jnu{ks:Nat->PA}(v p u:vB)(h:OneB ks)(hp:jaB p=true)(hu:u.size≠0)(h2:(v.size≠0/\p.size≠0)\/∃ i,(ks i).isNil=false/\(p.size=0\/jau p≠i)):CanP (addK (.br v ks) p u):=by
 rw[jcW]
 by_cases h0:p.size=0
 ·rw[if_pos h0]
  rcases h2 with⟨_,e⟩ |⟨i,hi,_⟩
  ·exact (e h0).elim
  ·exact⟨h.1,h.2,.inr ⟨hu,i,hi⟩⟩
 ·rw[if_neg h0]
  have o:=h.set (jdU hp h0) (P:=.leaf (jbC p) u) ⟨jcz hp,hu⟩
  refine⟨o.1,o.2,?_⟩
  rcases h2 with⟨e,_⟩ |⟨i,hi,e | e⟩
  ·exact .inr ⟨e,jau p,by rw[jcn];rfl⟩
  ·exact (h0 e).elim
  ·exact .inl ⟨jau p,i,e,by rw[jcn];rfl,by rw[jeW _ _ (Ne.symm e)];exact hi⟩
theorem jnL:∀ (P:PA),(CanP P\/P=.no\/P=.nil)->∀ (p u:vB),jaB p=true->u.size≠0->CanP (putP P p u)
 | .nil,_,p,u,hp,hu=>⟨hp,hu⟩
 | .no,_,p,u,hp,hu=>⟨hp,hu⟩
 | .leaf a v,h,p,u,hp,hu=>by
  have o:jaB a=true/\v.size≠0:=by
   rcases h with h | h | h
   ·exact h
   ·cases h
   ·cases h
  unfold putP
  by_cases hpa:p=a
  ·rw[if_pos hpa];exact⟨hp,hu⟩
  rw[if_neg hpa];refine jfC (jhz hp _) ?_
  obtain⟨a',b',ha,hb,X,Z,a0⟩:=jcQ a.data.toList p.data.toList
  have K:(a.extract (jal a p) a.size).data.toList=a':=by rw[jdR,X];rfl
  have A:(p.extract (jal a p) p.size).data.toList=b':=by rw[jdR,Z];rfl
  have O:=jbw o.1 (jal a p) a.size;have E:=jbw hp (jal a p) p.size;have a1:¬(a'=[]/\b'=[]):=by
   rintro⟨rfl,rfl⟩
   exact hpa (jbo (hb.trans ha.symm))
  obtain⟨x1,e1⟩:∃ x,x=a.extract (jal a p) a.size:=⟨_,rfl⟩
  obtain⟨x2,e2⟩:∃ x,x=p.extract (jal a p) p.size:=⟨_,rfl⟩
  rw[<-e1]at K O ⊢;rw[<-e2]at A E ⊢;rw[jcW]
  by_cases H:x1.size=0
  ·rw[if_pos H]
   refine jnu v x2 u jkW E hu (.inl ⟨o.2,fun e=>a1 ⟨?_,?_⟩⟩)
   ·rw[<-K];exact jfR H
   ·rw[<-A];exact jfR e
  ·rw[if_neg H]
   refine jnu _ x2 u (jkW.set (jdU O H) ⟨jcz O,o.2⟩) E hu (.inr ⟨jau x1,by rw[jcn];rfl,?_⟩)
   by_cases h9:x2.size=0
   ·exact .inl h9
   ·obtain⟨x,s,hx⟩:=jco H
    obtain⟨y,t,hy⟩:=jco h9
    rw[(jbL hx).1,(jbL hy).1];exact .inr (jde (Ne.symm (a0 x s y t (by rw[<-K,hx]) (by rw[<-A,hy]))))
 | .ext a n,h,p,u,hp,hu=>by
  have o:CanP (.ext a n):=by
   rcases h with h | h | h
   ·exact h
   ·cases h
   ·cases h
  unfold putP
  by_cases hf:jal a p=a.size
  ·rw[if_pos hf]
   exact jfC o.2.1 (jnL n (.inl o.2.2.2) _ u (jbw hp _ _) hu)
  ·rw[if_neg hf]
   refine jfC (jhz hp _) ?_
   obtain⟨a',b',ha,hb,X,Z,a0⟩:=jcQ a.data.toList p.data.toList
   have K:(a.extract (jal a p) a.size).data.toList=a':=by rw[jdR,X];rfl
   have A:(p.extract (jal a p) p.size).data.toList=b':=by rw[jdR,Z];rfl
   have O:=jbw o.2.1 (jal a p) a.size;have E:=jbw hp (jal a p) p.size;have H:(a.extract (jal a p) a.size).size≠0:=by
    have h3:=(jbf a.data.toList p.data.toList).2.1;have h4:jal a p<=a.size:=by rw[<-jaS];exact h3
    rw[ja1];omega
   obtain⟨x2,e2⟩:∃ x,x=p.extract (jal a p) p.size:=⟨_,rfl⟩
   rw[<-e2]at A E ⊢;have hj:=jfC (jbw o.2.1 (jal a p+1) a.size) o.2.2.2;have hO:=jkW.set (jdU O H) hj
   obtain⟨J,hJ⟩:=vE (jcj (a.extract (jal a p+1) a.size) n)
   rw[<-hJ]at hO hj ⊢;have hz:=jcn (fun _=>PA.nil) (jau (a.extract (jal a p) a.size)) J;have Q:=jnK hj;rw[<-hz]at Q
   obtain⟨KS,a2⟩:=vE (setK (fun _=>PA.nil) (jau (a.extract (jal a p) a.size)) J)
   rw[<-a2]at hO Q ⊢;refine jnu ⟨#[]⟩ x2 u hO E hu (.inr ⟨jau (a.extract (jal a p) a.size),Q,?_⟩)
   by_cases h9:x2.size=0
   ·exact .inl h9
   ·obtain⟨x,s,hx⟩:=jco H
    obtain⟨y,t,hy⟩:=jco h9
    rw[(jbL hx).1,(jbL hy).1];exact .inr (jde (Ne.symm (a0 x s y t (by rw[<-K,hx]) (by rw[<-A,hy]))))
 | .br v ks,h,p,u,hp,hu=>by
  have o:CanP (.br v ks):=by
   rcases h with h | h | h
   ·exact h
   ·cases h
   ·cases h
  unfold putP
  by_cases H:p.size=0
  ·rw[if_pos H]
   refine⟨o.1,o.2.1,?_⟩
   rcases o.2.2 with h1 |⟨_,h2⟩
   ·exact .inl h1
   ·exact .inr ⟨hu,h2⟩
  ·rw[if_neg H]
   have hk:=jnL (ks (jau p)) (by
    cases hn:(ks (jau p)).isNil with
    | true=>exact .inr (.inr (jbF hn))
    | false=>exact .inl (o.2.1 _ hn)) (jbC p) u (jcz hp) hu
   have hs:=OneB.set ⟨o.1,o.2.1⟩ (jdU hp H) hk
   exact⟨hs.1,hs.2,o.2.2.set _ (jnK hk)⟩
theorem jsu{ks:Nat->PA}{i:Nat}(h:OneB ks):i∈idxK ks↔(ks i).isNil=false:=by
 unfold idxK;rw[cP,fA,iF]
 exact⟨fun e=>e.2,fun e=>⟨h.1 i e,e⟩⟩
theorem jsv(ks:Nat->PA):(idxK ks).Nodup:=List.Nodup.sublist List.filter_sublist List.nodup_range
theorem jmq{v:vB}{ks:Nat->PA}(h:OneB ks):jdt v ks=.no\/CanP (jdt v ks):=by
 have A:=fun i=>jsu (i:=i) h;have H:=jsv ks;unfold jdt;cases e:idxK ks with
 | nil =>
  show (if v.size=0 then PA.no else .leaf ⟨#[]⟩ v)=.no\/CanP (if v.size=0 then PA.no else .leaf ⟨#[]⟩ v)
  by_cases h0:v.size=0
  ·rw[if_pos h0];exact .inl rfl
  ·rw[if_neg h0];exact .inr ⟨rfl,h0⟩
 | cons i r =>
  rw[e]at A H;have o:=(A i).1 bG;cases r with
  | nil =>
   show (if v.size=0 then jcj ⟨#[UInt8.ofNat i]⟩ (ks i)else .br v ks)=.no\/CanP (if v.size=0 then jcj ⟨#[UInt8.ofNat i]⟩ (ks i)else .br v ks);right
   by_cases h0:v.size=0
   ·rw[if_pos h0]
    have J:=h.1 i o;refine jfC ?_ (h.2 i o);rw[jcq];intro x E;have E:x=UInt8.ofNat i:=by simpa using E
    rw[E,fD];omega
   ·rw[if_neg h0]
    exact⟨h.1,h.2,.inr ⟨h0,i,o⟩⟩
  | cons j r =>
   right
   refine⟨h.1,h.2,.inl ⟨i,j,?_,o,(A j).1 (by simp)⟩⟩
   rintro rfl;simp at H
theorem jmf{v:vB}{ks:Nat->PA}(h:OneB ks)(q:vN):getL (jdt v ks) q=getL (.br v ks) q:=by
 have o:=fun i=>jsu (i:=i) h;unfold jdt;cases e:idxK ks with
 | nil =>
  rw[e]at o;have O:∀ i,ks i=.nil:=fun i=>jbF (by
   cases hb:(ks i).isNil with
   | true=>rfl
   | false=>exact ((List.mem_nil_iff i).1 ((o i).2 hb)).elim)
  show getL (if v.size=0 then PA.no else .leaf ⟨#[]⟩ v) q=_;cases q with
  | nil =>
   show _=if v.size=0 then none else some v
   by_cases h0:v.size=0
   ·rw[if_pos h0,if_pos h0];rfl
   ·rw[if_neg h0,if_neg h0];rfl
  | cons x t =>
   show _=getL (ks x.toNat) t;rw[O]
   by_cases h0:v.size=0
   ·rw[if_pos h0];rfl
   ·rw[if_neg h0];rfl
 | cons i r =>
  cases r with
  | nil =>
   show getL (if v.size=0 then jcj ⟨#[UInt8.ofNat i]⟩ (ks i)else .br v ks) q=_
   by_cases h0:v.size=0
   ·rw[if_pos h0,jfJ]
    rw[e]at o;have K:=h.1 i ((o i).1 bG);have A:(UInt8.ofNat i).toNat=i:=by rw[fD];omega
    cases q with
    | nil=>show (if false=true then _ else none)=if v.size=0 then none else some v;rw[if_pos h0,if_neg ff]
    | cons x t =>
     show (if ([UInt8.ofNat i].isPrefixOf (x :: t))=true then getL (ks i) ((x :: t).drop 1)else none)=getL (ks x.toNat) t
     by_cases hx:x=UInt8.ofNat i
     ·subst hx;simp[A]
     ·have E:x.toNat≠i:=fun e=>hx (dS.1 (by rw[A];exact e))
      have H:ks x.toNat=.nil:=jbF (by
       cases hb:(ks x.toNat).isNil with
       | true=>rfl
       | false=>exact (E (by simpa using (o _).2 hb)).elim)
      rw[H,if_neg]
      ·rfl
      ·intro J
       obtain⟨r,J⟩:=jcl.1 J
       exact hx (List.cons.inj J).1
   ·rw[if_neg h0]
  | cons j r=>rfl
theorem jvm(P:PA)(q:vN):getL (unNo P) q=getL P q:=by
 unfold unNo;cases h:P.isNo with
 | true=>rw[if_pos rfl,jsz h];rfl
 | false=>rw[if_neg ff]
theorem jnT:∀ (P:PA),CanP P->∀ (p:vB),jaB p=true->(jbT P p=.no\/CanP (jbT P p))/\∀ q,getL (jbT P p) q=if q=p.data.toList then none else getL P q
 | .nil,h,_,_=>h.elim
 | .no,h,_,_=>h.elim
 | .leaf a v,h,p,hp=>by
  unfold jbT
  by_cases e:p=a
  ·rw[if_pos e]
   refine⟨.inl rfl,fun q=>?_⟩
   subst e;show none=if q=p.data.toList then none else if p.data.toList=q then some v else none
   by_cases h9:q=p.data.toList
   ·rw[if_pos h9]
   ·rw[if_neg h9,if_neg (fun e=>h9 e.symm)]
  ·rw[if_neg e]
   refine⟨.inr h,fun q=>?_⟩
   by_cases h9:q=p.data.toList
   ·rw[if_pos h9]
    show (if a.data.toList=q then some v else none)=none;rw[if_neg (fun X=>e (jbo (h9.symm.trans X.symm)))]
   ·rw[if_neg h9]
 | .ext a n,h,p,hp=>by
  unfold jbT
  obtain⟨o,K⟩:=jnT n h.2.2.2 (p.extract a.size p.size) (jbw hp _ _)
  cases hb:preB a p with
  | false =>
   rw[if_neg ff]
   refine⟨.inr h,fun q=>?_⟩
   by_cases h9:q=p.data.toList
   ·rw[if_pos h9,h9]
    show (if a.data.toList.isPrefixOf p.data.toList=true then _ else none)=none;unfold preB at hb;rw[hb];rfl
   ·rw[if_neg h9]
  | true =>
   rw[if_pos rfl]
   obtain⟨O,A⟩:=jcl.1 hb
   have E:(p.extract a.size p.size).data.toList=O:=by rw[jdR,A, <-jaS,fW]
   refine⟨?_,fun q=>?_⟩
   ·rcases o with o | o
    ·rw[o]
     left;unfold jcj
     by_cases h0:a.size=0
     ·rw[if_pos h0]
     ·rw[if_neg h0]
    ·exact .inr (jfC h.2.1 o)
   ·rw[jfJ]
    show _=if q=p.data.toList then none else if a.data.toList.isPrefixOf q then getL n (q.drop a.data.toList.length)else none
    cases hq:a.data.toList.isPrefixOf q with
    | false =>
     rw[if_neg ff,if_neg ff,if_neg (fun e=>jmJ hq O (e.trans A))]
    | true =>
     obtain⟨r,rfl⟩:=jcl.1 hq
     rw[if_pos rfl,if_pos rfl,fW,K,E,A];simp only[gT]
 | .br v ks,h,p,hp=>by
  unfold jbT;have H:OneB ks:=⟨h.1,h.2.1⟩
  by_cases h0:p.size=0
  ·rw[if_pos h0]
   refine⟨jmq H,fun q=>?_⟩
   rw[jmf H,jfR h0];cases q with
   | nil=>rfl
   | cons x t=>rfl
  ·rw[if_neg h0]
   obtain⟨x,t,E⟩:=jco h0
   obtain⟨J,Z⟩:=jbL E
   cases hn:(ks (jau p)).isNil with
   | true =>
    rw[if_pos rfl]
    refine⟨.inr h,fun q=>?_⟩
    by_cases h9:q=p.data.toList
    ·rw[if_pos h9,h9,E]
     show getL (ks x.toNat) t=none;rw[<-J,jbF hn];rfl
    ·rw[if_neg h9]
   | false =>
    rw[if_neg ff]
    obtain⟨o,K⟩:=jnT (ks (jau p)) (h.2.1 _ hn) (jbC p) (jcz hp)
    have Q:OneB (setK ks (jau p) (unNo (jbT (ks (jau p)) (jbC p)))):=by
     unfold unNo;rcases o with o | o
     ·rw[o];exact H.cut _
     ·rw[jzz o,if_neg ff]
      exact H.set (jdU hp h0) o
    refine⟨jmq Q,fun q=>?_⟩
    rw[jmf Q,E];cases q with
    | nil=>rfl
    | cons y s =>
     rw[jhX,J]
     by_cases hy:y=x
     ·subst hy
      rw[if_pos rfl,jvm, <-J,K,Z];simp only[List.cons.injEq,true_and];show _=if s=t then none else getL (ks y.toNat) s
      rw[J]
     ·rw[if_neg (jde hy),if_neg (fun e=>hy (List.cons.inj e).1)]
theorem jgG{i:Nat}(h:i < 16):(UInt8.ofNat i).toNat=i:=by rw[fD];omega
theorem jeJ:∀ (P:PA),CanP P->∃ p v,getL P p=some v
 | .nil,h=>h.elim
 | .no,h=>h.elim
 | .leaf a v,_=>⟨a.data.toList,v,if_pos rfl⟩
 | .ext a n,h=>by
  obtain⟨p,v,e⟩:=jeJ n h.2.2.2
  refine⟨a.data.toList++p,v,?_⟩
  show (if a.data.toList.isPrefixOf (a.data.toList++p)=true then getL n ((a.data.toList++p).drop a.data.toList.length)else none)=some v;rw[if_pos (jcl.2 ⟨p,rfl⟩),fW,e]
 | .br v ks,h=>by
  have o:∃ i,(ks i).isNil=false:=by
   rcases h.2.2 with⟨i,_,_,e,_⟩ |⟨_,i,e⟩
   ·exact⟨i,e⟩
   ·exact⟨i,e⟩
  obtain⟨i,o⟩:=o
  obtain⟨p,u,e⟩:=jeJ (ks i) (h.2.1 i o)
  refine⟨UInt8.ofNat i :: p,u,?_⟩
  show getL (ks (UInt8.ofNat i).toNat) p=some u;rw[jgG (h.1 i o),e]
theorem jig{v:vB}{ks:Nat->PA}(h:CanP (.br v ks)):∃ p q a b,p.head?≠q.head?/\getL (.br v ks) p=some a/\getL (.br v ks) q=some b:=by
 have o:∀ i,(ks i).isNil=false->∃ t u,getL (.br v ks) (UInt8.ofNat i :: t)=some u:=by
  intro i A
  obtain⟨p,u,e⟩:=jeJ (ks i) (h.2.1 i A)
  refine⟨p,u,?_⟩
  show getL (ks (UInt8.ofNat i).toNat) p=some u;rw[jgG (h.1 i A),e]
 rcases h.2.2 with⟨i,j,hij,A,hj⟩ |⟨hv,i,A⟩
 ·obtain⟨t,a,E⟩:=o i A
  obtain⟨s,b,H⟩:=o j hj
  refine⟨_,_,a,b,?_,E,H⟩
  intro e;have e:UInt8.ofNat i=UInt8.ofNat j:=by simpa using e
  have:=congrArg UInt8.toNat e
  rw[jgG (h.1 i A),jgG (h.1 j hj)]at this;exact hij this
 ·obtain⟨t,a,E⟩:=o i A
  refine⟨[],_,v,a,?_,?_,E⟩
  ·simp
  ·show (if v.size=0 then none else some v)=some v
   rw[if_neg hv]
theorem jiX:∀ (a r p q:vN),p.head?≠q.head?->r <+: a++p->r <+: a++q->r <+: a
 | [],r,p,q,h,o,A=>by
  cases r with
  | nil=>exact List.nil_prefix
  | cons x s =>
   obtain⟨J,E⟩:=o
   obtain⟨K,H⟩:=A
   rw[cT]at E H;exfalso;apply h;rw[<-E, <-H];rfl
 | y :: a,r,p,q,h,o,A=>by
  cases r with
  | nil=>exact List.nil_prefix
  | cons x s =>
   rw[dA]at o A
   obtain⟨e,o⟩:=List.cons_prefix_cons.1 o
   obtain⟨_,A⟩:=List.cons_prefix_cons.1 A
   rw[e];exact List.cons_prefix_cons.2 ⟨rfl,jiX a s p q h o A⟩
theorem jiC(a:vB)(n:PA)(t:vN):getL (.ext a n) (a.data.toList++t)=getL n t:=by
 show (if a.data.toList.isPrefixOf (a.data.toList++t)=true then getL n ((a.data.toList++t).drop a.data.toList.length)else none)=getL n t;rw[if_pos (jcl.2 ⟨t,rfl⟩),fW]
theorem jeL{a:vB}{n:PA}{p:vN}{v:vB}(h:getL (.ext a n) p=some v):a.data.toList <+: p:=by
 have h:(if a.data.toList.isPrefixOf p=true then getL n (p.drop a.data.toList.length)else none)=some v:=h
 by_cases e:a.data.toList.isPrefixOf p=true
 ·exact List.isPrefixOf_iff_prefix.1 e
 ·rw[if_neg e]at h;cases h
theorem jnJ{a:vB}{n:PA}(h:CanP (.ext a n)):∃ p q x y,p.head?≠q.head?/\getL (.ext a n) (a.data.toList++p)=some x/\getL (.ext a n) (a.data.toList++q)=some y:=by
 cases n with
 | br v ks =>
  obtain⟨p,q,x,y,e,o,A⟩:=jig h.2.2.2
  exact⟨p,q,x,y,e,by rw[jiC,o],by rw[jiC,A]⟩
 | nil=>cases h.2.2.1
 | no=>cases h.2.2.1
 | leaf _ _=>cases h.2.2.1
 | ext _ _=>cases h.2.2.1
theorem jda{a v:vB}{p:vN}{u:vB}(h:getL (.leaf a v) p=some u):a.data.toList=p/\v=u:=by
 have h:(if a.data.toList=p then some v else none)=some u:=h
 by_cases e:a.data.toList=p
 ·rw[if_pos e]at h;exact⟨e,bO h⟩
 ·rw[if_neg e]at h;cases h
theorem jkN{p q:vN}(h:p.head?≠q.head?):p≠q:=fun e=>h (by rw[e])
theorem uniq:∀ (P Q:PA),CanP P->CanP Q->(∀ p,getL P p=getL Q p)->P=Q
 | .nil,_,h,_,_=>h.elim
 | .no,_,h,_,_=>h.elim
 | .leaf a v,Q,h,k,e=>by
  cases Q with
  | nil=>exact k.elim
  | no=>exact k.elim
  | leaf b u =>
   have A:getL (.leaf b u) a.data.toList=some v:=by rw[<-e];exact if_pos rfl
   obtain⟨o,E⟩:=jda A
   rw[jbo o,E]
  | ext b n =>
   obtain⟨p,q,x,y,A,o,E⟩:=jnJ k
   rw[<-e]at o E;exact absurd (iA ((jda o).1.symm.trans (jda E).1)) (jkN A)
  | br u ks =>
   obtain⟨p,q,x,y,A,o,E⟩:=jig k
   rw[<-e]at o E;exact absurd ((jda o).1.symm.trans (jda E).1) (jkN A)
 | .ext a n,Q,h,k,e=>by
  obtain⟨p,q,x,y,A,o,E⟩:=jnJ h
  cases Q with
  | nil=>exact k.elim
  | no=>exact k.elim
  | leaf b u =>
   rw[e]at o E;exact absurd (iA ((jda o).1.symm.trans (jda E).1)) (jkN A)
  | ext b m =>
   have g2:=o;have g3:=E;rw[e]at g2 g3;have a1:=jiX _ _ p q A (jeL g2) (jeL g3)
   obtain⟨p',q',x',y',k1,K,O⟩:=jnJ k
   have f2:=K;have f3:=O;rw[<-e]at f2 f3;have a0:=jiX _ _ p' q' k1 (jeL f2) (jeL f3);have X:a.data.toList=b.data.toList:=a0.eq_of_length (Nat.le_antisymm a0.length_le a1.length_le);have X:=jbo X;subst X;rw[uniq n m h.2.2.2 k.2.2.2 (fun t=>by rw[<-jiC a n t, <-jiC a m t,e])]
  | br u ks =>
   exfalso
   obtain⟨p',q',x',y',k1,K,O⟩:=jig k
   rw[<-e]at K O;have Z:=jiX [] _ p' q' k1 (by simpa using jeL K) (by simpa using jeL O);have Z:=List.prefix_nil.1 Z;apply h.1;rw[<-jaS,Z];rfl
 | .br v ks,Q,h,k,e=>by
  cases Q with
  | nil=>exact k.elim
  | no=>exact k.elim
  | leaf b u =>
   obtain⟨p,q,x,y,A,o,E⟩:=jig h
   rw[e]at o E;exact absurd ((jda o).1.symm.trans (jda E).1) (jkN A)
  | ext b m =>
   exfalso
   obtain⟨p',q',x',y',k1,K,O⟩:=jig h
   rw[e]at K O;have Z:=jiX [] _ p' q' k1 (by simpa using jeL K) (by simpa using jeL O);have Z:=List.prefix_nil.1 Z;apply k.1;rw[<-jaS,Z];rfl
  | br u js =>
   have ev:v=u:=by
    have J:=e [];have J:(if v.size=0 then none else some v)=if u.size=0 then none else some u:=J
    by_cases hv:v.size=0
    ·by_cases hu:u.size=0
     ·rw[jby hv,jby hu]
     ·rw[if_pos hv,if_neg hu]at J;cases J
    ·by_cases hu:u.size=0
     ·rw[if_neg hv,if_pos hu]at J;cases J
     ·rw[if_neg hv,if_neg hu]at J;exact bO J
   have ek:ks=js:=by
    funext i
    have H:i < 16->∀ t,getL (ks i) t=getL (js i) t:=by
     intro hi t
     have:=e (UInt8.ofNat i :: t)
     have:getL (ks (UInt8.ofNat i).toNat) t=getL (js (UInt8.ofNat i).toNat) t:=this
     rw[jgG hi]at this;exact this
    cases A:(ks i).isNil with
    | true =>
     cases o:(js i).isNil with
     | true=>rw[jbF A,jbF o]
     | false =>
      obtain⟨t,z,hz⟩:=jeJ (js i) (k.2.1 i o)
      rw[<-H (k.1 i o),jbF A]at hz;cases hz
    | false =>
     cases o:(js i).isNil with
     | true =>
      obtain⟨t,z,hz⟩:=jeJ (ks i) (h.2.1 i A)
      rw[H (h.1 i A),jbF o]at hz;cases hz
     | false=>exact uniq (ks i) (js i) (h.2.1 i A) (k.2.1 i o) (H (h.1 i A))
   rw[ev,ek]
section
attribute [local go_sem] Oper.semAt_some
def jdj(p:vB):Bool:=p.size % 2 == 0 && jaB p
def nib1(i:Nat):vB:=⟨#[UInt8.ofNat i]⟩
def keyV(p:vB):vV:=.tuple #[.string (if jdj p=true then jbu p else ⟨#[]⟩),.bool (jdj p)]
theorem jsB(w:vW)(p:vB)(hs:p.size<=1000000):vR 49 #[.string p] w (keyV p):=by
 by_cases h2:p.size % 2=0
 ·have E:(p.size:Int) % 2=0:=vO
  cases hv:jaB p with
  | true =>
   have o:jdj p=true:=by unfold jdj;rw[hv,h2];rfl
   have A:keyV p=.tuple #[.string (jbu p),.bool true]:=by unfold keyV;rw[o];rfl
   rw[A];clear o A;unfold vR vQ;go_in;go_wp2_with fail
   refine (jlq w p vO).mono ?_;rintro e w1 ⟨rfl,rfl⟩;rw[hv];go_wp2_with fail
   refine vC (joe w1 p hs) fun J H=>?_;go_wp2_with fail
   go_ret2
   exact⟨rfl,H⟩
  | false =>
   have o:jdj p=false:=by unfold jdj;rw[hv,h2];rfl
   have A:keyV p=.tuple #[.string ⟨#[]⟩,.bool false]:=by unfold keyV;rw[o];rfl
   rw[A];clear o A;unfold vR vQ;go_in;go_wp2_with fail
   refine (jlq w p vO).mono ?_;rintro e w1 ⟨rfl,rfl⟩;rw[hv];go_wp2_with fail
   go_ret2
   exact⟨rfl,ExtR w1⟩
 ·have E:¬(p.size:Int) % 2=0:=vO
  have o:jdj p=false:=by unfold jdj;rw[show (p.size % 2 == 0)=false by simpa using h2];rfl
  have A:keyV p=.tuple #[.string ⟨#[]⟩,.bool false]:=by unfold keyV;rw[o];rfl
  have K:((p.size:Int) % 2 != 0)=true:=by simpa using E
  rw[A];clear o A;unfold vR vQ;go_in;go_wp2_with fail
  go_ret2
  exact⟨rfl,ExtR w⟩
def bare(W:vW):vW:={ W with heap:=#[] }
theorem juD(W:vW):Ext (bare W) W:=⟨rfl,rfl,rfl,cD _,fun b hb=>absurd hb (Nat.not_lt_zero b)⟩
theorem ORow.any{T:TypeId}{sz:Nat}{W:vW}{v:vV}{n:Nat}{xs:List vV}(h:W.ownsRow 0 T sz v n xs):ORow T sz (bare W) W v n xs:=⟨jaU h,h,juD W,fun _ _=>cD _⟩
end
def sumF(g:Nat->Nat):Nat->Nat
 | 0=>0
 | n+1=>sumF g n+g n
def cntT:Nat->vL->Nat
 | 0,_=>1
 | f+1,l=>1+(if l.length<=1 then 0 else if 0 < comK l then cntT f (jak (comK l) l)else sumF (fun i=>if (cutL i l).length=0 then 0 else cntT f (jak 1 (cutL i l))) 16)
theorem jpW(g:Nat->Nat)(l:vL)(h0:∀ i,(cutL i l).length=0->g i=0)(hg:∀ i,(cutL i l).length≠0->g i+2<=3 * (cutL i l).length):∀ n,sumF g n+2 * jdu l n<=3 * jdh l n
 | 0=>by simp[sumF,jdh,jdu]
 | n+1=>by
  have e:=jpW g l h0 hg n;rw[sumF,jdh,jdu]
  by_cases hz:(cutL n l).length=0
  ·rw[if_pos hz,h0 n hz];omega
  ·have:=hg n hz
   rw[if_neg hz];omega
structure CntP(c:Nat)(l:vL):Prop where
 all:c+2<=3 * l.length
 two:2<=l.length->comK l=0->c+3<=3 * l.length
theorem jwG:∀ (f:Nat) (l:vL),jap f l->l≠[]->CntP (cntT f l) l:=by
 intro f;induction f with
 | zero =>
  intro l h hn;have h0:l.length≠0:=fun e=>hn (bE e);have hl:=jbI h
  exact⟨by show 1+2<=_;omega,fun h2=>by omega⟩
 | succ f ih =>
  intro l h hn;have h0:l.length≠0:=fun e=>hn (bE e)
  by_cases h1:l.length=1
  ·have e:cntT (f+1) l=1:=by unfold cntT;rw[if_pos vO]
   exact⟨by omega,fun h2=>by omega⟩
  have h2:2<=l.length:=vO
  have o:=jbi h h2
  by_cases hk:0 < comK l
  ·have a0:jap f (jak (comK l) l):=(jcb (comK l) h (fun p hp q hq=>(o p hp).1.trans (o q hq).1.symm) (fun p hp=>(o p hp).2)).mono vO
   have J:jak (comK l) l≠[]:=fun e=>by have:=jaI (comK l) l;rw[e]at this;simp at this;omega
   have A:=(ih _ a0 J).two (by rw[jaI];omega) (jgt vO);rw[jaI]at A;have e:cntT (f+1) l=1+cntT f (jak (comK l) l):=by rw[cntT,if_neg vO,if_pos hk]
   exact⟨by omega,fun _ hz=>by omega⟩
  ·have K:∀ i,(cutL i l).length≠0->jak 1 (cutL i l)≠[]:=fun i O e=>by have:=jaI 1 (cutL i l);rw[e]at this;simp at this;omega
   obtain⟨a,ha⟩:∃ a,l[0]?=some a:=⟨_,bA vO⟩
   obtain⟨b,hb⟩:∃ b,l[l.length - 1]?=some b:=⟨_,bA vO⟩
   have ga:l.getD 0 pd=a:=by rw[bH,ha];rfl
   have gb:l.getD (l.length - 1) pd=b:=by rw[bH,hb];rfl
   have E:=bI ha;have Q:=bI hb;have X:=jcc h.rise vO ha hb
   obtain⟨g,H⟩:=vE (fun i=>if (cutL i l).length=0 then 0 else cntT f (jak 1 (cutL i l)))
   have e:cntT (f+1) l=1+sumF g 16:=by rw[cntT,if_neg vO,if_neg hk,H]
   have A:sumF g 16+4<=3 * l.length:=by
    have a2:=jpW g l (fun i O=>by rw[H];simp only[O,if_true]) (fun i O=>by
     have:=(ih _ (jcU i h) (K i O)).all
     rw[jaI]at this;rw[H];simp only[if_neg O];exact this) 16
    have Z:jaY a.l b.l=0:=by
     have:comK l=jaY a.l b.l:=by unfold comK jal;rw[ga,gb]
     omega
    cases hbl:b.l with
    | nil=>rw[hbl]at X;exact absurd X (not_lt_nil _)
    | cons y t =>
     have hy:=jfn (h.size b Q).2.2.1 hbl;have cb:=jf5 Q hbl;cases hal:a.l with
     | nil =>
      have:=jlZ ⟨a,E,hal⟩ 16
      have:=jiU cb hy
      omega
     | cons x r =>
      have hx:=jfn (h.size a E).2.2.1 hal;have ca:=jf5 E hal;have a1:x≠y:=by
       intro e;rw[hal,hbl,e]at Z;simp[jaY]at Z
      have J:x.toNat≠y.toNat:=fun e=>a1 (dS.1 e)
      have:=jfd l 16
      have:2<=jdu l 16:=by
       rcases fQ x.toNat y.toNat with e | e
       ·exact jgJ ca cb e hy
       ·exact jgJ cb ca vO hx
      omega
   exact⟨by omega,fun _ _=>by omega⟩
theorem jtO{α:Type}{R:α->α->Prop}(hi:∀ x,¬ R x x)(ht:∀ x y,R x y->¬ R y x):∀ {a b:List α},a.Pairwise R->b.Pairwise R->(∀ x,x∈a↔x∈b)->a=b
 | [],[],_,_,_=>rfl
 | [],y :: b,_,_,h=>absurd ((h y).2 bG) (by simp)
 | x :: a,[],_,_,h=>absurd ((h x).1 bG) (by simp)
 | x :: a,y :: b,ha,hb,h=>by
  rw[cW]at ha hb;have e:x=y:=by
   rcases bM.1 ((h x).1 bG)with e | h1
   ·exact e
   rcases bM.1 ((h y).2 bG)with e | h2
   ·exact e.symm
   exact absurd (ha.1 y h2) (ht _ _ (hb.1 x h1))
  subst e;rw[jtO hi ht ha.2 hb.2 fun z=>?_];constructor
  ·intro o
   rcases bM.1 ((h z).1 (bD _ o))with e | h1
   ·subst e;exact absurd (ha.1 z o) (hi z)
   ·exact h1
  ·intro o
   rcases bM.1 ((h z).2 (bD _ o))with e | h1
   ·subst e;exact absurd (hb.1 z o) (hi z)
   ·exact h1
def jo0(l:vL):vL:=l.filter fun q=>q.1.size=0
theorem jt0(p:Pair):p.1.size=0↔p.l=[]:=by
 show p.1.data.toList.length=0↔_;exact List.length_eq_zero_iff
theorem jmu(x y:vN)(h:Lt x y):¬ Lt y x:=fun k=>lt_irrefl _ (jdV _ _ _ h k)
theorem jkd{f:Nat}{l:vL}(h:jap f l):l=jo0 l++(List.range 16).flatMap fun i=>cutL i l:=by
 refine jtO (R:=fun p q:Pair=>Lt p.l q.l) (fun x=>lt_irrefl _) (fun x y=>jmu _ _) h.rise ?_ fun p=>?_
 ·rw[jF]
  refine⟨h.rise.filter _,?_,fun p e q o=>?_⟩
  ·have:∀ n,((List.range n).flatMap fun i=>cutL i l).Pairwise fun p q:Pair=>Lt p.l q.l:=fun n=>by
    induction n with
    | zero=>simp
    | succ n ih =>
     rw[fR,dX,jF]
     refine⟨ih,?_,fun p e q o=>?_⟩
     ·simpa using (jr2 n h).rise
     ·obtain⟨i,E,e⟩:=cU.1 e
      simp only[cG,fU,bZ]at o
      obtain⟨_,a,r,H,O⟩:=jbA e
      obtain⟨_,b,t,A,Q⟩:=jbA o
      rw[H,A]
      have:=fA.1 E
      exact jbG.2 (.inl (dE.2 vO))
   exact this 16
  ·obtain⟨_,J⟩:=cP.1 e
   obtain⟨i,_,o⟩:=cU.1 o
   obtain⟨_,b,t,A,_⟩:=jbA o
   rw[(jt0 p).1 (by simpa using J),A];exact jpu
 ·rw[bU]
  constructor
  ·intro e
   cases hl:p.l with
   | nil=>exact .inl (cP.2 ⟨e,by simpa using (jt0 p).2 hl⟩)
   | cons x r =>
    have K:=jfn (h.size p e).2.2.1 hl;exact .inr (cU.2 ⟨x.toNat,fA.2 K,jr4 e hl⟩)
  ·rintro (e | e)
   ·exact (cP.1 e).1
   ·obtain⟨i,_,e⟩:=cU.1 e
    exact (jbA e).1
theorem jjP{f:Nat}{l:vL}(h:jap f l)(hn:l≠[]):jo0 l=if (l.getD 0 pd).1.size=0 then [l.getD 0 pd]else []:=by
 cases l with
 | nil=>exact absurd rfl hn
 | cons p r =>
  have A:∀ q∈r,¬ q.1.size=0:=fun q o e=>by
   have:=(cW.1 h.rise).1 q o
   rw[(jt0 q).1 e]at this;exact not_lt_nil _ this
  have E:r.filter (fun q:Pair=>q.1.size=0)=[]:=by
   rw[iD];intro q o;simpa using A q o
  show (p :: r).filter _=if p.1.size=0 then [p]else []
  rw[dR,E]
  by_cases e:p.1.size=0
  ·rw[if_pos e,if_pos (by simpa using e)]
  ·rw[if_neg e,if_neg (by simpa using e)]
theorem jcr(a b:vB):(a++b).data.toList=a.data.toList++b.data.toList:=by rw[cZ,fX]
theorem jpN{α:Type}(g:Nat->List α)(hg:∀ i,(g i).reverse=g i):∀ l:List Nat,(l.reverse.flatMap g).reverse=l.flatMap g
 | []=>rfl
 | x :: l=>by
  rw[gR,dX,List.reverse_append,jpN g hg l,cG];simp[hg]
theorem jz5{x:vU}{i:Nat}(h:x.toNat=i):UInt8.ofNat i=x:=by subst h;exact iQ
theorem jnA{p:vB}{i k:Nat}{q:Pair}{x:vU}{r:vN}(h:q.l=x :: r)(hx:x.toNat=i):p++q.1=(p++nib1 i)++q.1.extract 1 q.1.size:=by
 refine jbo ?_;rw[jcr,jcr,jcr,jcR _ _ _ (bL _)];have h:q.1.data.toList=x :: r:=h;rw[h];unfold nib1;rw[jz5 hx];simp
theorem jnB{p:vB}{k:Nat}{q:Pair}{a:vB}(h:q.l.take k=a.data.toList):p++q.1=(p++a)++q.1.extract k q.1.size:=by
 refine jbo ?_;rw[jcr,jcr,jcr,jcR _ _ _ (bL _), <-h,cE];show _++q.l=_++(q.l.take k++q.l.drop k);rw[cV]
def ja2:Nat->vL->PA
 | 0,_=>.no
 | f+1,l =>
  if l.length=0 then .no
  else if l.length=1 then .leaf (l.getD 0 pd).1 (l.getD 0 pd).2
  else if 0 < comK l then .ext ((l.getD 0 pd).1.extract 0 (comK l)) (ja2 f (jak (comK l) l))
  else .br (if (l.getD 0 pd).1.size=0 then (l.getD 0 pd).2 else ⟨#[]⟩) fun i=>if (cutL i l).length=0 then .nil else ja2 f (jak 1 (cutL i l))
theorem jew(f:Nat)(l:vL):ja2 (f+1) l =
  if l.length=0 then .no
  else if l.length=1 then .leaf (l.getD 0 pd).1 (l.getD 0 pd).2
  else if 0 < comK l then .ext ((l.getD 0 pd).1.extract 0 (comK l)) (ja2 f (jak (comK l) l))
  else .br (if (l.getD 0 pd).1.size=0 then (l.getD 0 pd).2 else ⟨#[]⟩) fun i=>if (cutL i l).length=0 then .nil else ja2 f (jak 1 (cutL i l)):=rfl
theorem jbV(f:Nat){l:vL}(h:l.length=0):ja2 (f+1) l=.no:=by rw[jew];rw[if_pos h]
theorem jb1(f:Nat){l:vL}(h:l.length=1):ja2 (f+1) l=.leaf (l.getD 0 pd).1 (l.getD 0 pd).2:=by rw[jew];rw[if_neg vO,if_pos h]
theorem jdA(f:Nat){l:vL}(h:2<=l.length)(hk:0 < comK l):ja2 (f+1) l=.ext ((l.getD 0 pd).1.extract 0 (comK l)) (ja2 f (jak (comK l) l)):=by
 rw[jew];rw[if_neg vO,if_neg vO,if_pos hk]
theorem jeS(f:Nat){l:vL}(h:2<=l.length)(hk:¬ 0 < comK l):ja2 (f+1) l=.br (if (l.getD 0 pd).1.size=0 then (l.getD 0 pd).2 else ⟨#[]⟩) fun i=>if (cutL i l).length=0 then .nil else ja2 f (jak 1 (cutL i l)):=by
 rw[jew];rw[if_neg vO,if_neg vO,if_neg hk]
theorem jzB{f:Nat}{l:vL}(h:jap f l){i:Nat}(hi:(cutL i l).length≠0):i < 16:=by
 cases e:cutL i l with
 | nil=>rw[e]at hi;exact (hi rfl).elim
 | cons p r =>
  obtain⟨o,a,t,A,E⟩:=jbA (show p∈cutL i l by rw[e];exact bG)
  rw[<-E];exact jfn (h.size p o).2.2.1 A
theorem jk4:∀ (f:Nat) (l:vL),jap f l->∀ p:vB,jaB p=true->getL (ja2 (f+1) l) p.data.toList=valL l p:=by
 intro f;induction f with
 | zero =>
  intro l h p J;have hl:=jbI h
  by_cases h0:l.length=0
  ·rw[jbV _ h0,bE h0];rfl
  ·have A:l.length=1:=vO
   rw[jb1 _ A]
   obtain⟨q,rfl⟩:=fO.1 A
   show (if q.1.data.toList=p.data.toList then some q.2 else none)=if q.1=p then some q.2 else valL [] p
   by_cases e:q.1=p
   ·rw[if_pos e,if_pos (by rw[e])]
   ·rw[if_neg e,if_neg (fun h=>e (jbo h))];rfl
 | succ f ih =>
  intro l h p J
  by_cases h0:l.length=0
  ·rw[jbV _ h0,bE h0];rfl
  by_cases A:l.length=1
  ·rw[jb1 _ A]
   obtain⟨q,rfl⟩:=fO.1 A
   show (if q.1.data.toList=p.data.toList then some q.2 else none)=if q.1=p then some q.2 else valL [] p
   by_cases e:q.1=p
   ·rw[if_pos e,if_pos (by rw[e])]
   ·rw[if_neg e,if_neg (fun h=>e (jbo h))];rfl
  have O:2<=l.length:=vO
  have Q:=jdi h O
  by_cases hk:0 < comK l
  ·rw[jdA _ O hk]
   show (if ((l.getD 0 pd).1.extract 0 (comK l)).data.toList.isPrefixOf p.data.toList=true then getL (ja2 (f+1) (jak (comK l) l)) (p.data.toList.drop _)else none)=_;rw[jaS,Q]
   by_cases hb:preB ((l.getD 0 pd).1.extract 0 (comK l)) p=true
   ·have E:goL l p=some (jak (comK l) l,p.extract (comK l) p.size):=by unfold goL;rw[if_neg vO,if_pos hk,if_pos hb]
    have o:=jsm h J E;have H:((l.getD 0 pd).1.extract 0 (comK l)).data.toList.isPrefixOf p.data.toList=true:=hb;rw[if_pos H, <-jdR,ih _ o.rows _ o.valid,o.find]
   ·have E:goL l p=none:=by unfold goL;rw[if_neg vO,if_pos hk,if_neg hb]
    have o:=(jsl h J E).2;have H:¬((l.getD 0 pd).1.extract 0 (comK l)).data.toList.isPrefixOf p.data.toList=true:=hb;rw[if_neg H, <-o];have e:jar (jac (f+1)) l=⟨2,(l.getD 0 pd).1.extract 0 (comK l),⟨#[]⟩,refB (jac (f+1) (jak (comK l) l)).text :: jan 15⟩:=by unfold jar;rw[if_neg h0,if_neg A,if_pos hk]
    rw[e];rfl
  ·rw[jeS _ O hk]
   cases hpl:p.data.toList with
   | nil =>
    have E:goL l p=none:=by unfold goL;rw[if_neg vO,if_neg hk,hpl]
    have o:=(jsl h J E).2;rw[<-o]
    obtain⟨rs,X⟩:=vE ((List.range 16).map fun i=>if (cutL i l).length=0 then (⟨#[]⟩:vB)else refB (jac (f+1) (jak 1 (cutL i l))).text)
    have e:jar (jac (f+1)) l=⟨3,⟨#[]⟩,if (l.getD 0 pd).1.size=0 then (l.getD 0 pd).2 else ⟨#[]⟩,rs⟩:=by rw[X];unfold jar;rw[if_neg h0,if_neg A,if_neg hk]
    rw[e];have Z:p.size=0:=by rw[<-jaS p,hpl];rfl
    obtain⟨K,a0⟩:=vE (if (l.getD 0 pd).1.size=0 then (l.getD 0 pd).2 else ⟨#[]⟩)
    rw[<-a0];show (if K.size=0 then none else some K)=if (3:Nat)=1 then _ else if (3:Nat)=3 then (if p.size=0/\K.size≠0 then some K else none)else none
    rw[if_neg (by decide:¬(3:Nat)=1),if_pos rfl]
    by_cases hz:K.size=0
    ·rw[if_pos hz,if_neg (fun h=>h.2 hz)]
    ·rw[if_neg hz,if_pos ⟨Z,hz⟩]
   | cons x t =>
    show getL (if (cutL x.toNat l).length=0 then .nil else ja2 (f+1) (jak 1 (cutL x.toNat l))) t=_
    by_cases hc:(cutL x.toNat l).length=0
    ·rw[if_pos hc]
     refine (jgV fun q hq e=>?_).symm;exact jf5 hq (p:=q) (by show q.1.data.toList=x :: t;rw[e,hpl]) hc
    ·rw[if_neg hc]
     have E:goL l p=some (jak 1 (cutL x.toNat l),p.extract 1 p.size):=by
      unfold goL;rw[if_neg vO,if_neg hk,hpl];show (if (cutL x.toNat l).length=0 then _ else _)=_;rw[if_neg hc]
     have o:=jsm h J E;have e:t=(p.extract 1 p.size).data.toList:=by rw[jdR,hpl];rfl
     rw[e,ih _ o.rows _ o.valid,o.find]
theorem je5{f:Nat}{l:vL}(h:jap (f+1) l){i:Nat}(hc:(cutL i l).length≠0):jap f (jak 1 (cutL i l))/\jak 1 (cutL i l)≠[]:=
 ⟨jcU i h,fun e=>by have:=jaI 1 (cutL i l);rw[e]at this;simp at this;exact hc this.symm⟩
theorem jef{f:Nat}{l:vL}(h:jap (f+1) l)(h2:2<=l.length)(hk:0 < comK l):jap f (jak (comK l) l)/\jak (comK l) l≠[]/\2<=(jak (comK l) l).length/\comK (jak (comK l) l)=0:=by
 have o:=jbi h h2
 exact⟨(jcb (comK l) h (fun p A q E=>(o p A).1.trans (o q E).1.symm) (fun p A=>(o p A).2)).mono vO,
  fun e=>by have:=jaI (comK l) l;rw[e]at this;simp at this;omega,by rw[jaI];exact h2,jgt vO⟩
theorem jpA:∀ (f:Nat) (l:vL),jap f l->l≠[]->CanP (ja2 (f+1) l)/\(2<=l.length->comK l=0->(ja2 (f+1) l).isBr=true):=by
 intro f;induction f with
 | zero =>
  intro l h hn;have hl:=jbI h;have h1:l.length=1:=by have:=gE.2 hn;omega
  have J:=h.size _ (jdy (l:=l) vO);rw[jb1 _ h1]
  exact⟨⟨J.2.2.1,by omega⟩,fun H=>by omega⟩
 | succ f ih =>
  intro l h hn;have a0:=gE.2 hn
  by_cases h1:l.length=1
  ·have J:=h.size _ (jdy (l:=l) vO)
   rw[jb1 _ h1]
   exact⟨⟨J.2.2.1,by omega⟩,fun H=>by omega⟩
  have H:2<=l.length:=vO
  have J:=h.size _ (jdy (l:=l) vO)
  by_cases hk:0 < comK l
  ·obtain⟨K,O,k3,k4⟩:=jef h H hk
   obtain⟨i1,i2⟩:=ih _ K O
   rw[jdA _ H hk]
   exact⟨⟨by rw[jdi h H];omega,jhz J.2.2.1 _,i2 k3 k4,i1⟩,fun _ e=>by omega⟩
  ·rw[jeS _ H hk]
   refine⟨⟨fun i o=>?_,fun i o=>?_,?_⟩,fun _ _=>rfl⟩
   ·by_cases A:(cutL i l).length=0
    ·have o:(if (cutL i l).length=0 then PA.nil else ja2 (f+1) (jak 1 (cutL i l))).isNil=false:=o
     rw[if_pos A]at o;cases o
    ·exact jzB h A
   ·have o:(if (cutL i l).length=0 then PA.nil else ja2 (f+1) (jak 1 (cutL i l))).isNil=false:=o
    show CanP (if (cutL i l).length=0 then PA.nil else ja2 (f+1) (jak 1 (cutL i l)))
    by_cases A:(cutL i l).length=0
    ·rw[if_pos A]at o;cases o
    ·rw[if_neg A]
     obtain⟨K,O⟩:=je5 h A
     exact (ih _ K O).1
   ·obtain⟨a,Z⟩:∃ a,l[0]?=some a:=⟨_,bA vO⟩
    obtain⟨b,hb⟩:∃ b,l[l.length - 1]?=some b:=⟨_,bA vO⟩
    have ga:l.getD 0 pd=a:=by rw[bH,Z];rfl
    have gb:l.getD (l.length - 1) pd=b:=by rw[bH,hb];rfl
    have Q:=jcc h.rise vO Z hb;have E:jaY a.l b.l=0:=by
     have:comK l=0:=vO
     unfold comK at this;rw[ga,gb]at this;exact this
    have X:∀ p∈l,∀ x t,p.l=x :: t->(if (cutL x.toNat l).length=0 then PA.nil else ja2 (f+1) (jak 1 (cutL x.toNat l))).isNil=false:=by
     intro p hp x t hx;have A:=jf5 hp hx;rw[if_neg A]
     obtain⟨K,O⟩:=je5 h A
     exact jnK (ih _ K O).1
    cases hbl:b.l with
    | nil=>rw[hbl]at Q;exact absurd Q (not_lt_nil _)
    | cons y s =>
     have kb:=X b (bI hb) y s hbl;cases hal:a.l with
     | nil =>
      right;rw[ga];have h0:a.1.size=0:=by rw[<-jaS];show a.l.length=0;rw[hal];rfl
      rw[if_pos h0]
      have:=(h.size a (bI Z)).2.2.2.1
      exact⟨by omega,y.toNat,kb⟩
     | cons x t =>
      left
      refine⟨x.toNat,y.toNat,fun e=>?_,X a (bI Z) x t hal,kb⟩
      have e:=dS.1 e;rw[hal,hbl,e]at E;simp[jaY]at E
theorem jfh:∀ (P:PA),CanP P->∀ (p:vN) (v:vB),getL P p=some v->∀ x∈p,x.toNat < 16
 | .nil,h,_,_,_=>h.elim
 | .no,h,_,_,_=>h.elim
 | .leaf a v,h,p,u,e=>by
  obtain⟨rfl,_⟩:=jda e
  exact jcq.1 h.1
 | .ext a n,h,p,u,e=>by
  obtain⟨r,rfl⟩:=jeL e
  rw[jiC]at e;intro x o;rcases bU.1 o with o | o
  ·exact jcq.1 h.2.1 x o
  ·exact jfh n h.2.2.2 r u e x o
 | .br v ks,h,[],u,e=>fun x o=>by cases o
 | .br v ks,h,y :: t,u,e=>by
  have e:getL (ks y.toNat) t=some u:=e;have A:(ks y.toNat).isNil=false:=by
   cases hb:(ks y.toNat).isNil with
   | false=>rfl
   | true=>rw[jbF hb]at e;cases e
  intro x o;rcases bM.1 o with rfl | o
  ·exact h.1 _ A
  ·exact jfh (ks y.toNat) (h.2.1 _ A) t u e x o
theorem jtr{f:Nat}{l:vL}(h:jap f l){P:PA}(hP:P=.no\/CanP P)(hg:∀ p:vB,jaB p=true->getL P p.data.toList=valL l p):P=ja2 (f+1) l:=by
 by_cases h0:l.length=0
 ·rw[jbV _ h0]
  rcases hP with e | A
  ·exact e
  ·exfalso
   obtain⟨p,v,e⟩:=jeJ P A
   have o:=jfh P A p v e
   have:=hg ⟨p.toArray⟩ (jcq.2 (by simpa using o))
   rw[bE h0]at this;have J:getL P (⟨p.toArray⟩:vB).data.toList=some v:=by simpa using e
   rw[J]at this;cases this
 ·have K:l≠[]:=fun e=>h0 (by rw[e];rfl)
  obtain⟨A,_⟩:=jpA f l h K
  rcases hP with rfl | hP
  ·exfalso
   obtain⟨p,v,e⟩:=jeJ _ A
   have o:=jfh _ A p v e;have E:=jk4 f l h ⟨p.toArray⟩ (jcq.2 (by simpa using o));have J:getL (ja2 (f+1) l) (⟨p.toArray⟩:vB).data.toList=some v:=by simpa using e
   have H:=hg ⟨p.toArray⟩ (jcq.2 (by simpa using o));rw[J]at E;rw[<-E]at H;cases H
  ·refine uniq P _ hP A fun p=>?_
   by_cases o:∀ x∈p,x.toNat < 16
   ·have E:=jk4 f l h ⟨p.toArray⟩ (jcq.2 (by simpa using o))
    have H:=hg ⟨p.toArray⟩ (jcq.2 (by simpa using o));have e:(⟨p.toArray⟩:vB).data.toList=p:=by simp
    rw[e]at E H;rw[E,H]
   ·have g:∀ Q:PA,CanP Q->getL Q p=none:=by
     intro Q O;cases e:getL Q p with
     | none=>rfl
     | some v=>exact absurd (jfh Q O p v e) o
    rw[g P hP,g _ A]
noncomputable def putN(n:jad):vB:=@ite _ (∃ d,jbS (InlD d) n) (Classical.propDecidable _) (jaQ n) ⟨#[]⟩
theorem jmL{d:Nat}{n:jad}(h:jbS (InlD d) n):putN n=jaQ n:=if_pos ⟨d,h⟩
noncomputable def textP:PA->vB
 | .nil=>⟨#[]⟩
 | .no=>putN jaH
 | .leaf q v=>putN ⟨1,q,v,jan 16⟩
 | .ext q n=>putN ⟨2,q,⟨#[]⟩,refB (textP n) :: jan 15⟩
 | .br v ks=>putN ⟨3,⟨#[]⟩,v,(List.range 16).map fun i=>if (ks i).isNil then ⟨#[]⟩else refB (textP (ks i))⟩
noncomputable def nodeP:PA->jad
 | .nil=>jaH
 | .no=>jaH
 | .leaf q v=>⟨1,q,v,jan 16⟩
 | .ext q n=>⟨2,q,⟨#[]⟩,refB (textP n) :: jan 15⟩
 | .br v ks=>⟨3,⟨#[]⟩,v,(List.range 16).map fun i=>if (ks i).isNil then ⟨#[]⟩else refB (textP (ks i))⟩
noncomputable def underP:PA->vM
 | .nil=>[]
 | .no=>[]
 | .leaf _ _=>[]
 | .ext _ n=>bigs (textP n)++underP n
 | .br _ ks=>(List.range 16).flatMap fun i=>if (ks i).isNil then []else bigs (textP (ks i))++underP (ks i)
theorem jng{P:PA}(h:P.isNil=false):textP P=putN (nodeP P):=by cases P <;> first | rfl | cases h
theorem jdH{f:Nat}{l:vL}:(ja2 (f+1) l).isNil=false:=by
 rw[jew];split
 ·rfl
 ·split
  ·rfl
  ·split <;> rfl
theorem jhg{α:Type}(g:α->List PT):∀ L:List α,jaA (L.flatMap g)=L.flatMap fun i=>jaA (g i)
 | []=>rfl
 | x :: L=>by rw[cG,jct,jhg g L];rfl
theorem jfL:∀ (f:Nat) (l:vL),jap f l->nodeP (ja2 (f+1) l)=jar (jac f) l/\textP (ja2 (f+1) l)=(jac (f+1) l).text/\underP (ja2 (f+1) l)=jaA (jas (jac f) l):=by
 intro f;have o:∀ (f:Nat) (l:vL),jap f l->nodeP (ja2 (f+1) l)=jar (jac f) l->textP (ja2 (f+1) l)=(jac (f+1) l).text:=by
  intro f l Z h;rw[jng jdH,h,jmL (good f l Z).1];rfl
 induction f with
 | zero =>
  intro l h;have hl:=jbI h
  by_cases h0:l.length=0
  ·have e:nodeP (ja2 (0+1) l)=jar (jac 0) l:=by rw[jbV _ h0];unfold jar;rw[if_pos h0];rfl
   exact⟨e,o 0 l h e,by rw[jbV _ h0];unfold jas;rw[if_pos vO];rfl⟩
  ·have A:l.length=1:=vO
   have e:nodeP (ja2 (0+1) l)=jar (jac 0) l:=by rw[jb1 _ A];unfold jar;rw[if_neg h0,if_pos A];rfl
   exact⟨e,o 0 l h e,by rw[jb1 _ A];unfold jas;rw[if_pos vO];rfl⟩
 | succ f ih =>
  intro l h;have H:∀ m,jap f m->m≠[]->bigs (textP (ja2 (f+1) m))++underP (ja2 (f+1) m)=jaA (jbp (jac (f+1) m)):=by
   intro m X O
   obtain⟨_,i2,i3⟩:=ih m X
   have Q:=(good f m X).2.1 O;rw[i2,i3];unfold bigs jbp
   by_cases hz:(jac (f+1) m).text.size < 32
   ·rw[if_pos hz,if_pos hz]
    have e:(jac (f+1) m).kids=[]:=Q.small hz;have e:jas (jac f) m=[]:=e;rw[e];rfl
   ·rw[if_neg hz,if_neg hz]
    show _=jav (jac (f+1) m)++[];rw[bZ];rfl
  by_cases h0:l.length=0
  ·have e:nodeP (ja2 (f+1+1) l)=jar (jac (f+1)) l:=by rw[jbV _ h0];unfold jar;rw[if_pos h0];rfl
   exact⟨e,o _ l h e,by rw[jbV _ h0];unfold jas;rw[if_pos vO];rfl⟩
  by_cases A:l.length=1
  ·have e:nodeP (ja2 (f+1+1) l)=jar (jac (f+1)) l:=by rw[jb1 _ A];unfold jar;rw[if_neg h0,if_pos A];rfl
   exact⟨e,o _ l h e,by rw[jb1 _ A];unfold jas;rw[if_pos vO];rfl⟩
  have J:2<=l.length:=vO
  by_cases hk:0 < comK l
  ·obtain⟨E,K,_,_⟩:=jef h J hk
   have e:nodeP (ja2 (f+1+1) l)=jar (jac (f+1)) l:=by
    rw[jdA _ J hk];unfold jar;rw[if_neg h0,if_neg A,if_pos hk];show (⟨2,_,⟨#[]⟩,refB (textP (ja2 (f+1) (jak (comK l) l))) :: jan 15⟩:jad)=_;rw[(ih _ E).2.1]
   refine⟨e,o _ l h e,?_⟩
   rw[jdA _ J hk];unfold jas;rw[if_neg vO,if_pos hk];exact H _ E K
  ·have e:nodeP (ja2 (f+1+1) l)=jar (jac (f+1)) l:=by
    rw[jeS _ J hk];unfold jar;rw[if_neg h0,if_neg A,if_neg hk];show (⟨3,⟨#[]⟩,_,(List.range 16).map _⟩:jad)=⟨3,⟨#[]⟩,_,(List.range 16).map _⟩
    congr 1
    refine dI fun i _=>?_;show (if (if (cutL i l).length=0 then PA.nil else ja2 (f+1) (jak 1 (cutL i l))).isNil=true then _ else refB (textP (if (cutL i l).length=0 then PA.nil else ja2 (f+1) (jak 1 (cutL i l)))))=_
    by_cases hc:(cutL i l).length=0
    ·rw[if_pos hc,if_pos hc];rfl
    ·obtain⟨E,K⟩:=je5 h hc
     rw[if_neg hc,if_neg hc,jdH,if_neg ff,(ih _ E).2.1]
   refine⟨e,o _ l h e,?_⟩
   have eB:jas (jac (f+1)) l=(List.range 16).flatMap fun i=>if (cutL i l).length=0 then []else jbp (jac (f+1) (jak 1 (cutL i l))):=by unfold jas;rw[if_neg vO,if_neg hk]
   rw[jeS _ J hk,eB,jhg];show (List.range 16).flatMap _=_
   congr 1
   funext i
   show (if (if (cutL i l).length=0 then PA.nil else ja2 (f+1) (jak 1 (cutL i l))).isNil=true then _ else bigs (textP (if (cutL i l).length=0 then PA.nil else ja2 (f+1) (jak 1 (cutL i l))))++underP (if (cutL i l).length=0 then PA.nil else ja2 (f+1) (jak 1 (cutL i l))))=_
   by_cases hc:(cutL i l).length=0
   ·rw[if_pos hc,if_pos hc];rfl
   ·obtain⟨E,K⟩:=je5 h hc
    rw[if_neg hc,if_neg hc,jdH,if_neg ff];exact H _ E K
def keyR(p v:vB):vL:=if jdj p=true then [(jbu p,v)]else []
def entP:PA->vB->vL
 | .nil,_=>[]
 | .no,_=>[]
 | .leaf q v,p=>keyR (p++q) v
 | .ext q n,p=>entP n (p++q)
 | .br v ks,p=>(if v.size=0 then []else keyR p v)++(List.range 16).flatMap fun i=>if (ks i).isNil then []else entP (ks i) (p++nib1 i)
theorem jl5(p a:vB)(k:Nat)(l:vL)(h:∀ q∈l,p++q.1=(p++a)++q.1.extract k q.1.size):(jak k l).map (fun q=>(jbu ((p++a)++q.1),q.2))=l.map fun q=>(jbu (p++q.1),q.2):=by
 unfold jak;rw[dN];refine dI fun q e=>?_;show (jbu ((p++a)++q.1.extract k q.1.size),q.2)=_;rw[<-h q e]
theorem jtp:∀ (f:Nat) (l:vL),jap f l->∀ p:vB,(∀ q∈l,jdj (p++q.1)=true)->entP (ja2 (f+1) l) p=l.map fun q=>(jbu (p++q.1),q.2):=by
 intro f;induction f with
 | zero =>
  intro l h p E;have hl:=jbI h
  by_cases h0:l.length=0
  ·rw[jbV _ h0,bE h0];rfl
  ·have H:l.length=1:=vO
   rw[jb1 _ H]
   obtain⟨q,rfl⟩:=fO.1 H
   show keyR (p++q.1) q.2=[(jbu (p++q.1),q.2)];unfold keyR;rw[if_pos (E q bG)]
 | succ f ih =>
  intro l h p E
  by_cases h0:l.length=0
  ·rw[jbV _ h0,bE h0];rfl
  by_cases H:l.length=1
  ·rw[jb1 _ H]
   obtain⟨q,rfl⟩:=fO.1 H
   show keyR (p++q.1) q.2=[(jbu (p++q.1),q.2)];unfold keyR;rw[if_pos (E q bG)]
  have Q:2<=l.length:=vO
  by_cases hk:0 < comK l
  ·obtain⟨X,k2,_,_⟩:=jef h Q hk
   have J:=jbi h Q;rw[jdA _ Q hk];show entP (ja2 (f+1) (jak (comK l) l)) (p++(l.getD 0 pd).1.extract 0 (comK l))=_;have o:∀ q∈l,p++q.1=(p++(l.getD 0 pd).1.extract 0 (comK l))++q.1.extract (comK l) q.1.size:=fun q A=>jnB (by rw[(J q A).1,jfk]);rw[ih _ X _ (fun q A=>?_),jl5 p _ _ l o]
   obtain⟨r,K,rfl⟩:=bK.1 A
   show jdj ((p++(l.getD 0 pd).1.extract 0 (comK l))++r.1.extract (comK l) r.1.size)=true;rw[<-o r K];exact E r K
  ·rw[jeS _ Q hk]
   have Z:l≠[]:=fun e=>h0 (by rw[e];rfl);have a0:=jkd h;have a1:=jjP h Z;have e1:(if (if (l.getD 0 pd).1.size=0 then (l.getD 0 pd).2 else ⟨#[]⟩:vB).size=0 then []else keyR p (if (l.getD 0 pd).1.size=0 then (l.getD 0 pd).2 else ⟨#[]⟩))=(jo0 l).map fun q=>(jbu (p++q.1),q.2):=by
    rw[a1]
    by_cases hz:(l.getD 0 pd).1.size=0
    ·have hm:=jdy (l:=l) vO
     have hs:=h.size _ hm;rw[if_pos hz,if_pos hz,if_neg vO];have e0:p++(l.getD 0 pd).1=p:=by rw[jby hz];exact jbo (by rw[jlK];simp)
     show keyR p _=[(jbu (p++(l.getD 0 pd).1),(l.getD 0 pd).2)];have O:=E _ hm;rw[e0]at O ⊢;unfold keyR;rw[if_pos O]
    ·rw[if_neg hz,if_neg hz];rfl
   show (if (if (l.getD 0 pd).1.size=0 then (l.getD 0 pd).2 else ⟨#[]⟩:vB).size=0 then []else keyR p (if (l.getD 0 pd).1.size=0 then (l.getD 0 pd).2 else ⟨#[]⟩))++(List.range 16).flatMap _=l.map _;rw[e1]
   conv=>rhs;rw[a0]
   rw[cB,List.map_flatMap]
   congr 1
   congr 1
   funext i
   show (if (if (cutL i l).length=0 then PA.nil else ja2 (f+1) (jak 1 (cutL i l))).isNil=true then []else entP (if (cutL i l).length=0 then PA.nil else ja2 (f+1) (jak 1 (cutL i l))) (p++nib1 i))=_
   by_cases hc:(cutL i l).length=0
   ·rw[if_pos hc,bE hc];rfl
   ·obtain⟨X,k2⟩:=je5 h hc
    rw[if_neg hc,jdH,if_neg ff];have o:∀ q∈cutL i l,p++q.1=(p++nib1 i)++q.1.extract 1 q.1.size:=fun q A=>by
     obtain⟨_,a,r,e,ha⟩:=jbA A
     exact jnA (k:=0) e ha
    rw[ih _ X _ (fun q A=>?_),jl5 p _ _ _ o]
    obtain⟨r,K,rfl⟩:=bK.1 A
    show jdj ((p++nib1 i)++r.1.extract 1 r.1.size)=true;rw[<-o r K];exact E r (jbA K).1
theorem jAA(w:vW)(v:vV)(l:vL)(hc:jb0 w)(hv:RdP w v l)(h:jaz l=0):vR 109 #[v] w (.tuple #[.string (jaG l).text,.int .i64 0]):=by
 have E:=jaD h
 obtain⟨a,c,rfl⟩:=hv.sl;have Z:=Hd hv;have J:=Hd E;have HC:=Hd hc;have H:=Hd h;have K:=Hd E.len;clear hv E hc h;unfold vR vQ;go_in;go_wp2_with fail
 refine vH (jg8 w _ l Z.o (by have:=K.o;omega) (fun p O=>by have:=J.o.size p O;omega)) fun w1 HE=>?_;rw[H.o];go_wp2_with fail
 refine (jwS w1 _ l (Z.o.ext HE.o) (by have:=K.o;omega) (fun p O=>by have:=J.o.size p O;omega)).mono ?_;rintro e w2 ⟨u,rfl,Q⟩;have HR:=Hd Q.rd;have HX:=Hd (HE.o.trans Q.ext);clear Q
 obtain⟨a2,c2,hu⟩:=HR.o.sl
 subst hu;go_wp2_with fail
 refine (jkw 12 (jaP l) (jbD J.o) (by unfold jaP;rw[cC];have:=K.o;omega) w2 _ (HC.o.ext HX.o) HR.o).mono ?_;rintro e w3 ⟨k,rfl,hk,hE⟩
 obtain⟨a0,vk,bk,A,_⟩:=hk.open
 have q0:w3.cell? ⟨k,0,none⟩=some (.string (jac 13 (jaP l)).text):=A.cell vF;have X:=Hd (HX.o.trans hE);clear hk A hE;unfold ptrV;go_wp2_with fail
 go_ret2
 exact⟨rfl,X.o⟩
theorem jys(w:vW)(v:vV)(l:vL)(hc:jb0 w)(hv:RdP w v l)(h:jaz l=0):vR 63 #[v] w (.tuple #[.string (shaB (jaG l).text),.int .i64 0]):=by
 have E:=jAA w v l hc hv h
 obtain⟨a,c,rfl⟩:=hv.sl
 obtain⟨t,J⟩:=vE (jaG l).text
 rw[<-J]at E ⊢;have O:=Hd E;have Q:=Hd hc;clear E hc hv J h;unfold vR vQ;go_in;go_wp2_with fail
 refine O.o.mono ?_;rintro e w1 ⟨rfl,A⟩;have K:=Hd A;clear A;go_wp2_with fail
 refine vH (of_t _ _ [t] (by simp) (jb2 w1 [t] 9) (Q.o.ext (K.o.alloc _))) fun X A=>?_;rw[jdx];have H:=Hd ((K.o.alloc _).trans A);go_wp2_with fail
 go_ret2
 exact⟨rfl,H.o⟩
theorem jxE(d:Nat)(a b:vB)(w:vW):(Op.equalIn (d+1) 9 (.string a) (.string b)).run Tryz.prog w=.ok (a == b) w:=by
 simp[Op.equalIn,cA,run_underlying Tryz.uStr,Result.andThen,cO]
def jhd(d:Option TypeDesc)(l:List (Bool × TypeId × Nat)):Bool:=match d with | some (.struct fs)=>fs.toList.map (fun f=>(f.name == "_",f.type,f.offset)) == l | _=>false
theorem jxF{d:Option TypeDesc}(h:jhd d [(false,9,0),(false,9,1)]=true):∃ f g:Field,d=some (.struct #[f,g])/\f.name ≠ "_"/\f.type=9/\f.offset=0/\g.name ≠ "_"/\g.type=9/\g.offset=1:=by
 cases d with
 | none=>cases h
 | some d =>
  cases d <;> try (cases h;done)
  rename_i fs
  obtain⟨l⟩:=fs
  rcases l with _ |⟨f,_ |⟨g,_ |⟨e,r⟩⟩⟩ <;> simp[jhd]at h
  obtain⟨⟨o,A,E⟩,H,J,K⟩:=h
  exact⟨f,g,rfl,o,A,E,H,J,K⟩
section
section mixf
variable {P:Program} {l:List Oper} {E:vW->vW->Prop}
variable {R:List Nat->Act->vW->Prop} {ord done:List Nat} {a:Act} {w:vW} {k:Nat} {o:Oper}
end mixf
end
def jzn(P:Program)(l:Nat)(args:Array vV)(W:vW)(r:Nat)(Ct:vW->Prop):Prop:=
 YieldAt Fence.wide 0 P l args W fun e W'=>e=.returned (.bool true)/\jae (fun b=>b≠r) W W'/\Ct W'
def jy3(P:Program)(gf:FuncId)(lb:Array vV){σ:Type}(s0:σ)(Step:σ->Array vV->σ->Prop)(Done:σ->Prop)(S:vW->Prop):Prop:=
 ∀ (l:Nat) (C:σ->vW->Prop) (W:vW),(∀ s W1 W2,C s W1->jae (fun b=>b=W.heap.size) W1 W2->C s W2)->(∀ s W1,C s W1->S W1) ->
  (∀ s v s' W1,Step s v s'->C s W1->W.heap.size < W1.heap.size->jzn P l v W1 W.heap.size (C s'))->C s0 W ->
   CallsIn Fence.wide 0 P gf (#[.func (.yield l) #[] #[]]++lb) W (fun e W'=>(∃ v,e=.returned v)/\∃ s,Done s/\C s W')
def jzh(g:Nat)(W:vW)(Ct:vW->Prop):Exit->Act->vW->Prop
 | .normal,_,W'=>jae (fun b=>b≠g/\b≠g+1/\b≠g+2) W W'/\Ct W'
 | _,_,_=>False
theorem juj{P:Program}{g:Operand}{ps:Array Tmp}{assign body:Code}{Q:Exit->Act->vW->Prop}{a:Act}{w:vW}
  {gf:Nat} {lb:Array vV} (hg:a.eval g=.func (.func gf) #[] lb) (eg:∀ args w,(callFunc gf args).run P w=.ok (.enter gf args) w)
  {σ:Type} {s0:σ} {Step:σ->Array vV->σ->Prop} {Done:σ->Prop} {S:vW->Prop} (IS:jy3 P gf lb s0 Step Done S)
  (hps:∀ s v O,Step s v O->v.size=ps.size)
  (C:σ->vW->Prop) (hC:∀ s W E,C s W->jae (fun b=>b=w.heap.size\/b=w.heap.size+1\/b=w.heap.size+2) W E->C s E) (hS:∀ s W,C s W->S W)
  (h0:C s0 w) (a₁:Array vV->Act)
  (hassign:∀ (l:Nat) (v:Array vV) (s O:σ) (W:vW) (K:Act->vW->Prop),Step s v O->K (a₁ v) W ->
   assign.wpIn (Fence.wide.inRound l) 0 P (Exit.then K (fun _ _ _=>False)) { tmps:=(ps.zip v).foldl (fun t (p,v)=>t.setIfInBounds p v) a.tmps,defers:=[] } W)
  (hbody:∀ (l:Nat) (v:Array vV) (s O:σ) (W:vW),Step s v O->C s W->w.heap.size+2 < W.heap.size->body.wpIn (Fence.wide.inRound l) 0 P (jzh w.heap.size W (C O)) (a₁ v) W)
  (hdone:∀ (s:σ) (W:vW),Done s->C s W->Blk W w.heap.size (.deferred (some []))->Q .normal { a with defers:={ target:=.collected w.heap.size,args:=#[] } :: a.defers } W) :
  (Code.rangeFunc g ps assign body).wpIn Fence.wide 0 P Q a w:=by
 refine wpIn_rangeFunc ?_;intro fn _;show ∃ l mark w₁ d w₁' f args w₂,(Instr.enterLoop fn a.tmps ps assign body none).run P w=_/\_
 obtain⟨o,A⟩:∃ o:LoopState->Option Code->Loop,o=fun st pe=>{ state:=st,pending:=pe,fn,tmps:=a.tmps,params:=ps,assign,body,defers:=w.heap.size }:=⟨_,rfl⟩
 obtain⟨J,X⟩:∃ J,(w.alloc (.deferred (some []))).alloc (.loop (o .ready none))=J:=⟨_,rfl⟩
 have a2:Blk J (w.heap.size+1) (.loop (o .ready none)):=by
  rw[<-X];have:=Blk.new (w.alloc (.deferred (some []))) (.loop (o .ready none));rwa [bT]at this
 have a3:Blk J w.heap.size (.deferred (some [])):=by
  rw[<-X];exact (Blk.new w _).alloc _
 have a4:Ext w J:=by rw[<-X];exact ((jae.refl _ w).alloc _).alloc _
 have H:J.heap.size=w.heap.size+2:=by rw[<-X];simp
 refine⟨w.heap.size+1,[{ target:=.collected w.heap.size,args:=#[] }],J,{ target:=.fn (.func gf) lb,args:=#[.func (.yield (w.heap.size+1)) #[] #[]] },J,gf,
  #[.func (.yield (w.heap.size+1)) #[] #[]]++lb,J,?_,?_,?_,?_,fun h=>by simp[Fence.wide]at h,?_⟩
 ·rw[<-X,A];exact run_enterLoop_outer _ _ _ _ _
 ·simp only[resolve,hg]
  simp[go_sem]
 ·intro f' _;trivial
 ·simp[invoke,go_sem,eg]
 ·let CC:σ->vW->Prop:=fun s W=>C s W/\Blk W (w.heap.size+1) (.loop (o .ready none))/\Blk W w.heap.size (.deferred (some []))
  have a5:=IS (w.heap.size+1) CC J (fun s Wa Wb ⟨h1,h2,Z⟩ e=>⟨hC s _ _ h1 (e.mono (fun b _ h=>by rw[H]at h;exact .inr (.inr h))),h2.keeps e (by rw[H];omega),Z.keeps e (by rw[H];omega)⟩)
   (fun s W h=>hS s W h.1) ?_ ⟨hC s0 _ _ h0 (a4.mono (fun _ _ h=>h.elim)),a2,a3⟩
  ·refine CallsIn.mono a5 ?_
   rintro e E ⟨⟨v,rfl⟩,s,hd,h1,Z,h4⟩
   obtain⟨ox,he⟩:∃ ox,(Instr.endLoop (w.heap.size+1)).run P E=.ok none (E.putObj (w.heap.size+1) ox):=⟨_,(run_endLoop (r:=o .ready none) Z (by rw[A];simp)).trans (by rw[A])⟩
   exact⟨none,_,he,hdone s _ hd (hC s _ _ h1 ((jae.onePut _ _ _).mono (fun b _ h=>.inr (.inl h)))) (h4.put_other vO _)⟩
  ·rintro s v O W a0 ⟨h1,Z,h4⟩ a1
   rw[H]at a1
   refine⟨_,_,_,_,run_yield Z (by rw[A];exact hps s v O a0),?_⟩
   refine roundIn_of_wpIn trivial ?_;rw[show (o .ready none).tmps=a.tmps from by rw[A],show (o .ready none).params=ps from by rw[A],show (o .ready none).assign=assign from by rw[A],show (o .ready none).body=body from by rw[A]];refine hassign _ v s O W _ a0 ?_
   refine⟨_,run_beginRound Z (by rw[A]),?_⟩
   have a6:C s (W.putObj (w.heap.size+1) (.loop { o .ready none with state:=.busy })):=hC s _ _ h1 ((jae.onePut _ _ _).mono (fun b _ h=>.inr (.inl h)));refine Code.wpIn_mono ?_ (hbody (w.heap.size+1) v s O _ a0 a6 (by rw[World.putObj_size];exact a1));have a7:∀ (j:Option Code) (E:vW),jae (fun b=>b≠w.heap.size/\b≠w.heap.size+1/\b≠w.heap.size+2) (W.putObj (w.heap.size+1) (.loop { o .ready none with state:=.busy })) E ->
     (Instr.endRound (w.heap.size+1) j).run P E=.ok (.bool j.isNone) (E.putObj (w.heap.size+1) (.loop (o (if j.isNone then .ready else .done) j))) /\
     Blk (E.putObj (w.heap.size+1) (.loop (o (if j.isNone then .ready else .done) j))) (w.heap.size+1) (.loop (o (if j.isNone then .ready else .done) j)) /\
     Blk (E.putObj (w.heap.size+1) (.loop (o (if j.isNone then .ready else .done) j))) w.heap.size (.deferred (some [])):=by
    intro j E hK;have hl:Blk E (w.heap.size+1) (.loop { o .ready none with state:=.busy }):=(Z.put_same _).keeps hK (fun h=>h.2.1 rfl);have hd:Blk E w.heap.size (.deferred (some [])):=(h4.put_other vO _).keeps hK (fun h=>h.1 rfl)
    refine⟨?_,hl.put_same _,hd.put_other vO _⟩
    rw[run_endRound j hl,A]
   intro e a' E hq;cases e with
   | normal =>
    obtain⟨hK,hc⟩:=hq
    obtain⟨f1,f2,f3⟩:=a7 none E hK
    have k1:jae (fun b=>b≠J.heap.size) W (W.putObj (w.heap.size+1) (.loop { o .ready none with state:=.busy })):=(jae.onePut _ _ _).mono (fun b _ h=>by have h:b=w.heap.size+1:=h;rw[H];omega);have k2:jae (fun b=>b≠J.heap.size) (W.putObj (w.heap.size+1) (.loop { o .ready none with state:=.busy })) E:=hK.mono (fun b _ h=>by rw[H];exact h.2.2);have k3:jae (fun b=>b≠J.heap.size) E (E.putObj (w.heap.size+1) (.loop (o .ready none))):=(jae.onePut _ _ _).mono (fun b _ h=>by have h:b=w.heap.size+1:=h;rw[H];omega)
    exact⟨_,_,f1,rfl,(k1.trans k2).trans k3,hC O _ _ hc ((jae.onePut _ _ _).mono (fun b _ h=>.inr (.inl h))),f2,f3⟩
   | _=>exact hq.elim
section
attribute [local go_sem] Oper.semAt_some
abbrev EntS:=Ent (vN)
theorem Tryz.uMapSE:Tryz.prog.underlying 133=some (.map 9 42):=vY
def jf3(s:List EntS):Array Nat:=(s.map (·.2.2)).toArray
def jy4(es:List EntS)(s:List EntS)(v:Array vV)(s':List EntS):Prop:=∃ x∈jaZ es (jf3 s),v=#[str x.1]/\s'=s++[x]
def jqb(es:List EntS)(s:List EntS):Prop:=jaZ es (jf3 s)=[]
def jtW(w:vW)(r:Nat):Array Nat:=match w.heap[r]? with | some (.mapIter _ _ s _)=>s | _=>#[]
theorem jkg{w:vW}{r:Nat}{m:Option Nat}{a b:Nat}{s:Array Nat}(h:Blk w r (.mapIter m a s b)):jtW w r=s:=by
 unfold jtW;rw[show w.heap[r]?=_ from h]
theorem jxU{es:List EntS}{s:List EntS}{x:EntS}(hx:x∈jaZ es (jf3 s)):(jaZ es (jf3 (s++[x]))).length < (jaZ es (jf3 s)).length:=by
 have e:jaZ es (jf3 (s++[x]))=(jaZ es (jf3 s)).filter (fun y => !(y.2.2 == x.2.2)):=by
  unfold jaZ jf3;rw[List.filter_filter];refine List.filter_congr (fun y _=>?_);simp only[List.contains_toArray,cB,bS,iC,List.contains_append]
  by_cases h1:y.2.2=x.2.2 <;> simp[h1]
 rw[e,List.length_filter_lt_length_iff_exists]
 exact⟨x,hx,by simp⟩
def KyS(bx bm ck:Nat)(es:List EntS)(W:vW):Prop:=Blk W bx (.cells #[.map (some bm)] 133)/\Blk W bm (.map (Tryz.ES.arr es) ck)
def jAR(r bm ck:Nat)(es:List EntS)(C:List EntS->vW->Prop)(wr:vW):Prop:=∃ s,C s wr/\Blk wr r (.mapIter (some bm) ck (jf3 s) ck)
theorem jxP(bx bm ck:Nat)(es:List EntS)(hnd:(es.map (·.2.2)).Nodup)(hlt:∀ x∈es,x.2.2 < ck) :
  jy3 Tryz.prog 111 #[.pointer (some ⟨bx,0,none⟩)] ([]:List EntS) (jy4 es) (jqb es) (KyS bx bm ck es):=by
 intro l C W hC hS hY h0
 obtain⟨O,E⟩:=hS _ _ h0
 have c1:=O.cell (i:=0) (v:=.map (some bm)) vF;have Q:=jm7 Tryz.ES Tryz.uMapSE E;have H:=Hd (show C [] (W.alloc (.mapIter (some bm) ck #[] ck))from hC [] _ _ h0 (((ExtR W).alloc _).mono (fun _ _ h=>h.elim)));have HC:=Hd hC;have HS:=Hd hS;have HY:=Hd hY;have J:=Hd hnd;have K:=Hd hlt;clear hC hS hY h0 O E hnd hlt;refine callsIn_of_wp Tryz.func111 rfl trivial ?_ rfl;simp only[Tryz.ntmps111,dK,bF,cF,Nat.reduceAdd,Nat.reduceSub,dP,dO,fC,dY,cT,dA];gi_wp2_with fail
 obtain⟨r,hr⟩:=vE W.heap.size
 have HR:=Hd hr;rw[<-hr];clear hr;gi_loopw [] (fun wr=>jAR r bm ck es C wr) (fun wr=>(jaZ es (jtW wr r)).length)
 case atStart=>exact⟨[],H.o,by rw[HR.o];exact Blk.new W _⟩
 case round =>
  obtain⟨s,A,X⟩:=hrel
  obtain⟨O,E⟩:=HS.o _ _ A
  rcases jpS Tryz.ES E X K.o 0 with⟨hl0,hnx⟩ |⟨x,hxl,w2,hnx,hr2,hk2⟩
  ·have a8:Hid (jqb es s):=hl0
   have a9:=Hd A;clear hl0 A O E X HC HS HY J K H c1 Q;gi_wp2_with fail
   refine bodyPost_end (results_none rfl _ _ _) rfl ?_
   exact⟨⟨_,rfl⟩,s,a8.o,a9.o⟩
  ·have Z:r≠bm:=fun e=>by have:=E.uniq (e ▸ X);cases this
   have a1:=E.keeps hk2 (fun e=>Z e.symm);have a2:x∈es:=(cP.1 hxl).1;have b0:=jm6 Tryz.ES a1 a2 hr2 J.o;have a3:C s w2:=HC.o s _ _ A (hk2.mono (fun b _ e=>by rw[<-HR.o];exact e))
   obtain⟨fn,tm,b1,bd,a4,a5⟩:=HY.o s #[str x.1] (s++[x]) w2 ⟨x,hxl,rfl,rfl⟩ a3 (by rw[<-HR.o];exact hr2.lt)
   have a0:(Instr.yield l #[Tryz.ES.κ x.1]).run Tryz.prog w2=.ok (.round l fn tm b1 bd) w2:=a4;have b2:=Hd hxl;have b3:=Hd (jkg X);have a6:(jf3 s).push x.2.2=jf3 (s++[x]):=by unfold jf3;simp
   rw[a6]at hr2;have b4:=Hd hr2;have b5:=Hd a5;clear a4 a3 A O E X HC HS J K H c1 Q a1 hk2 hxl a2 hr2 a5 a6 Z;gi_wp2_with fail
   refine⟨rfl,b5.o.mono ?_⟩
   rintro e w5 ⟨rfl,k5,C5⟩;have a7:=Hd (b4.o.keeps k5 (fun h=>h HR.o));have b6:=Hd C5;clear C5 k5 hnx b0 a0;gi_wp2_with fail
   go_roundw
   case rel=>exact⟨_,b6.o,a7.o⟩
   case measure =>
    rw[jkg a7.o,b3.o];exact jxU b2.o
def revJ(j:Nat):List Nat:=(List.range 16).reverse.take j
theorem jtG{j:Nat}(h:j < 16):revJ (j+1)=revJ j++[15 - j]:=by
 unfold revJ
 have:(List.range 16).reverse[j]?=some (15 - j):=by
  rw[List.getElem?_reverse (by simpa using h),gS,dW vO]
 rw[bW,this];rfl
theorem jkG{F:BSet}{w2 w3:vW}{m:Nat}{a:Act}{o:Oper}(ho:execOp a.eval o=(do pure (.value (<-convert 120 9 (.slice (some ⟨w2.heap.size,0,none⟩) 1 1)))))
  (h:jae F (w2.alloc (.cells #[.int .u8 (m:Int)] 5)) w3) (hF:¬ F w2.heap.size) (hm:m < 16):(execOp a.eval o).run Tryz.prog w3=.ok (.value (.string (nib1 m))) w3:=by
 have A:=(Blk.new w2 (.cells #[.int .u8 (m:Int)] 5)).keeps h hF;have e:(m:Int)=((UInt8.ofNat m).toNat:Int):=by rw[jox m vO]
 have E:w3.ownsRow 0 5 1 (.slice (some ⟨w2.heap.size,0,none⟩) 1 1) 1 (jaK [UInt8.ofNat m]):=
  ⟨rfl,.inr ⟨_,1,_,rfl,cD _,A,bL _,by unfold maxLen;omega,rfl,by rw[e];rfl⟩⟩
 have H:=jbB w3 Tryz.uBytes Tryz.uU8 Tryz.uStr E;rw[ho,cA,H];rfl
end
