/- Lemmas; each is under no condition but those that it states. -/
import Derived.Test.YtmobgkphhbmhbaaGreatDoorPe18
namespace Go.Proofs.YtmobgkphhbmhbaaGreatDoor
set_option linter.unusedSimpArgs false
set_option linter.unusedVariables false
set_option maxRecDepth 100000
set_option maxHeartbeats 16000000
open Go Go.RowKit
def jnh(n:jae)(p:vB):vB × vB:=
 if n.kind=3 then match p.data.toList with
  | []=>(⟨#[]⟩,p)
  | x :: _=>if (n.refs.getD x.toNat ⟨#[]⟩).size=0 then (⟨#[]⟩,p)else (n.refs.getD x.toNat ⟨#[]⟩,p.extract 1 p.size)
 else if n.kind=2 then if preB n.path p then (n.refs.getD 0 ⟨#[]⟩,p.extract n.path.size p.size)else (⟨#[]⟩,p)
 else (⟨#[]⟩,p)
def ji6(n:jae)(p:vB):Option vB:=
 if n.kind=1 then if n.path=p then some n.value else none
 else if n.kind=3 then if p.size=0/\n.value.size≠0 then some n.value else none
 else none
def valL:vL->vB->Option vB
 | [],_=>none
 | q :: l,p=>if q.1=p then some q.2 else valL l p
def goL(l:vL)(p:vB):Option (vL × vB):=
 if l.length<=1 then none
 else if 0 < comK l then if preB ((l.getD 0 pd).1.extract 0 (comK l)) p then some (jag (comK l) l,p.extract (comK l) p.size)else none
 else match p.data.toList with
  | []=>none
  | x :: _=>if (cutL x.toNat l).length=0 then none else some (jag 1 (cutL x.toNat l),p.extract 1 p.size)
def bigs(t:vB):vM:=if t.size < 32 then []else [t]
def sumL:vL->Nat
 | []=>0
 | q :: l=>q.1.size+sumL l
theorem jkC:∀ {l:vL} {p v:vB},valL l p=some v->(p,v)∈l
 | q :: l,p,v,h=>by
  unfold valL at h;split at h
  ·rename_i e
   obtain rfl:=bV h;subst e;exact bF
  ·exact bD _ (jkC h)
theorem joO:∀ {l:vL} {p v:vB},(l.Pairwise fun p q=>Lt p.l q.l)->(p,v)∈l->valL l p=some v
 | q :: l,p,v,hl,h=>by
  rw[cY]at hl;unfold valL;rcases bK.1 h with h | h
  ·subst h;rw[if_pos rfl]
  ·rw[if_neg (fun e=>by have:=hl.1 _ h;rw[show q.l=p.data.toList from congrArg (fun x:vB=>x.data.toList) e]at this;exact lt_irrefl _ this),joO hl.2 h]
theorem jgD{l:vL}{p:vB}(h:∀ q∈l,q.1≠p):valL l p=none:=by
 cases hv:valL l p with
 | none=>rfl
 | some v=>exact absurd rfl (h _ (jkC hv))
theorem joP{l m:vL}{p q:vB}(hl:l.Pairwise fun p q=>Lt p.l q.l)(hm:m.Pairwise fun p q=>Lt p.l q.l)(h:∀ v,(p,v)∈l↔(q,v)∈m):valL l p=valL m q:=by
 cases hv:valL l p with
 | some v=>exact (joO hm ((h v).1 (jkC hv))).symm
 | none =>
  cases hw:valL m q with
  | none=>rfl
  | some v=>rw[joO hl ((h v).2 (jkC hw))]at hv;cases hv
theorem jdk(a p:vB):preB a p=true↔∃ r,p.data.toList=a.data.toList++r:=by
 unfold preB;rw[List.isPrefixOf_iff_prefix]
 exact⟨fun ⟨r,h⟩=>⟨r,h.symm⟩,fun ⟨r,h⟩=>⟨r,h.symm⟩⟩
theorem jdG(b:vB)(k:Nat):(b.extract k b.size).data.toList=b.data.toList.drop k:=jcD b k b.size (bM _)
theorem jaO(b:vB):b.data.toList.length=b.size:=rfl
theorem joE(k:Nat):∀ l:vL,sumL (jag k l)<=sumL l
 | []=>bM _
 | q :: l=>by
  have:=joE k l
  show (q.1.extract k q.1.size).size+sumL (jag k l)<=q.1.size+sumL l;rw[jaZ];omega
theorem jiI{k:Nat}(hk:0 < k):∀ {l:vL},l≠[]->(∀ q∈l,k<=q.1.size)->sumL (jag k l) < sumL l
 | q :: l,_,h=>by
  have:=joE k l
  have:=h q bF
  show (q.1.extract k q.1.size).size+sumL (jag k l) < q.1.size+sumL l;rw[jaZ];omega
theorem jjG(g:Pair->Bool):∀ l:vL,sumL (l.filter g)<=sumL l
 | []=>bM _
 | q :: l=>by
  have:=jjG g l
  rw[dN];show _<=q.1.size+sumL l;split
  ·show q.1.size+sumL _<=_;omega
  ·omega
structure KidP(f:Nat)(l:vL)(p:vB)(m:vL)(q:vB):Prop where
 rows:jaq f m
 ne:m≠[]
 step:jnh (jak (jab (f+1)) l) p=(refB (jab (f+1) m).text,q)
 less:q.size < p.size
 valid:jaM q=true
 flat:∀ x∈jam (jab (f+1) m),32<=x.size->x∈jam (jab (f+1+1) l)
 find:valL m q=valL l p
 sum:sumL m < sumL l
 no:ji6 (jak (jab (f+1)) l) p=none
theorem jdq{l:vL}(h:0 < l.length):l.getD 0 pd∈l:=by rw[bH,bA h];exact fC _
theorem jeZ{l:vL}:((l.getD 0 pd).1.extract 0 (comK l)).data.toList=(l.getD 0 pd).l.take (comK l):=by
 rw[fD,fW,fE];simp
theorem jdb{f:Nat}{l:vL}(h:jaq f l)(h2:2<=l.length):((l.getD 0 pd).1.extract 0 (comK l)).size=comK l:=by
 have:=(jbq h h2 _ (jdq vO)).2
 rw[dC];omega
theorem jra{f:Nat}{l:vL}{p:vB}{m:vL}{q:vB}(h:jaq (f+1) l)(J:jaM p=true)(o:goL l p=some (m,q)):KidP f l p m q:=by
 unfold goL at o
 by_cases h1:l.length<=1
 ·rw[if_pos h1]at o;cases o
 rw[if_neg h1]at o;have K:2<=l.length:=vO
 have z:=jbq h K
 by_cases hk:0 < comK l
 ·rw[if_pos hk]at o
  by_cases hpre:preB ((l.getD 0 pd).1.extract 0 (comK l)) p=true
  case neg=>rw[if_neg hpre]at o;cases o
  rw[if_pos hpre]at o
  obtain⟨rfl,rfl⟩:=Prod.mk.inj (bV o)
  have E:jaq f (jag (comK l) l):=(jci (comK l) h (fun p J q X=>(z p J).1.trans (z q X).1.symm) (fun p J=>(z p J).2)).mono vO;have H:jag (comK l) l≠[]:=fun e=>by have:=jaA (comK l) l;rw[e]at this;simp at this;omega
  have eB:jan (jab (f+1)) l=jbw (jab (f+1) (jag (comK l) l)):=by unfold jan;rw[if_neg vO,if_pos hk]
  have Z:jak (jab (f+1)) l=⟨2,(l.getD 0 pd).1.extract 0 (comK l),⟨#[]⟩,refB (jab (f+1) (jag (comK l) l)).text :: jav 15⟩:=by unfold jak;rw[if_neg vO,if_neg vO,if_pos hk]
  obtain⟨r,hr⟩:=(jdk _ _).1 hpre
  have a4:comK l<=p.size:=by
   rw[<-jaO p,hr,bG,jaO,jdb h K];omega
  refine⟨E,H,?_,by rw[jaZ];omega,jbl J _ _,jhz H E (by rw[eB];exact fun _ hh=>hh),?_,jiI hk (fun e=>by rw[e]at K;simp at K) (fun q X=>(z q X).2),by rw[Z];rfl⟩
  ·rw[Z]
   unfold jnh;rw[if_neg (show ¬(2:Nat)=3 by decide),if_pos rfl,if_pos hpre];show (_,p.extract ((l.getD 0 pd).1.extract 0 (comK l)).size p.size)=_;rw[jdb h K];rfl
  ·refine joP E.rise h.rise fun v=>⟨fun O=>?_,fun O=>?_⟩
   ·obtain⟨x,hx,e⟩:=bC.1 O
    obtain⟨e1,e2⟩:=Prod.mk.inj e
    have:x=(p,v):=by
     refine Prod.ext (jbK ?_) e2;have e3:x.1.data.toList.drop (comK l)=p.data.toList.drop (comK l):=by rw[<-jdG,e1,jdG]
     have e4:x.1.data.toList.take (comK l)=p.data.toList.take (comK l):=by
      rw[show x.1.data.toList=x.l from rfl,(z x hx).1, <-jeZ,hr,gG (by rw[jaO,jdb h K];exact bM _),cD (by rw[jaO,jdb h K];exact bM _)]
     show x.1.data.toList=p.data.toList;rw[<-dF (comK l) x.1.data.toList,e3,e4,dF]
    rw[<-this];exact hx
   ·exact bC.2 ⟨_,O,rfl⟩
 ·rw[if_neg hk]at o
  cases hpl:p.data.toList with
  | nil=>rw[hpl]at o;cases o
  | cons x r =>
   rw[hpl]at o
   by_cases hc:(cutL x.toNat l).length=0
   ·have o:(if (cutL x.toNat l).length=0 then none else some (jag 1 (cutL x.toNat l),p.extract 1 p.size))=some (m,q):=o
    rw[if_pos hc]at o;cases o
   have o:(if (cutL x.toNat l).length=0 then none else some (jag 1 (cutL x.toNat l),p.extract 1 p.size))=some (m,q):=o;rw[if_neg hc]at o
   obtain⟨rfl,rfl⟩:=Prod.mk.inj (bV o)
   have E:jaq f (jag 1 (cutL x.toNat l)):=jdM x.toNat h;have H:jag 1 (cutL x.toNat l)≠[]:=fun e=>by have:=jaA 1 (cutL x.toNat l);rw[e]at this;simp at this;exact hc this.symm
   have hx:x.toNat < 16:=je2 (p:=(p,p)) J hpl;have eB:jan (jab (f+1)) l=(List.range 16).flatMap fun i=>if (cutL i l).length=0 then []else jbw (jab (f+1) (jag 1 (cutL i l))):=by unfold jan;rw[if_neg vO,if_neg hk]
   obtain⟨rs,Q⟩:=vE ((List.range 16).map fun i=>if (cutL i l).length=0 then (⟨#[]⟩:vB)else refB (jab (f+1) (jag 1 (cutL i l))).text)
   obtain⟨va,a3⟩:=vE (if (l.getD 0 pd).1.size=0 then (l.getD 0 pd).2 else ⟨#[]⟩)
   have Z:jak (jab (f+1)) l=⟨3,⟨#[]⟩,va,rs⟩:=by rw[Q,a3];unfold jak;rw[if_neg vO,if_neg vO,if_neg hk]
   have a0:rs.getD x.toNat ⟨#[]⟩=refB (jab (f+1) (jag 1 (cutL x.toNat l))).text:=by rw[Q,jfs _ hx,if_neg hc]
   clear Q a3;have a4:1<=p.size:=by rw[<-jaO p,hpl];simp
   have a1:∀ q∈cutL x.toNat l,1<=q.1.size:=fun q X=>by
    obtain⟨_,a,r,e,_⟩:=jbp X
    rw[<-jaO,show q.1.data.toList=a :: r from e];simp
   have a2:sumL (jag 1 (cutL x.toNat l)) < sumL l:=bP (jiI (Nat.zero_lt_one) (fun e=>hc (by rw[e];rfl)) a1) (jjG _ _)
   refine⟨E,H,?_,by rw[jaZ];omega,jbl J _ _,jhz H E (fun y hy=>?_),?_,a2,?_⟩
   ·rw[Z]
    unfold jnh;rw[if_pos rfl,hpl];show (if (rs.getD x.toNat ⟨#[]⟩).size=0 then _ else (rs.getD x.toNat ⟨#[]⟩,_))=_;rw[a0,if_neg (jks E H)]
   ·rw[eB]
    exact cI.2 ⟨x.toNat,dQ.2 hx,by rw[if_neg hc];exact hy⟩
   ·refine joP E.rise h.rise fun v=>⟨fun O=>?_,fun O=>?_⟩
    ·obtain⟨y,hy,e⟩:=bC.1 O
     obtain⟨a5,a,r',e3,e4⟩:=jbp hy
     obtain⟨e1,e2⟩:=Prod.mk.inj e
     have:y=(p,v):=by
      refine Prod.ext (jbK ?_) e2;have e5:y.1.data.toList.drop 1=p.data.toList.drop 1:=by rw[<-jdG,e1,jdG]
      have e3:y.1.data.toList=a :: r':=e3;show y.1.data.toList=p.data.toList;rw[e3,hpl]at e5 ⊢;simp at e5;rw[e5,dP.1 e4]
     rw[<-this];exact a5
    ·refine bC.2 ⟨(p,v),?_,rfl⟩
     refine cH.2 ⟨O,?_⟩;unfold je4;show (match p.data.toList with | []=>false | a :: _=>a.toNat == x.toNat)=true;rw[hpl];simp
   ·rw[Z]
    unfold ji6;rw[if_neg (show ¬(3:Nat)=1 by decide),if_pos rfl,if_neg (fun e=>by have:=e.1;omega)]
theorem jq9{f:Nat}{l:vL}{p:vB}(h:jaq f l)(hp:jaM p=true)(o:goL l p=none):jnh (jak (jab f) l) p=(⟨#[]⟩,p)/\ji6 (jak (jab f) l) p=valL l p:=by
 by_cases h0:l.length=0
 ·have e:jak (jab f) l=jaV:=by unfold jak;rw[if_pos h0]
  rw[e,bE h0]
  exact⟨rfl,rfl⟩
 by_cases h1:l.length=1
 ·have e:jak (jab f) l=⟨1,(l.getD 0 pd).1,(l.getD 0 pd).2,jav 16⟩:=by unfold jak;rw[if_neg h0,if_pos h1]
  rw[e]
  obtain⟨q,rfl⟩:=fB.1 h1
  exact⟨rfl,by unfold ji6 valL valL;rfl⟩
 have h2:2<=l.length:=vO
 have K:=jbq h h2;unfold goL at o;rw[if_neg vO]at o
 by_cases hk:0 < comK l
 ·rw[if_pos hk]at o
  have e:jak (jab f) l=⟨2,(l.getD 0 pd).1.extract 0 (comK l),⟨#[]⟩,refB (jab f (jag (comK l) l)).text :: jav 15⟩:=by unfold jak;rw[if_neg h0,if_neg h1,if_pos hk]
  have z:¬ preB ((l.getD 0 pd).1.extract 0 (comK l)) p=true:=fun hh=>by rw[if_pos hh]at o;cases o
  rw[e]
  refine⟨?_,?_⟩
  ·unfold jnh
   rw[if_neg (show ¬(2:Nat)=3 by decide),if_pos rfl,if_neg z]
  ·refine (Eq.trans ?_ (jgD fun q O e=>?_).symm)
   ·rfl
   ·refine z ((jdk _ _).2 ⟨p.data.toList.drop (comK l),?_⟩)
    rw[jeZ, <-(K q O).1,show q.l=p.data.toList from congrArg (fun x:vB=>x.data.toList) e,dF]
 ·rw[if_neg hk]at o
  obtain⟨rs,E⟩:=vE ((List.range 16).map fun i=>if (cutL i l).length=0 then (⟨#[]⟩:vB)else refB (jab f (jag 1 (cutL i l))).text)
  have e:jak (jab f) l=⟨3,⟨#[]⟩,if (l.getD 0 pd).1.size=0 then (l.getD 0 pd).2 else ⟨#[]⟩,rs⟩:=by rw[E];unfold jak;rw[if_neg h0,if_neg h1,if_neg hk]
  have Q:∀ i,i < 16->(cutL i l).length=0->rs.getD i ⟨#[]⟩=⟨#[]⟩:=fun i Z H=>by rw[E,jfs _ Z,if_pos H]
  clear E;rw[e];cases hpl:p.data.toList with
  | nil =>
   have J:p.size=0:=by rw[<-jaO p,hpl];rfl
   refine⟨?_,?_⟩
   ·unfold jnh
    rw[if_pos rfl,hpl]
   ·unfold ji6
    rw[if_neg (show ¬(3:Nat)=1 by decide),if_pos rfl];have a1:p=⟨#[]⟩:=jbK (by rw[hpl]);have hm:=jdq (l:=l) vO
    obtain⟨_,_,_,s4,_⟩:=h.size _ hm
    by_cases hz:(l.getD 0 pd).1.size=0
    ·simp only[hz,if_true]
     rw[if_pos ⟨J,by omega⟩];refine (joO h.rise ?_).symm;have a0:(l.getD 0 pd).1.data.toList=[]:=bE hz
     have:(p,(l.getD 0 pd).2)=l.getD 0 pd:=Prod.ext (by
      show p=(l.getD 0 pd).1;exact jbK (by rw[hpl,a0])) rfl
     rw[this];exact hm
    ·simp only[if_neg hz]
     rw[if_neg (fun e=>e.2 rfl)];refine (jgD fun q O e=>?_).symm
     obtain⟨i,Z⟩:=iD O
     cases i with
     | zero =>
      have:l.getD 0 pd=q:=by rw[bH,Z];rfl
      rw[this,e]at hz;exact hz J
     | succ i =>
      obtain⟨a,ha⟩:∃ a,l[0]?=some a:=⟨_,bA vO⟩
      have:=jcy h.rise vO ha Z
      rw[show q.l=[]from(congrArg (fun x:vB=>x.data.toList) e).trans hpl]at this;exact not_lt_nil _ this
  | cons x r =>
   rw[hpl]at o;have o:(if (cutL x.toNat l).length=0 then none else some (jag 1 (cutL x.toNat l),p.extract 1 p.size))=none:=o;have H:(cutL x.toNat l).length=0:=by
    by_cases H:(cutL x.toNat l).length=0
    ·exact H
    ·rw[if_neg H]at o;cases o
   have hx:x.toNat < 16:=je2 (p:=(p,p)) hp hpl;have J:1<=p.size:=by rw[<-jaO p,hpl];simp
   refine⟨?_,?_⟩
   ·unfold jnh
    rw[if_pos rfl,hpl];show (if (rs.getD x.toNat ⟨#[]⟩).size=0 then _ else _)=_;rw[Q _ hx H,if_pos (show (⟨#[]⟩:vB).size=0 from rfl)]
   ·unfold ji6
    rw[if_neg (show ¬(3:Nat)=1 by decide),if_pos rfl,if_neg (fun e=>by have:=e.1;omega)];refine (jgD fun q O e=>?_).symm;have X:q∈cutL x.toNat l:=cH.2 ⟨O,by
     unfold je4;rw[show q.1.data.toList=x :: r from(congrArg (fun x:vB=>x.data.toList) e).trans hpl];simp⟩
    rw[bE H]at X;cases X
theorem jfk:∀ (f g:Nat) (l:vL),jaq f l->f<=g->jak (jab f) l=jak (jab g) l/\jab (f+1) l=jab (g+1) l:=by
 have E:∀ (f g:Nat) (l:vL),jak (jab f) l=jak (jab g) l->jan (jab f) l=jan (jab g) l->jak (jab f) l=jak (jab g) l/\jab (f+1) l=jab (g+1) l:=fun f g l z H=>⟨z,by
  show PT.mk (jaS (jak (jab f) l)) (jan (jab f) l)=PT.mk (jaS (jak (jab g) l)) (jan (jab g) l);rw[z,H]⟩
 intro f;induction f with
 | zero =>
  intro g l h Q;have z:=jbv h;refine E _ _ _ ?_ ?_
  ·unfold jak
   by_cases h0:l.length=0
   ·rw[if_pos h0,if_pos h0]
   ·rw[if_neg h0,if_neg h0,if_pos vO,if_pos vO]
  ·unfold jan;rw[if_pos z,if_pos z]
 | succ f ih =>
  intro g l h Q
  obtain⟨g,rfl⟩:∃ k,g=k+1:=⟨g - 1,by omega⟩
  by_cases z:l.length<=1
  ·refine E _ _ _ ?_ ?_
   ·unfold jak
    by_cases h0:l.length=0
    ·rw[if_pos h0,if_pos h0]
    ·rw[if_neg h0,if_neg h0,if_pos vO,if_pos vO]
   ·unfold jan;rw[if_pos z,if_pos z]
  have H:2<=l.length:=vO
  have o:=jbq h H;have K:0 < comK l->jab (f+1) (jag (comK l) l)=jab (g+1) (jag (comK l) l):=fun e =>
   (ih g _ ((jci (comK l) h (fun p J q X=>(o p J).1.trans (o q X).1.symm) (fun p J=>(o p J).2)).mono vO) vO).2
  have O:∀ i,jab (f+1) (jag 1 (cutL i l))=jab (g+1) (jag 1 (cutL i l)):=fun i=>(ih g _ (jdM i h) vO).2;refine E _ _ _ ?_ ?_
  ·have Z:¬ l.length=0:=vO
   have n1:¬ l.length=1:=vO
   unfold jak;simp only[if_neg Z,if_neg n1]
   by_cases e:0 < comK l
   ·rw[if_pos e,if_pos e,K e]
   ·rw[if_neg e,if_neg e]
    simp only[O]
  ·unfold jan
   simp only[if_neg z]
   by_cases e:0 < comK l
   ·rw[if_pos e,if_pos e,K e]
   ·rw[if_neg e,if_neg e]
    simp only[O]
theorem jjO(t:vB):(bigs t).length<=1:=by unfold bigs;split <;> simp
theorem jtQ{f:Nat}{l:vL}(h:jaq f l){x:vB}(hx:x∈jam (jab (f+1) l)):x=(jab (f+1) l).text\/32<=x.size:=by
 have o:jam (jab (f+1) l)=jaS (jak (jab f) l) :: jay (jan (jab f) l):=by
  show jam (.mk (jaS (jak (jab f) l)) (jan (jab f) l))=_;rw[jam]
 rw[o]at hx;rcases bK.1 hx with e | hx
 ·exact .inl e
 ·exact .inr ((ju7 f l h).told x hx).1
theorem joN{l:vL}(k:vB):valL (jaR l) (jbA k)=valL l k:=by
 have o:∀ {a b:vB},jbA a=jbA b->a=b:=fun {a b} e=>jbK (jkm (by
  have:=congrArg (fun x:vB=>x.data.toList) e
  simpa [jbA]using this))
 induction l with
 | nil=>rfl
 | cons q l ih =>
  show (if jbA q.1=jbA k then some q.2 else valL (jaR l) (jbA k))=if q.1=k then some q.2 else valL l k
  by_cases e:q.1=k
  ·rw[if_pos (by rw[e]),if_pos e]
  ·rw[if_neg (fun h=>e (o h)),if_neg e,ih]
theorem jko{a p:vB}(h:preB a p=true):a.size<=p.size:=by
 obtain⟨s,e⟩:=(jdk _ _).1 h
 rw[<-jaO p,e,bG,jaO];omega
theorem jgl{p:vB}{x:vU}{t:vN}(h:p.data.toList=x :: t):∃ h0:0 < p.size,p[0]=x:=by
 obtain⟨⟨l⟩⟩:=p
 have h:l=x :: t:=h;subst h
 exact⟨Nat.succ_pos _,rfl⟩
inductive PA where
 | nil
 | no
 | leaf (path value:vB)
 | ext (path:vB) (next:PA)
 | br (value:vB) (kids:Nat->PA)
def PA.isNil:PA->Bool | .nil=>true | _=>false
def PA.isNo:PA->Bool | .no=>true | _=>false
def PA.isBr:PA->Bool | .br _ _=>true | _=>false
def jb8(a:vB)(P:PA):PA:=if a.size=0 then P else match P with
 | .leaf q v=>.leaf (a++q) v
 | .ext q n=>.ext (a++q) n
 | .br v ks=>.ext a (.br v ks)
 | _=>.no
def setK(ks:Nat->PA)(i:Nat)(P:PA):Nat->PA:=fun j=>if j=i then P else ks j
def jao(p:vB):Nat:=(p.data.toList.headD 0).toNat
def jbs(p:vB):vB:=p.extract 1 p.size
def addK:PA->vB->vB->PA
 | .br v ks,p,u=>if p.size=0 then .br u ks else .br v (setK ks (jao p) (.leaf (jbs p) u))
 | P,_,_=>P
theorem jcI(v:vB)(ks:Nat->PA)(p u:vB):addK (.br v ks) p u=if p.size=0 then .br u ks else .br v (setK ks (jao p) (.leaf (jbs p) u)):=rfl
theorem ff:¬(false=true):=by decide
def putP:PA->vB->vB->PA
 | .nil,p,u=>.leaf p u
 | .no,p,u=>.leaf p u
 | .leaf q v,p,u=>if p=q then .leaf p u else
   jb8 (p.extract 0 (jap q p)) (addK (addK (.br ⟨#[]⟩ fun _=>.nil) (q.extract (jap q p) q.size) v) (p.extract (jap q p) p.size) u)
 | .ext q n,p,u=>if jap q p=q.size then jb8 q (putP n (p.extract (jap q p) p.size) u)else
   jb8 (p.extract 0 (jap q p)) (addK (.br ⟨#[]⟩ (setK (fun _=>.nil) (jao (q.extract (jap q p) q.size)) (jb8 (q.extract (jap q p+1) q.size) n))) (p.extract (jap q p) p.size) u)
 | .br v ks,p,u=>if p.size=0 then .br u ks else .br v (setK ks (jao p) (putP (ks (jao p)) (jbs p) u))
def idxK(ks:Nat->PA):List Nat:=(List.range 16).filter fun i => !(ks i).isNil
def jdm(v:vB)(ks:Nat->PA):PA:=match idxK ks with
 | []=>if v.size=0 then .no else .leaf ⟨#[]⟩ v
 | [i]=>if v.size=0 then jb8 ⟨#[UInt8.ofNat i]⟩ (ks i)else .br v ks
 | _=>.br v ks
def unNo(P:PA):PA:=if P.isNo then .nil else P
def jbO:PA->vB->PA
 | .nil,_=>.no
 | .no,_=>.no
 | .leaf q v,p=>if p=q then .no else .leaf q v
 | .ext q n,p=>if preB q p then jb8 q (jbO n (p.extract q.size p.size))else .ext q n
 | .br v ks,p=>if p.size=0 then jdm ⟨#[]⟩ ks else if (ks (jao p)).isNil then .br v ks else jdm v (setK ks (jao p) (unNo (jbO (ks (jao p)) (jbs p))))
def getL:PA->vN->Option vB
 | .nil,_=>none
 | .no,_=>none
 | .leaf q v,p=>if q.data.toList=p then some v else none
 | .ext q n,p=>if q.data.toList.isPrefixOf p then getL n (p.drop q.data.toList.length)else none
 | .br v _,[]=>if v.size=0 then none else some v
 | .br _ ks,x :: t=>getL (ks x.toNat) t
def TwoK(v:vB)(ks:Nat->PA):Prop:=(∃ i j,i≠j/\(ks i).isNil=false/\(ks j).isNil=false)\/(v.size≠0/\∃ i,(ks i).isNil=false)
def CanP:PA->Prop
 | .nil=>False
 | .no=>False
 | .leaf q v=>jaM q=true/\v.size≠0
 | .ext q n=>q.size≠0/\jaM q=true/\n.isBr=true/\CanP n
 | .br v ks=>(∀ i,(ks i).isNil=false->i < 16)/\(∀ i,(ks i).isNil=false->CanP (ks i))/\TwoK v ks
theorem jkT(a b:vB):(a++b).data.toList=a.data.toList++b.data.toList:=by
 simp[dJ]
theorem jbu{P:PA}(h:P.isNil=true):P=.nil:=by cases P <;> first | rfl | cases h
theorem jrp{P:PA}(h:P.isNo=true):P=.no:=by cases P <;> first | rfl | cases h
theorem jmA{P:PA}(h:CanP P):P.isNil=false:=by cases P <;> first | rfl | exact h.elim
theorem jxS{P:PA}(h:CanP P):P.isNo=false:=by cases P <;> first | rfl | exact h.elim
theorem jca{a p:vN}:a.isPrefixOf p=true↔∃ r,p=a++r:=by
 rw[List.isPrefixOf_iff_prefix]
 exact⟨fun ⟨r,h⟩=>⟨r,h.symm⟩,fun ⟨r,h⟩=>⟨r,h.symm⟩⟩
theorem jlQ{a p:vN}(h:a.isPrefixOf p=false):∀ r,p≠a++r:=fun r e=>by
 rw[jca.2 ⟨r,e⟩]at h;cases h
theorem jfB{a:vB}(h:a.size=0):a.data.toList=[]:=bE (by rw[jaO];exact h)
theorem jcd{a:vB}(h:a.size≠0):∃ x t,a.data.toList=x :: t:=by
 cases e:a.data.toList with
 | nil=>rw[<-jaO,e]at h;exact (h rfl).elim
 | cons x t=>exact⟨x,t,rfl⟩
theorem jbE{p:vB}{x:vU}{t:vN}(h:p.data.toList=x :: t):jao p=x.toNat/\(jbs p).data.toList=t:=by
 refine⟨by unfold jao;rw[h];rfl,?_⟩
 unfold jbs;rw[jdG,h];rfl
theorem jc6{x y:vU}(h:x≠y):x.toNat≠y.toNat:=fun e=>h (dP.1 e)
theorem jft(a:vB)(P:PA)(p:vN):getL (jb8 a P) p=if a.data.toList.isPrefixOf p then getL P (p.drop a.data.toList.length)else none:=by
 unfold jb8
 by_cases h0:a.size=0
 ·rw[if_pos h0,jfB h0];simp
 rw[if_neg h0];cases hp:a.data.toList.isPrefixOf p with
 | true =>
  obtain⟨r,rfl⟩:=jca.1 hp
  rw[if_pos rfl,fP];cases P with
  | nil=>rfl
  | no=>rfl
  | leaf q v=>simp only[getL,jkT,gO]
  | ext q n =>
   simp only[getL,jkT];have e:(a.data.toList++q.data.toList).isPrefixOf (a.data.toList++r)=q.data.toList.isPrefixOf r:=by
    rw[iW,jca,jca]
    exact⟨fun ⟨s,e⟩=>⟨s,by rw[bX]at e;exact gX e⟩,fun ⟨s,e⟩=>⟨s,by rw[e,bX]⟩⟩
   rw[e,bG, <-List.drop_drop,fP]
  | br v ks =>
   show (if a.data.toList.isPrefixOf (a.data.toList++r)=true then getL (.br v ks) ((a.data.toList++r).drop _)else none)=_;rw[hp,if_pos rfl,fP]
 | false =>
  have o:=jlQ hp;rw[if_neg ff];cases P with
  | nil=>rfl
  | no=>rfl
  | leaf q v =>
   simp only[getL,jkT];rw[if_neg (fun e=>o _ e.symm)]
  | ext q n =>
   simp only[getL,jkT];rw[if_neg];intro e
   obtain⟨s,e⟩:=jca.1 e
   rw[bX]at e;exact o _ e
  | br v ks =>
   show (if a.data.toList.isPrefixOf p=true then _ else none)=_;rw[hp];rfl
theorem jhC(v:vB)(ks:Nat->PA)(i:Nat)(P:PA)(x:vU)(t:vN):getL (.br v (setK ks i P)) (x :: t)=if x.toNat=i then getL P t else getL (.br v ks) (x :: t):=by
 show getL (setK ks i P x.toNat) t=if x.toNat=i then _ else getL (ks x.toNat) t
 unfold setK
 by_cases h:x.toNat=i
 ·rw[if_pos h,if_pos h]
 ·rw[if_neg h,if_neg h]
theorem jmN(v:vB)(ks:Nat->PA)(p u:vB)(hu:u.size≠0)(hk:∀ x t,p.data.toList=x :: t->(ks x.toNat).isNil=true)(q:vN) :
  getL (addK (.br v ks) p u) q=if q=p.data.toList then some u else getL (.br v ks) q:=by
 rw[jcI]
 by_cases h0:p.size=0
 ·rw[if_pos h0,jfB h0]
  cases q with
  | nil=>simp[getL,hu]
  | cons x t=>rfl
 ·rw[if_neg h0]
  obtain⟨x,t,o⟩:=jcd h0
  obtain⟨E,H⟩:=jbE o
  have z:=jbu (hk x t o);rw[E,o];cases q with
  | nil=>simp[getL]
  | cons y s =>
   rw[jhC]
   by_cases hy:y=x
   ·subst hy
    rw[if_pos rfl];simp only[getL,H,z,List.cons.injEq,true_and]
    by_cases e:t=s
    ·rw[if_pos e,if_pos e.symm]
    ·rw[if_neg e,if_neg (fun h=>e h.symm)]
   ·rw[if_neg (jc6 hy),if_neg (fun e=>hy (List.cons.inj e).1)]
theorem jcB(a b:vN):∃ a' b',a=a.take (jba a b)++a'/\b=a.take (jba a b)++b'/\a'=a.drop (jba a b)/\b'=b.drop (jba a b)/\(∀ x s y t,a'=x :: s->b'=y :: t->x≠y):=by
 obtain⟨o,E,H⟩:=ja7 a b
 refine⟨_,_,(dF _ _).symm,?_,rfl,rfl,?_⟩
 ·rw[o,dF]
 ·intro x s y t q z e
  have h:=jhS a b;rw[q,z,e]at h;simp[jba]at h
theorem jmF{a b:vN}(h:jba a b=a.length):b=a++b.drop a.length:=by
 obtain⟨e,o,q⟩:=ja7 a b
 rw[h,cF]at e
 have:=(dF a.length b).symm
 rw[<-e]at this;exact this
theorem jsR(p:vB)(k:Nat):(p.extract 0 k).data.toList=p.data.toList.take k:=by
 simp[fD]
theorem jmO:∀ (P:PA),(CanP P\/P=.no\/P=.nil)->∀ (p u:vB),u.size≠0->∀ q,getL (putP P p u) q=if q=p.data.toList then some u else getL P q
 | .nil,_,p,u,_,q=>by
  show (if p.data.toList=q then some u else none)=if q=p.data.toList then some u else none
  by_cases e:q=p.data.toList
  ·rw[if_pos e,if_pos e.symm]
  ·rw[if_neg e,if_neg (fun h=>e h.symm)]
 | .no,_,p,u,_,q=>by
  show (if p.data.toList=q then some u else none)=if q=p.data.toList then some u else none
  by_cases e:q=p.data.toList
  ·rw[if_pos e,if_pos e.symm]
  ·rw[if_neg e,if_neg (fun h=>e h.symm)]
 | .leaf a v,h,p,u,hu,q=>by
  have hc:v.size≠0:=by
   rcases h with h | h | h
   ·exact h.2
   ·cases h
   ·cases h
  unfold putP
  by_cases hpa:p=a
  ·rw[if_pos hpa]
   subst hpa;simp only[getL]
   by_cases e:q=p.data.toList
   ·rw[if_pos e,if_pos e.symm]
   ·rw[if_neg e,if_neg (fun h=>e h.symm),if_neg (fun h=>e h.symm)]
  rw[if_neg hpa,jft,jsR]
  obtain⟨Z,J,K,hb,E,o,a3⟩:=jcB a.data.toList p.data.toList
  obtain⟨Q,a0,a4⟩:=ja7 a.data.toList p.data.toList
  obtain⟨n,hn⟩:=vE (jap a p)
  have a7:jba a.data.toList p.data.toList=n:=hn.symm;rw[a7]at K hb E o Q a0 a4;rw[<-hn, <-Q]
  obtain⟨c,a1⟩:=vE (a.data.toList.take n)
  rw[<-a1]at K hb ⊢;have b2:c.length=n:=by rw[a1,dS];omega
  have b3:¬(Z=[]/\J=[]):=by
   rintro⟨rfl,rfl⟩
   exact hpa (jbK (by rw[hb,K]))
  have X:(a.extract n a.size).data.toList=Z:=by rw[jdG,E]
  have H:(p.extract n p.size).data.toList=J:=by rw[jdG,o]
  obtain⟨x1,e1⟩:∃ x,x=a.extract n a.size:=⟨_,rfl⟩
  obtain⟨x2,e2⟩:∃ x,x=p.extract n p.size:=⟨_,rfl⟩
  rw[<-e1]at X ⊢;rw[<-e2]at H ⊢;have a5:∀ r,getL (addK (addK (.br ⟨#[]⟩ fun _=>.nil) x1 v) x2 u) r=if r=J then some u else if r=Z then some v else none:=by
   intro r;have a6:∃ v1 a2,addK (.br ⟨#[]⟩ fun _=>.nil) x1 v=.br v1 a2/\∀ x t,x2.data.toList=x :: t->(a2 x.toNat).isNil=true:=by
    rw[jcI]
    by_cases h0:x1.size=0
    ·rw[if_pos h0];exact⟨_,_,rfl,fun _ _ _=>rfl⟩
    ·rw[if_neg h0]
     refine⟨_,_,rfl,fun y t hy=>?_⟩
     obtain⟨x,s,hx⟩:=jcd h0
     unfold setK;rw[(jbE hx).1,if_neg (jc6 (Ne.symm (a3 x s y t (by rw[<-X,hx]) (by rw[<-H,hy]))))];rfl
   obtain⟨v1,a2,h1,h2⟩:=a6
   rw[h1,jmN v1 a2 x2 u hu h2, <-h1,jmN _ _ x1 v hc (fun _ _ _=>rfl),X,H]
   congr 1
   congr 1
   cases r <;> rfl
  cases hp:c.isPrefixOf q with
  | false =>
   have O:=jlQ hp;rw[if_neg ff,if_neg (fun e=>O J (e.trans hb))];show none=if a.data.toList=q then some v else none
   rw[if_neg (fun e=>O Z (e.symm.trans K))]
  | true =>
   obtain⟨r,rfl⟩:=jca.1 hp
   rw[if_pos rfl,fP,a5];show _=if c++r=p.data.toList then some u else if a.data.toList=c++r then some v else none
   rw[hb,K];simp only[gO]
   congr 1
   by_cases e:r=Z
   ·rw[if_pos e,if_pos e.symm]
   ·rw[if_neg e,if_neg (fun h=>e h.symm)]
 | .ext a n,h,p,u,hu,q=>by
  have hc:CanP (.ext a n):=by
   rcases h with h | h | h
   ·exact h
   ·cases h
   ·cases h
  have ih:=jmO n (.inl hc.2.2.2);unfold putP
  by_cases hf:jap a p=a.size
  ·rw[if_pos hf,jft]
   have hb:=jmF (a:=a.data.toList) (b:=p.data.toList) (by rw[jaO];exact hf)
   obtain⟨J,o⟩:∃ J,J=p.data.toList.drop a.data.toList.length:=⟨_,rfl⟩
   rw[<-o]at hb;have hx:(p.extract (jap a p) p.size).data.toList=J:=by rw[jdG,hf,o,jaO]
   show _=if q=p.data.toList then some u else if a.data.toList.isPrefixOf q then getL n (q.drop a.data.toList.length)else none
   cases hp:a.data.toList.isPrefixOf q with
   | false =>
    rw[if_neg ff,if_neg ff,if_neg (fun e=>jlQ hp J (e.trans hb))]
   | true =>
    obtain⟨r,rfl⟩:=jca.1 hp
    rw[if_pos rfl,if_pos rfl,fP,ih _ u hu,hx,hb];simp only[gO]
  ·rw[if_neg hf,jft,jsR]
   obtain⟨Z,J,K,hb,E,o,a3⟩:=jcB a.data.toList p.data.toList
   obtain⟨Q,a0,a4⟩:=ja7 a.data.toList p.data.toList
   obtain⟨m,hm⟩:=vE (jap a p)
   have a8:jba a.data.toList p.data.toList=m:=hm.symm;rw[a8]at K hb E o Q a0 a4;rw[<-hm]at hf ⊢;rw[<-Q]
   obtain⟨c,a1⟩:=vE (a.data.toList.take m)
   rw[<-a1]at K hb ⊢;have X:(a.extract m a.size).data.toList=Z:=by rw[jdG,E]
   have H:(p.extract m p.size).data.toList=J:=by rw[jdG,o]
   have a9:Z.length=a.size - m:=by rw[E,List.length_drop,jaO]
   rw[jaO]at a0;cases Z with
   | nil=>simp at a9;omega
   | cons x s =>
    have b0:(a.extract (m+1) a.size).data.toList=s:=by
     rw[jdG, <-List.drop_drop, <-E];rfl
    rw[(jbE X).1]
    obtain⟨x2,e2⟩:∃ x,x=p.extract m p.size:=⟨_,rfl⟩
    rw[<-e2]at H ⊢;have a5:∀ r,getL (addK (.br ⟨#[]⟩ (setK (fun _=>.nil) x.toNat (jb8 (a.extract (m+1) a.size) n))) x2 u) r=if r=J then some u else if (x :: s).isPrefixOf r then getL n (r.drop (s.length+1))else none:=by
     intro r;rw[jmN _ _ _ u hu,H]
     ·congr 1
      cases r with
      | nil=>rfl
      | cons y t =>
       rw[jhC,jft,b0]
       by_cases e:y=x
       ·subst e;simp
       ·rw[if_neg (jc6 e),if_neg]
        ·rfl
        ·intro O
         obtain⟨r,O⟩:=jca.1 O
         exact e (List.cons.inj O).1
     ·intro y t hy
      unfold setK;rw[if_neg (jc6 (Ne.symm (a3 x s y t rfl (by rw[<-H,hy]))))];rfl
    have b1:a.data.toList.length=c.length+(s.length+1):=by
     have O:=congrArg List.length K;rw[bG]at O;exact O
    show _=if q=p.data.toList then some u else if a.data.toList.isPrefixOf q then getL n (q.drop a.data.toList.length)else none
    cases hp:c.isPrefixOf q with
    | false =>
     have O:=jlQ hp;rw[if_neg ff,if_neg (fun e=>O J (e.trans hb)),if_neg];intro e
     obtain⟨r,e⟩:=jca.1 e
     rw[K,bX]at e;exact O _ e
    | true =>
     obtain⟨r,rfl⟩:=jca.1 hp
     have e2:(c++r).drop (c.length+(s.length+1))=r.drop (s.length+1):=by rw[<-List.drop_drop,fP]
     rw[if_pos rfl,fP,a5,b1,e2];have e1:a.data.toList.isPrefixOf (c++r)=(x :: s).isPrefixOf r:=by
      rw[iW,jca,jca];constructor
      ·rintro⟨z,e⟩
       rw[K,bX]at e
       exact⟨z,gX e⟩
      ·rintro⟨z,rfl⟩
       exact⟨z,by rw[K,bX]⟩
     rw[e1,hb];simp only[gO]
 | .br v ks,h,p,u,hu,q=>by
  have hc:CanP (.br v ks):=by
   rcases h with h | h | h
   ·exact h
   ·cases h
   ·cases h
  unfold putP
  by_cases h0:p.size=0
  ·rw[if_pos h0,jfB h0]
   cases q with
   | nil=>simp[getL,hu]
   | cons x t=>rfl
  ·rw[if_neg h0]
   obtain⟨x,t,hx⟩:=jcd h0
   obtain⟨h1,h2⟩:=jbE hx
   have ih:=jmO (ks (jao p)) (by
    cases hn:(ks (jao p)).isNil with
    | true=>exact .inr (.inr (jbu hn))
    | false=>exact .inl (hc.2.1 _ hn)) (jbs p) u hu
   rw[h1]at ih ⊢;rw[hx];cases q with
   | nil=>simp[getL]
   | cons y s =>
    rw[jhC]
    by_cases hy:y=x
    ·subst hy
     rw[if_pos rfl,ih,h2];simp only[List.cons.injEq,true_and];rfl
    ·rw[if_neg (jc6 hy),if_neg (fun e=>hy (List.cons.inj e).1)]
theorem jcf{s:vB}:jaM s=true↔∀ x∈s.data.toList,x.toNat < 16:=by
 unfold jaM;rw[dU];constructor
 ·intro h x e
  have o:=h x e;simp only[decide_eq_true_eq,fT]at o
  have:(15:vU).toNat=15:=rfl
  omega
 ·intro h x e
  have o:=h x e;simp only[decide_eq_true_eq,fT]
  have:(15:vU).toNat=15:=rfl
  omega
theorem jme{a b:vB}(h:jaM a=true)(k:jaM b=true):jaM (a++b)=true:=by
 rw[jcf]at *;intro x o;rw[jkT]at o;rcases bO.1 o with e | e
 ·exact h x e
 ·exact k x e
theorem jhf{a:vB}(h:jaM a=true)(k:Nat):jaM (a.extract 0 k)=true:=by
 rw[jcf]at *;intro x e;rw[jsR]at e;exact h x (jA e)
theorem jcm{a:vB}(h:jaM a=true):jaM (jbs a)=true:=jbl h 1 _
theorem jdJ{p:vB}(h:jaM p=true)(h0:p.size≠0):jao p < 16:=by
 obtain⟨x,t,e⟩:=jcd h0
 rw[(jbE e).1];exact jcf.1 h x (by rw[e];exact bF)
theorem jc1(a b:vB):(a++b).size=a.size+b.size:=by
 rw[<-jaO,jkT,bG,jaO,jaO]
theorem jfl{a:vB}{P:PA}(ha:jaM a=true)(h:CanP P):CanP (jb8 a P):=by
 unfold jb8
 by_cases h0:a.size=0
 ·rw[if_pos h0];exact h
 rw[if_neg h0];cases P with
 | nil=>exact h.elim
 | no=>exact h.elim
 | leaf q v=>exact⟨jme ha h.1,h.2⟩
 | ext q n=>exact⟨by rw[jc1];omega,jme ha h.2.1,h.2.2⟩
 | br v ks=>exact⟨h0,ha,rfl,h⟩
theorem jcc(ks:Nat->PA)(i:Nat)(P:PA):setK ks i P i=P:=if_pos rfl
theorem jeG(ks:Nat->PA){i j:Nat}(P:PA)(h:j≠i):setK ks i P j=ks j:=if_neg h
def OneB(ks:Nat->PA):Prop:=(∀ i,(ks i).isNil=false->i < 16)/\(∀ i,(ks i).isNil=false->CanP (ks i))
theorem OneB.set{ks:Nat->PA}(h:OneB ks){i:Nat}{P:PA}(hi:i < 16)(hP:CanP P):OneB (setK ks i P):=by
 refine⟨fun j o=>?_,fun j o=>?_⟩
 ·by_cases e:j=i
  ·rw[e];exact hi
  ·rw[jeG _ _ e]at o;exact h.1 j o
 ·by_cases e:j=i
  ·rw[e,jcc];exact hP
  ·rw[jeG _ _ e]at o ⊢;exact h.2 j o
theorem OneB.cut{ks:Nat->PA}(h:OneB ks)(i:Nat):OneB (setK ks i .nil):=by
 refine⟨fun j o=>?_,fun j o=>?_⟩
 ·by_cases e:j=i
  ·rw[e,jcc]at o;cases o
  ·rw[jeG _ _ e]at o;exact h.1 j o
 ·by_cases e:j=i
  ·rw[e,jcc]at o;cases o
  ·rw[jeG _ _ e]at o ⊢;exact h.2 j o
theorem jkf:OneB (fun _=>.nil):=⟨fun _ h=>Bool.noConfusion h,fun _ h=>Bool.noConfusion h⟩
theorem TwoK.set{v:vB}{ks:Nat->PA}(h:TwoK v ks)(i:Nat){P:PA}(hP:P.isNil=false):TwoK v (setK ks i P):=by
 have o:∀ j,(ks j).isNil=false->(setK ks i P j).isNil=false:=by
  intro j q
  by_cases e:j=i
  ·rw[e,jcc];exact hP
  ·rw[jeG _ _ e];exact q
 rcases h with⟨a,b,h1,h2,h3⟩ |⟨h1,a,h2⟩
 ·exact .inl ⟨a,b,h1,o a h2,o b h3⟩
 ·exact .inr ⟨h1,a,o a h2⟩
theorem jmn{ks:Nat->PA}(v p u:vB)(h:OneB ks)(hp:jaM p=true)(hu:u.size≠0)(h2:(v.size≠0/\p.size≠0)\/∃ i,(ks i).isNil=false/\(p.size=0\/jao p≠i)):CanP (addK (.br v ks) p u):=by
 rw[jcI]
 by_cases h0:p.size=0
 ·rw[if_pos h0]
  rcases h2 with⟨_,e⟩ |⟨i,hi,_⟩
  ·exact (e h0).elim
  ·exact⟨h.1,h.2,.inr ⟨hu,i,hi⟩⟩
 ·rw[if_neg h0]
  have o:=h.set (jdJ hp h0) (P:=.leaf (jbs p) u) ⟨jcm hp,hu⟩
  refine⟨o.1,o.2,?_⟩
  rcases h2 with⟨e,_⟩ |⟨i,hi,e | e⟩
  ·exact .inr ⟨e,jao p,by rw[jcc];rfl⟩
  ·exact (h0 e).elim
  ·exact .inl ⟨jao p,i,e,by rw[jcc];rfl,by rw[jeG _ _ (Ne.symm e)];exact hi⟩
theorem jmB:∀ (P:PA),(CanP P\/P=.no\/P=.nil)->∀ (p u:vB),jaM p=true->u.size≠0->CanP (putP P p u)
 | .nil,_,p,u,hp,hu=>⟨hp,hu⟩
 | .no,_,p,u,hp,hu=>⟨hp,hu⟩
 | .leaf a v,h,p,u,hp,hu=>by
  have o:jaM a=true/\v.size≠0:=by
   rcases h with h | h | h
   ·exact h
   ·cases h
   ·cases h
  unfold putP
  by_cases hpa:p=a
  ·rw[if_pos hpa];exact⟨hp,hu⟩
  rw[if_neg hpa];refine jfl (jhf hp _) ?_
  obtain⟨a',b',ha,hb,Q,X,Z⟩:=jcB a.data.toList p.data.toList
  have H:(a.extract (jap a p) a.size).data.toList=a':=by rw[jdG,Q];rfl
  have q:(p.extract (jap a p) p.size).data.toList=b':=by rw[jdG,X];rfl
  have K:=jbl o.1 (jap a p) a.size;have z:=jbl hp (jap a p) p.size;have a0:¬(a'=[]/\b'=[]):=by
   rintro⟨rfl,rfl⟩
   exact hpa (jbK (hb.trans ha.symm))
  obtain⟨x1,e1⟩:∃ x,x=a.extract (jap a p) a.size:=⟨_,rfl⟩
  obtain⟨x2,e2⟩:∃ x,x=p.extract (jap a p) p.size:=⟨_,rfl⟩
  rw[<-e1]at H K ⊢;rw[<-e2]at q z ⊢;rw[jcI]
  by_cases E:x1.size=0
  ·rw[if_pos E]
   refine jmn v x2 u jkf z hu (.inl ⟨o.2,fun e=>a0 ⟨?_,?_⟩⟩)
   ·rw[<-H];exact jfB E
   ·rw[<-q];exact jfB e
  ·rw[if_neg E]
   refine jmn _ x2 u (jkf.set (jdJ K E) ⟨jcm K,o.2⟩) z hu (.inr ⟨jao x1,by rw[jcc];rfl,?_⟩)
   by_cases h9:x2.size=0
   ·exact .inl h9
   ·obtain⟨x,s,hx⟩:=jcd E
    obtain⟨y,t,hy⟩:=jcd h9
    rw[(jbE hx).1,(jbE hy).1];exact .inr (jc6 (Ne.symm (Z x s y t (by rw[<-H,hx]) (by rw[<-q,hy]))))
 | .ext a n,h,p,u,hp,hu=>by
  have o:CanP (.ext a n):=by
   rcases h with h | h | h
   ·exact h
   ·cases h
   ·cases h
  unfold putP
  by_cases hf:jap a p=a.size
  ·rw[if_pos hf]
   exact jfl o.2.1 (jmB n (.inl o.2.2.2) _ u (jbl hp _ _) hu)
  ·rw[if_neg hf]
   refine jfl (jhf hp _) ?_
   obtain⟨a',b',ha,hb,Q,X,Z⟩:=jcB a.data.toList p.data.toList
   have H:(a.extract (jap a p) a.size).data.toList=a':=by rw[jdG,Q];rfl
   have q:(p.extract (jap a p) p.size).data.toList=b':=by rw[jdG,X];rfl
   have K:=jbl o.2.1 (jap a p) a.size;have z:=jbl hp (jap a p) p.size;have E:(a.extract (jap a p) a.size).size≠0:=by
    have h3:=(ja7 a.data.toList p.data.toList).2.1;have h4:jap a p<=a.size:=by rw[<-jaO];exact h3
    rw[jaZ];omega
   obtain⟨x2,e2⟩:∃ x,x=p.extract (jap a p) p.size:=⟨_,rfl⟩
   rw[<-e2]at q z ⊢;have hj:=jfl (jbl o.2.1 (jap a p+1) a.size) o.2.2.2;have hO:=jkf.set (jdJ K E) hj
   obtain⟨J,hJ⟩:=vE (jb8 (a.extract (jap a p+1) a.size) n)
   rw[<-hJ]at hO hj ⊢;have hz:=jcc (fun _=>PA.nil) (jao (a.extract (jap a p) a.size)) J;have O:=jmA hj;rw[<-hz]at O
   obtain⟨KS,a1⟩:=vE (setK (fun _=>PA.nil) (jao (a.extract (jap a p) a.size)) J)
   rw[<-a1]at hO O ⊢;refine jmn ⟨#[]⟩ x2 u hO z hu (.inr ⟨jao (a.extract (jap a p) a.size),O,?_⟩)
   by_cases h9:x2.size=0
   ·exact .inl h9
   ·obtain⟨x,s,hx⟩:=jcd E
    obtain⟨y,t,hy⟩:=jcd h9
    rw[(jbE hx).1,(jbE hy).1];exact .inr (jc6 (Ne.symm (Z x s y t (by rw[<-H,hx]) (by rw[<-q,hy]))))
 | .br v ks,h,p,u,hp,hu=>by
  have o:CanP (.br v ks):=by
   rcases h with h | h | h
   ·exact h
   ·cases h
   ·cases h
  unfold putP
  by_cases E:p.size=0
  ·rw[if_pos E]
   refine⟨o.1,o.2.1,?_⟩
   rcases o.2.2 with h1 |⟨_,h2⟩
   ·exact .inl h1
   ·exact .inr ⟨hu,h2⟩
  ·rw[if_neg E]
   have hk:=jmB (ks (jao p)) (by
    cases hn:(ks (jao p)).isNil with
    | true=>exact .inr (.inr (jbu hn))
    | false=>exact .inl (o.2.1 _ hn)) (jbs p) u (jcm hp) hu
   have hs:=OneB.set ⟨o.1,o.2.1⟩ (jdJ hp E) hk
   exact⟨hs.1,hs.2,o.2.2.set _ (jmA hk)⟩
theorem jrk{ks:Nat->PA}{i:Nat}(h:OneB ks):i∈idxK ks↔(ks i).isNil=false:=by
 unfold idxK;rw[cH,dQ,gM]
 exact⟨fun e=>e.2,fun e=>⟨h.1 i e,e⟩⟩
theorem jrl(ks:Nat->PA):(idxK ks).Nodup:=List.Nodup.sublist List.filter_sublist List.nodup_range
theorem jlx{v:vB}{ks:Nat->PA}(h:OneB ks):jdm v ks=.no\/CanP (jdm v ks):=by
 have q:=fun i=>jrk (i:=i) h;have E:=jrl ks;unfold jdm;cases e:idxK ks with
 | nil =>
  show (if v.size=0 then PA.no else .leaf ⟨#[]⟩ v)=.no\/CanP (if v.size=0 then PA.no else .leaf ⟨#[]⟩ v)
  by_cases h0:v.size=0
  ·rw[if_pos h0];exact .inl rfl
  ·rw[if_neg h0];exact .inr ⟨rfl,h0⟩
 | cons i r =>
  rw[e]at q E;have o:=(q i).1 bF;cases r with
  | nil =>
   show (if v.size=0 then jb8 ⟨#[UInt8.ofNat i]⟩ (ks i)else .br v ks)=.no\/CanP (if v.size=0 then jb8 ⟨#[UInt8.ofNat i]⟩ (ks i)else .br v ks);right
   by_cases h0:v.size=0
   ·rw[if_pos h0]
    have H:=h.1 i o;refine jfl ?_ (h.2 i o);rw[jcf];intro x z;have z:x=UInt8.ofNat i:=by simpa using z
    rw[z,gH];omega
   ·rw[if_neg h0]
    exact⟨h.1,h.2,.inr ⟨h0,i,o⟩⟩
  | cons j r =>
   right
   refine⟨h.1,h.2,.inl ⟨i,j,?_,o,(q j).1 (by simp)⟩⟩
   rintro rfl;simp at E
theorem jlm{v:vB}{ks:Nat->PA}(h:OneB ks)(q:vN):getL (jdm v ks) q=getL (.br v ks) q:=by
 have o:=fun i=>jrk (i:=i) h;unfold jdm;cases e:idxK ks with
 | nil =>
  rw[e]at o;have O:∀ i,ks i=.nil:=fun i=>jbu (by
   cases hb:(ks i).isNil with
   | true=>rfl
   | false=>exact ((List.mem_nil_iff i).1 ((o i).2 hb)).elim)
  show getL (if v.size=0 then PA.no else .leaf ⟨#[]⟩ v) q=_;cases q with
  | nil =>
   show _=if v.size=0 then none else some v
   by_cases h0:v.size=0
   ·rw[if_pos h0,if_pos h0];rfl
   ·rw[if_neg h0,if_neg h0];rfl
  | cons x t =>
   show _=getL (ks x.toNat) t;rw[O]
   by_cases h0:v.size=0
   ·rw[if_pos h0];rfl
   ·rw[if_neg h0];rfl
 | cons i r =>
  cases r with
  | nil =>
   show getL (if v.size=0 then jb8 ⟨#[UInt8.ofNat i]⟩ (ks i)else .br v ks) q=_
   by_cases h0:v.size=0
   ·rw[if_pos h0,jft]
    rw[e]at o;have K:=h.1 i ((o i).1 bF);have z:(UInt8.ofNat i).toNat=i:=by rw[gH];omega
    cases q with
    | nil=>show (if false=true then _ else none)=if v.size=0 then none else some v;rw[if_pos h0,if_neg ff]
    | cons x t =>
     show (if ([UInt8.ofNat i].isPrefixOf (x :: t))=true then getL (ks i) ((x :: t).drop 1)else none)=getL (ks x.toNat) t
     by_cases hx:x=UInt8.ofNat i
     ·subst hx;simp[z]
     ·have E:x.toNat≠i:=fun e=>hx (dP.1 (by rw[z];exact e))
      have H:ks x.toNat=.nil:=jbu (by
       cases hb:(ks x.toNat).isNil with
       | true=>rfl
       | false=>exact (E (by simpa using (o _).2 hb)).elim)
      rw[H,if_neg]
      ·rfl
      ·intro J
       obtain⟨r,J⟩:=jca.1 J
       exact hx (List.cons.inj J).1
   ·rw[if_neg h0]
  | cons j r=>rfl
theorem jtW(P:PA)(q:vN):getL (unNo P) q=getL P q:=by
 unfold unNo;cases h:P.isNo with
 | true=>rw[if_pos rfl,jrp h];rfl
 | false=>rw[if_neg ff]
theorem jmH:∀ (P:PA),CanP P->∀ (p:vB),jaM p=true->(jbO P p=.no\/CanP (jbO P p))/\∀ q,getL (jbO P p) q=if q=p.data.toList then none else getL P q
 | .nil,h,_,_=>h.elim
 | .no,h,_,_=>h.elim
 | .leaf a v,h,p,hp=>by
  unfold jbO
  by_cases e:p=a
  ·rw[if_pos e]
   refine⟨.inl rfl,fun q=>?_⟩
   subst e;show none=if q=p.data.toList then none else if p.data.toList=q then some v else none
   by_cases h9:q=p.data.toList
   ·rw[if_pos h9]
   ·rw[if_neg h9,if_neg (fun e=>h9 e.symm)]
  ·rw[if_neg e]
   refine⟨.inr h,fun q=>?_⟩
   by_cases h9:q=p.data.toList
   ·rw[if_pos h9]
    show (if a.data.toList=q then some v else none)=none;rw[if_neg (fun X=>e (jbK (h9.symm.trans X.symm)))]
   ·rw[if_neg h9]
 | .ext a n,h,p,hp=>by
  unfold jbO
  obtain⟨o,K⟩:=jmH n h.2.2.2 (p.extract a.size p.size) (jbl hp _ _)
  cases hb:preB a p with
  | false =>
   rw[if_neg ff]
   refine⟨.inr h,fun q=>?_⟩
   by_cases h9:q=p.data.toList
   ·rw[if_pos h9,h9]
    show (if a.data.toList.isPrefixOf p.data.toList=true then _ else none)=none;unfold preB at hb;rw[hb];rfl
   ·rw[if_neg h9]
  | true =>
   rw[if_pos rfl]
   obtain⟨O,z⟩:=jca.1 hb
   have E:(p.extract a.size p.size).data.toList=O:=by rw[jdG,z, <-jaO,fP]
   refine⟨?_,fun q=>?_⟩
   ·rcases o with o | o
    ·rw[o]
     left;unfold jb8
     by_cases h0:a.size=0
     ·rw[if_pos h0]
     ·rw[if_neg h0]
    ·exact .inr (jfl h.2.1 o)
   ·rw[jft]
    show _=if q=p.data.toList then none else if a.data.toList.isPrefixOf q then getL n (q.drop a.data.toList.length)else none
    cases hq:a.data.toList.isPrefixOf q with
    | false =>
     rw[if_neg ff,if_neg ff,if_neg (fun e=>jlQ hq O (e.trans z))]
    | true =>
     obtain⟨r,rfl⟩:=jca.1 hq
     rw[if_pos rfl,if_pos rfl,fP,K,E,z];simp only[gO]
 | .br v ks,h,p,hp=>by
  unfold jbO;have H:OneB ks:=⟨h.1,h.2.1⟩
  by_cases h0:p.size=0
  ·rw[if_pos h0]
   refine⟨jlx H,fun q=>?_⟩
   rw[jlm H,jfB h0];cases q with
   | nil=>rfl
   | cons x t=>rfl
  ·rw[if_neg h0]
   obtain⟨x,t,E⟩:=jcd h0
   obtain⟨J,Z⟩:=jbE E
   cases hn:(ks (jao p)).isNil with
   | true =>
    rw[if_pos rfl]
    refine⟨.inr h,fun q=>?_⟩
    by_cases h9:q=p.data.toList
    ·rw[if_pos h9,h9,E]
     show getL (ks x.toNat) t=none;rw[<-J,jbu hn];rfl
    ·rw[if_neg h9]
   | false =>
    rw[if_neg ff]
    obtain⟨o,K⟩:=jmH (ks (jao p)) (h.2.1 _ hn) (jbs p) (jcm hp)
    have Q:OneB (setK ks (jao p) (unNo (jbO (ks (jao p)) (jbs p)))):=by
     unfold unNo;rcases o with o | o
     ·rw[o];exact H.cut _
     ·rw[jxS o,if_neg ff]
      exact H.set (jdJ hp h0) o
    refine⟨jlx Q,fun q=>?_⟩
    rw[jlm Q,E];cases q with
    | nil=>rfl
    | cons y s =>
     rw[jhC,J]
     by_cases hy:y=x
     ·subst hy
      rw[if_pos rfl,jtW, <-J,K,Z];simp only[List.cons.injEq,true_and];show _=if s=t then none else getL (ks y.toNat) s
      rw[J]
     ·rw[if_neg (jc6 hy),if_neg (fun e=>hy (List.cons.inj e).1)]
theorem jgt{i:Nat}(h:i < 16):(UInt8.ofNat i).toNat=i:=by rw[gH];omega
theorem jeu:∀ (P:PA),CanP P->∃ p v,getL P p=some v
 | .nil,h=>h.elim
 | .no,h=>h.elim
 | .leaf a v,_=>⟨a.data.toList,v,if_pos rfl⟩
 | .ext a n,h=>by
  obtain⟨p,v,e⟩:=jeu n h.2.2.2
  refine⟨a.data.toList++p,v,?_⟩
  show (if a.data.toList.isPrefixOf (a.data.toList++p)=true then getL n ((a.data.toList++p).drop a.data.toList.length)else none)=some v;rw[if_pos (jca.2 ⟨p,rfl⟩),fP,e]
 | .br v ks,h=>by
  have o:∃ i,(ks i).isNil=false:=by
   rcases h.2.2 with⟨i,_,_,e,_⟩ |⟨_,i,e⟩
   ·exact⟨i,e⟩
   ·exact⟨i,e⟩
  obtain⟨i,o⟩:=o
  obtain⟨p,u,e⟩:=jeu (ks i) (h.2.1 i o)
  refine⟨UInt8.ofNat i :: p,u,?_⟩
  show getL (ks (UInt8.ofNat i).toNat) p=some u;rw[jgt (h.1 i o),e]
theorem jhR{v:vB}{ks:Nat->PA}(h:CanP (.br v ks)):∃ p q a b,p.head?≠q.head?/\getL (.br v ks) p=some a/\getL (.br v ks) q=some b:=by
 have o:∀ i,(ks i).isNil=false->∃ t u,getL (.br v ks) (UInt8.ofNat i :: t)=some u:=by
  intro i z
  obtain⟨p,u,e⟩:=jeu (ks i) (h.2.1 i z)
  refine⟨p,u,?_⟩
  show getL (ks (UInt8.ofNat i).toNat) p=some u;rw[jgt (h.1 i z),e]
 rcases h.2.2 with⟨i,j,hij,z,hj⟩ |⟨hv,i,z⟩
 ·obtain⟨t,a,E⟩:=o i z
  obtain⟨s,b,H⟩:=o j hj
  refine⟨_,_,a,b,?_,E,H⟩
  intro e;have e:UInt8.ofNat i=UInt8.ofNat j:=by simpa using e
  have:=congrArg UInt8.toNat e
  rw[jgt (h.1 i z),jgt (h.1 j hj)]at this;exact hij this
 ·obtain⟨t,a,E⟩:=o i z
  refine⟨[],_,v,a,?_,?_,E⟩
  ·simp
  ·show (if v.size=0 then none else some v)=some v
   rw[if_neg hv]
theorem jiv:∀ (a r p q:vN),p.head?≠q.head?->r <+: a++p->r <+: a++q->r <+: a
 | [],r,p,q,h,o,z=>by
  cases r with
  | nil=>exact List.nil_prefix
  | cons x s =>
   obtain⟨J,E⟩:=o
   obtain⟨K,H⟩:=z
   rw[cP]at E H;exfalso;apply h;rw[<-E, <-H];rfl
 | y :: a,r,p,q,h,o,z=>by
  cases r with
  | nil=>exact List.nil_prefix
  | cons x s =>
   rw[cX]at o z
   obtain⟨e,o⟩:=List.cons_prefix_cons.1 o
   obtain⟨_,z⟩:=List.cons_prefix_cons.1 z
   rw[e];exact List.cons_prefix_cons.2 ⟨rfl,jiv a s p q h o z⟩
theorem jic(a:vB)(n:PA)(t:vN):getL (.ext a n) (a.data.toList++t)=getL n t:=by
 show (if a.data.toList.isPrefixOf (a.data.toList++t)=true then getL n ((a.data.toList++t).drop a.data.toList.length)else none)=getL n t;rw[if_pos (jca.2 ⟨t,rfl⟩),fP]
theorem jex{a:vB}{n:PA}{p:vN}{v:vB}(h:getL (.ext a n) p=some v):a.data.toList <+: p:=by
 have h:(if a.data.toList.isPrefixOf p=true then getL n (p.drop a.data.toList.length)else none)=some v:=h
 by_cases e:a.data.toList.isPrefixOf p=true
 ·exact List.isPrefixOf_iff_prefix.1 e
 ·rw[if_neg e]at h;cases h
theorem jmz{a:vB}{n:PA}(h:CanP (.ext a n)):∃ p q x y,p.head?≠q.head?/\getL (.ext a n) (a.data.toList++p)=some x/\getL (.ext a n) (a.data.toList++q)=some y:=by
 cases n with
 | br v ks =>
  obtain⟨p,q,x,y,e,o,z⟩:=jhR h.2.2.2
  exact⟨p,q,x,y,e,by rw[jic,o],by rw[jic,z]⟩
 | nil=>cases h.2.2.1
 | no=>cases h.2.2.1
 | leaf _ _=>cases h.2.2.1
 | ext _ _=>cases h.2.2.1
theorem jc4{a v:vB}{p:vN}{u:vB}(h:getL (.leaf a v) p=some u):a.data.toList=p/\v=u:=by
 have h:(if a.data.toList=p then some v else none)=some u:=h
 by_cases e:a.data.toList=p
 ·rw[if_pos e]at h;exact⟨e,bV h⟩
 ·rw[if_neg e]at h;cases h
theorem jj4{p q:vN}(h:p.head?≠q.head?):p≠q:=fun e=>h (by rw[e])
theorem uniq:∀ (P Q:PA),CanP P->CanP Q->(∀ p,getL P p=getL Q p)->P=Q
 | .nil,_,h,_,_=>h.elim
 | .no,_,h,_,_=>h.elim
 | .leaf a v,Q,h,k,e=>by
  cases Q with
  | nil=>exact k.elim
  | no=>exact k.elim
  | leaf b u =>
   have E:getL (.leaf b u) a.data.toList=some v:=by rw[<-e];exact if_pos rfl
   obtain⟨o,H⟩:=jc4 E
   rw[jbK o,H]
  | ext b n =>
   obtain⟨p,q,x,y,E,o,H⟩:=jmz k
   rw[<-e]at o H;exact absurd (gX ((jc4 o).1.symm.trans (jc4 H).1)) (jj4 E)
  | br u ks =>
   obtain⟨p,q,x,y,E,o,H⟩:=jhR k
   rw[<-e]at o H;exact absurd ((jc4 o).1.symm.trans (jc4 H).1) (jj4 E)
 | .ext a n,Q,h,k,e=>by
  obtain⟨p,q,x,y,E,o,H⟩:=jmz h
  cases Q with
  | nil=>exact k.elim
  | no=>exact k.elim
  | leaf b u =>
   rw[e]at o H;exact absurd (gX ((jc4 o).1.symm.trans (jc4 H).1)) (jj4 E)
  | ext b m =>
   have g2:=o;have g3:=H;rw[e]at g2 g3;have a1:=jiv _ _ p q E (jex g2) (jex g3)
   obtain⟨p',q',x',y',k1,O,X⟩:=jmz k
   have f2:=O;have f3:=X;rw[<-e]at f2 f3;have a0:=jiv _ _ p' q' k1 (jex f2) (jex f3);have Z:a.data.toList=b.data.toList:=a0.eq_of_length (Nat.le_antisymm a0.length_le a1.length_le);have Z:=jbK Z;subst Z;rw[uniq n m h.2.2.2 k.2.2.2 (fun t=>by rw[<-jic a n t, <-jic a m t,e])]
  | br u ks =>
   exfalso
   obtain⟨p',q',x',y',k1,O,X⟩:=jhR k
   rw[<-e]at O X;have h9:=jiv [] _ p' q' k1 (by simpa using jex O) (by simpa using jex X);have h9:=List.prefix_nil.1 h9;apply h.1;rw[<-jaO,h9];rfl
 | .br v ks,Q,h,k,e=>by
  cases Q with
  | nil=>exact k.elim
  | no=>exact k.elim
  | leaf b u =>
   obtain⟨p,q,x,y,E,o,H⟩:=jhR h
   rw[e]at o H;exact absurd ((jc4 o).1.symm.trans (jc4 H).1) (jj4 E)
  | ext b m =>
   exfalso
   obtain⟨p',q',x',y',k1,O,X⟩:=jhR h
   rw[e]at O X;have h9:=jiv [] _ p' q' k1 (by simpa using jex O) (by simpa using jex X);have h9:=List.prefix_nil.1 h9;apply k.1;rw[<-jaO,h9];rfl
  | br u js =>
   have ev:v=u:=by
    have K:=e [];have K:(if v.size=0 then none else some v)=if u.size=0 then none else some u:=K
    by_cases hv:v.size=0
    ·by_cases hu:u.size=0
     ·rw[jbo hv,jbo hu]
     ·rw[if_pos hv,if_neg hu]at K;cases K
    ·by_cases hu:u.size=0
     ·rw[if_neg hv,if_pos hu]at K;cases K
     ·rw[if_neg hv,if_neg hu]at K;exact bV K
   have ek:ks=js:=by
    funext i
    have J:i < 16->∀ t,getL (ks i) t=getL (js i) t:=by
     intro hi t
     have:=e (UInt8.ofNat i :: t)
     have:getL (ks (UInt8.ofNat i).toNat) t=getL (js (UInt8.ofNat i).toNat) t:=this
     rw[jgt hi]at this;exact this
    cases E:(ks i).isNil with
    | true =>
     cases o:(js i).isNil with
     | true=>rw[jbu E,jbu o]
     | false =>
      obtain⟨t,z,hz⟩:=jeu (js i) (k.2.1 i o)
      rw[<-J (k.1 i o),jbu E]at hz;cases hz
    | false =>
     cases o:(js i).isNil with
     | true =>
      obtain⟨t,z,hz⟩:=jeu (ks i) (h.2.1 i E)
      rw[J (h.1 i E),jbu o]at hz;cases hz
     | false=>exact uniq (ks i) (js i) (h.2.1 i E) (k.2.1 i o) (J (h.1 i E))
   rw[ev,ek]
section
attribute [local go_sem] Oper.semAt_some
def jdc(p:vB):Bool:=p.size % 2 == 0 && jaM p
def nib1(i:Nat):vB:=⟨#[UInt8.ofNat i]⟩
def keyV(p:vB):vV:=.tuple #[.string (if jdc p=true then jbz p else ⟨#[]⟩),.bool (jdc p)]
theorem jrr(w:vW)(p:vB)(hs:p.size<=1000000):vR 96 #[.string p] w (keyV p):=by
 by_cases h2:p.size % 2=0
 ·have z:(p.size:Int) % 2=0:=vO
  cases hv:jaM p with
  | true =>
   have o:jdc p=true:=by unfold jdc;rw[hv,h2];rfl
   have q:keyV p=.tuple #[.string (jbz p),.bool true]:=by unfold keyV;rw[o];rfl
   rw[q];clear o q;go_enter Tryz.func96,Tryz.ntmps96;go_wp2_with fail
   refine (jkD w p vO).mono ?_;rintro e w1 ⟨rfl,rfl⟩;rw[hv];go_wp2_with fail
   refine vC (jm4 w1 p hs) fun H E=>?_;go_wp2_with fail
   go_ret2
   exact⟨rfl,E⟩
  | false =>
   have o:jdc p=false:=by unfold jdc;rw[hv,h2];rfl
   have q:keyV p=.tuple #[.string ⟨#[]⟩,.bool false]:=by unfold keyV;rw[o];rfl
   rw[q];clear o q;go_enter Tryz.func96,Tryz.ntmps96;go_wp2_with fail
   refine (jkD w p vO).mono ?_;rintro e w1 ⟨rfl,rfl⟩;rw[hv];go_wp2_with fail
   go_ret2
   exact⟨rfl,ExtR w1⟩
 ·have z:¬(p.size:Int) % 2=0:=vO
  have o:jdc p=false:=by unfold jdc;rw[show (p.size % 2 == 0)=false by simpa using h2];rfl
  have q:keyV p=.tuple #[.string ⟨#[]⟩,.bool false]:=by unfold keyV;rw[o];rfl
  have J:((p.size:Int) % 2 != 0)=true:=by simpa using z
  rw[q];clear o q;go_enter Tryz.func96,Tryz.ntmps96;go_wp2_with fail
  go_ret2
  exact⟨rfl,ExtR w⟩
def bare(W:vW):vW:={ W with heap:=#[] }
theorem jtg(W:vW):Ext (bare W) W:=⟨rfl,rfl,rfl,cC _,fun b hb=>absurd hb (Nat.not_lt_zero b)⟩
theorem ORow.any{T:TypeId}{sz:Nat}{W:vW}{v:vV}{n:Nat}{xs:List vV}(h:W.ownsRow 0 T sz v n xs):ORow T sz (bare W) W v n xs:=⟨jaK h,h,jtg W,fun _ _=>cC _⟩
end
def sumF(g:Nat->Nat):Nat->Nat
 | 0=>0
 | n+1=>sumF g n+g n
def cntT:Nat->vL->Nat
 | 0,_=>1
 | f+1,l=>1+(if l.length<=1 then 0 else if 0 < comK l then cntT f (jag (comK l) l)else sumF (fun i=>if (cutL i l).length=0 then 0 else cntT f (jag 1 (cutL i l))) 16)
theorem joF(g:Nat->Nat)(l:vL)(h0:∀ i,(cutL i l).length=0->g i=0)(hg:∀ i,(cutL i l).length≠0->g i+2<=3 * (cutL i l).length):∀ n,sumF g n+2 * jdn l n<=3 * jc8 l n
 | 0=>by simp[sumF,jc8,jdn]
 | n+1=>by
  have e:=joF g l h0 hg n;rw[sumF,jc8,jdn]
  by_cases hz:(cutL n l).length=0
  ·rw[if_pos hz,h0 n hz];omega
  ·have:=hg n hz
   rw[if_neg hz];omega
structure CntP(c:Nat)(l:vL):Prop where
 all:c+2<=3 * l.length
 two:2<=l.length->comK l=0->c+3<=3 * l.length
theorem ju8:∀ (f:Nat) (l:vL),jaq f l->l≠[]->CntP (cntT f l) l:=by
 intro f;induction f with
 | zero =>
  intro l h hn;have h0:l.length≠0:=fun e=>hn (bE e);have hl:=jbv h
  exact⟨by show 1+2<=_;omega,fun h2=>by omega⟩
 | succ f ih =>
  intro l h hn;have h0:l.length≠0:=fun e=>hn (bE e)
  by_cases h1:l.length=1
  ·have e:cntT (f+1) l=1:=by unfold cntT;rw[if_pos vO]
   exact⟨by omega,fun h2=>by omega⟩
  have h2:2<=l.length:=vO
  have o:=jbq h h2
  by_cases hk:0 < comK l
  ·have a0:jaq f (jag (comK l) l):=(jci (comK l) h (fun p hp q hq=>(o p hp).1.trans (o q hq).1.symm) (fun p hp=>(o p hp).2)).mono vO
   have J:jag (comK l) l≠[]:=fun e=>by have:=jaA (comK l) l;rw[e]at this;simp at this;omega
   have z:=(ih _ a0 J).two (by rw[jaA];omega) (jgg vO);rw[jaA]at z;have e:cntT (f+1) l=1+cntT f (jag (comK l) l):=by rw[cntT,if_neg vO,if_pos hk]
   exact⟨by omega,fun _ hz=>by omega⟩
  ·have K:∀ i,(cutL i l).length≠0->jag 1 (cutL i l)≠[]:=fun i O e=>by have:=jaA 1 (cutL i l);rw[e]at this;simp at this;omega
   obtain⟨a,ha⟩:∃ a,l[0]?=some a:=⟨_,bA vO⟩
   obtain⟨b,hb⟩:∃ b,l[l.length - 1]?=some b:=⟨_,bA vO⟩
   have ga:l.getD 0 pd=a:=by rw[bH,ha];rfl
   have gb:l.getD (l.length - 1) pd=b:=by rw[bH,hb];rfl
   have E:=bI ha;have Q:=bI hb;have X:=jcy h.rise vO ha hb
   obtain⟨g,H⟩:=vE (fun i=>if (cutL i l).length=0 then 0 else cntT f (jag 1 (cutL i l)))
   have e:cntT (f+1) l=1+sumF g 16:=by rw[cntT,if_neg vO,if_neg hk,H]
   have z:sumF g 16+4<=3 * l.length:=by
    have a2:=joF g l (fun i O=>by rw[H];simp only[O,if_true]) (fun i O=>by
     have:=(ih _ (jdM i h) (K i O)).all
     rw[jaA]at this;rw[H];simp only[if_neg O];exact this) 16
    have Z:jba a.l b.l=0:=by
     have:comK l=jba a.l b.l:=by unfold comK jap;rw[ga,gb]
     omega
    cases hbl:b.l with
    | nil=>rw[hbl]at X;exact absurd X (not_lt_nil _)
    | cons y t =>
     have hy:=je2 (h.size b Q).2.2.1 hbl;have cb:=jfQ Q hbl;cases hal:a.l with
     | nil =>
      have:=jk4 ⟨a,E,hal⟩ 16
      have:=jis cb hy
      omega
     | cons x r =>
      have hx:=je2 (h.size a E).2.2.1 hal;have ca:=jfQ E hal;have a1:x≠y:=by
       intro e;rw[hal,hbl,e]at Z;simp[jba]at Z
      have J:x.toNat≠y.toNat:=fun e=>a1 (dP.1 e)
      have:=jeS l 16
      have:2<=jdn l 16:=by
       rcases fK x.toNat y.toNat with e | e
       ·exact jgv ca cb e hy
       ·exact jgv cb ca vO hx
      omega
   exact⟨by omega,fun _ _=>by omega⟩
theorem jsv{α:Type}{R:α->α->Prop}(hi:∀ x,¬ R x x)(ht:∀ x y,R x y->¬ R y x):∀ {a b:List α},a.Pairwise R->b.Pairwise R->(∀ x,x∈a↔x∈b)->a=b
 | [],[],_,_,_=>rfl
 | [],y :: b,_,_,h=>absurd ((h y).2 bF) (by simp)
 | x :: a,[],_,_,h=>absurd ((h x).1 bF) (by simp)
 | x :: a,y :: b,ha,hb,h=>by
  rw[cY]at ha hb;have e:x=y:=by
   rcases bK.1 ((h x).1 bF)with e | h1
   ·exact e
   rcases bK.1 ((h y).2 bF)with e | h2
   ·exact e.symm
   exact absurd (ha.1 y h2) (ht _ _ (hb.1 x h1))
  subst e;rw[jsv hi ht ha.2 hb.2 fun z=>?_];constructor
  ·intro o
   rcases bK.1 ((h z).1 (bD _ o))with e | h1
   ·subst e;exact absurd (ha.1 z o) (hi z)
   ·exact h1
  ·intro o
   rcases bK.1 ((h z).2 (bD _ o))with e | h1
   ·subst e;exact absurd (hb.1 z o) (hi z)
   ·exact h1
def jnM(l:vL):vL:=l.filter fun q=>q.1.size=0
theorem jsH(p:Pair):p.1.size=0↔p.l=[]:=by
 show p.1.data.toList.length=0↔_;exact List.length_eq_zero_iff
theorem jlC(x y:vN)(h:Lt x y):¬ Lt y x:=fun k=>lt_irrefl _ (jdK _ _ _ h k)
theorem jjA{f:Nat}{l:vL}(h:jaq f l):l=jnM l++(List.range 16).flatMap fun i=>cutL i l:=by
 refine jsv (R:=fun p q:Pair=>Lt p.l q.l) (fun x=>lt_irrefl _) (fun x y=>jlC _ _) h.rise ?_ fun p=>?_
 ·rw[List.pairwise_append]
  refine⟨h.rise.filter _,?_,fun p e q o=>?_⟩
  ·have:∀ n,((List.range n).flatMap fun i=>cutL i l).Pairwise fun p q:Pair=>Lt p.l q.l:=fun n=>by
    induction n with
    | zero=>simp
    | succ n ih =>
     rw[fX,dK,List.pairwise_append]
     refine⟨ih,?_,fun p e q o=>?_⟩
     ·simpa using (jqJ n h).rise
     ·obtain⟨i,E,e⟩:=cI.1 e
      simp only[cE,fM,bR]at o
      obtain⟨_,a,r,H,O⟩:=jbp e
      obtain⟨_,b,t,z,Q⟩:=jbp o
      rw[H,z]
      have:=dQ.1 E
      exact jbx.2 (.inl (dW.2 vO))
   exact this 16
  ·obtain⟨_,J⟩:=cH.1 e
   obtain⟨i,_,o⟩:=cI.1 o
   obtain⟨_,b,t,z,_⟩:=jbp o
   rw[(jsH p).1 (by simpa using J),z];exact joh
 ·rw[bO]
  constructor
  ·intro e
   cases hl:p.l with
   | nil=>exact .inl (cH.2 ⟨e,by simpa using (jsH p).2 hl⟩)
   | cons x r =>
    have K:=je2 (h.size p e).2.2.1 hl;exact .inr (cI.2 ⟨x.toNat,dQ.2 K,jqL e hl⟩)
  ·rintro (e | e)
   ·exact (cH.1 e).1
   ·obtain⟨i,_,e⟩:=cI.1 e
    exact (jbp e).1
theorem jjc{f:Nat}{l:vL}(h:jaq f l)(hn:l≠[]):jnM l=if (l.getD 0 pd).1.size=0 then [l.getD 0 pd]else []:=by
 cases l with
 | nil=>exact absurd rfl hn
 | cons p r =>
  have z:∀ q∈r,¬ q.1.size=0:=fun q o e=>by
   have:=(cY.1 h.rise).1 q o
   rw[(jsH q).1 e]at this;exact not_lt_nil _ this
  have E:r.filter (fun q:Pair=>q.1.size=0)=[]:=by
   rw[gZ];intro q o;simpa using z q o
  show (p :: r).filter _=if p.1.size=0 then [p]else []
  rw[dN,E]
  by_cases e:p.1.size=0
  ·rw[if_pos e,if_pos (by simpa using e)]
  ·rw[if_neg e,if_neg (by simpa using e)]
theorem jch(a b:vB):(a++b).data.toList=a.data.toList++b.data.toList:=by rw[dJ,fR]
theorem joy{α:Type}(g:Nat->List α)(hg:∀ i,(g i).reverse=g i):∀ l:List Nat,(l.reverse.flatMap g).reverse=l.flatMap g
 | []=>rfl
 | x :: l=>by
  rw[gK,dK,List.reverse_append,joy g hg l,cE];simp[hg]
theorem jyl{x:vU}{i:Nat}(h:x.toNat=i):UInt8.ofNat i=x:=by subst h;exact iJ
theorem jms{p:vB}{i k:Nat}{q:Pair}{x:vU}{r:vN}(h:q.l=x :: r)(hx:x.toNat=i):p++q.1=(p++nib1 i)++q.1.extract 1 q.1.size:=by
 refine jbK ?_;rw[jch,jch,jch,jcD _ _ _ (bM _)];have h:q.1.data.toList=x :: r:=h;rw[h];unfold nib1;rw[jyl hx];simp
theorem jmt{p:vB}{k:Nat}{q:Pair}{a:vB}(h:q.l.take k=a.data.toList):p++q.1=(p++a)++q.1.extract k q.1.size:=by
 refine jbK ?_;rw[jch,jch,jch,jcD _ _ _ (bM _), <-h,bX];show _++q.l=_++(q.l.take k++q.l.drop k);rw[dF]
def ja0:Nat->vL->PA
 | 0,_=>.no
 | f+1,l =>
  if l.length=0 then .no
  else if l.length=1 then .leaf (l.getD 0 pd).1 (l.getD 0 pd).2
  else if 0 < comK l then .ext ((l.getD 0 pd).1.extract 0 (comK l)) (ja0 f (jag (comK l) l))
  else .br (if (l.getD 0 pd).1.size=0 then (l.getD 0 pd).2 else ⟨#[]⟩) fun i=>if (cutL i l).length=0 then .nil else ja0 f (jag 1 (cutL i l))
theorem jeh(f:Nat)(l:vL):ja0 (f+1) l =
  if l.length=0 then .no
  else if l.length=1 then .leaf (l.getD 0 pd).1 (l.getD 0 pd).2
  else if 0 < comK l then .ext ((l.getD 0 pd).1.extract 0 (comK l)) (ja0 f (jag (comK l) l))
  else .br (if (l.getD 0 pd).1.size=0 then (l.getD 0 pd).2 else ⟨#[]⟩) fun i=>if (cutL i l).length=0 then .nil else ja0 f (jag 1 (cutL i l)):=rfl
theorem jbQ(f:Nat){l:vL}(h:l.length=0):ja0 (f+1) l=.no:=by rw[jeh];rw[if_pos h]
theorem jbT(f:Nat){l:vL}(h:l.length=1):ja0 (f+1) l=.leaf (l.getD 0 pd).1 (l.getD 0 pd).2:=by rw[jeh];rw[if_neg vO,if_pos h]
theorem jdt(f:Nat){l:vL}(h:2<=l.length)(hk:0 < comK l):ja0 (f+1) l=.ext ((l.getD 0 pd).1.extract 0 (comK l)) (ja0 f (jag (comK l) l)):=by
 rw[jeh];rw[if_neg vO,if_neg vO,if_pos hk]
theorem jeB(f:Nat){l:vL}(h:2<=l.length)(hk:¬ 0 < comK l):ja0 (f+1) l=.br (if (l.getD 0 pd).1.size=0 then (l.getD 0 pd).2 else ⟨#[]⟩) fun i=>if (cutL i l).length=0 then .nil else ja0 f (jag 1 (cutL i l)):=by
 rw[jeh];rw[if_neg vO,if_neg vO,if_neg hk]
theorem jxU{f:Nat}{l:vL}(h:jaq f l){i:Nat}(hi:(cutL i l).length≠0):i < 16:=by
 cases e:cutL i l with
 | nil=>rw[e]at hi;exact (hi rfl).elim
 | cons p r =>
  obtain⟨o,a,t,q,z⟩:=jbp (show p∈cutL i l by rw[e];exact bF)
  rw[<-z];exact je2 (h.size p o).2.2.1 q
theorem jkl:∀ (f:Nat) (l:vL),jaq f l->∀ p:vB,jaM p=true->getL (ja0 (f+1) l) p.data.toList=valL l p:=by
 intro f;induction f with
 | zero =>
  intro l h p J;have hl:=jbv h
  by_cases h0:l.length=0
  ·rw[jbQ _ h0,bE h0];rfl
  ·have z:l.length=1:=vO
   rw[jbT _ z]
   obtain⟨q,rfl⟩:=fB.1 z
   show (if q.1.data.toList=p.data.toList then some q.2 else none)=if q.1=p then some q.2 else valL [] p
   by_cases e:q.1=p
   ·rw[if_pos e,if_pos (by rw[e])]
   ·rw[if_neg e,if_neg (fun h=>e (jbK h))];rfl
 | succ f ih =>
  intro l h p J
  by_cases h0:l.length=0
  ·rw[jbQ _ h0,bE h0];rfl
  by_cases z:l.length=1
  ·rw[jbT _ z]
   obtain⟨q,rfl⟩:=fB.1 z
   show (if q.1.data.toList=p.data.toList then some q.2 else none)=if q.1=p then some q.2 else valL [] p
   by_cases e:q.1=p
   ·rw[if_pos e,if_pos (by rw[e])]
   ·rw[if_neg e,if_neg (fun h=>e (jbK h))];rfl
  have O:2<=l.length:=vO
  have Q:=jdb h O
  by_cases hk:0 < comK l
  ·rw[jdt _ O hk]
   show (if ((l.getD 0 pd).1.extract 0 (comK l)).data.toList.isPrefixOf p.data.toList=true then getL (ja0 (f+1) (jag (comK l) l)) (p.data.toList.drop _)else none)=_;rw[jaO,Q]
   by_cases hb:preB ((l.getD 0 pd).1.extract 0 (comK l)) p=true
   ·have E:goL l p=some (jag (comK l) l,p.extract (comK l) p.size):=by unfold goL;rw[if_neg vO,if_pos hk,if_pos hb]
    have o:=jra h J E;have H:((l.getD 0 pd).1.extract 0 (comK l)).data.toList.isPrefixOf p.data.toList=true:=hb;rw[if_pos H, <-jdG,ih _ o.rows _ o.valid,o.find]
   ·have E:goL l p=none:=by unfold goL;rw[if_neg vO,if_pos hk,if_neg hb]
    have o:=(jq9 h J E).2;have H:¬((l.getD 0 pd).1.extract 0 (comK l)).data.toList.isPrefixOf p.data.toList=true:=hb;rw[if_neg H, <-o];have e:jak (jab (f+1)) l=⟨2,(l.getD 0 pd).1.extract 0 (comK l),⟨#[]⟩,refB (jab (f+1) (jag (comK l) l)).text :: jav 15⟩:=by unfold jak;rw[if_neg h0,if_neg z,if_pos hk]
    rw[e];rfl
  ·rw[jeB _ O hk]
   cases hpl:p.data.toList with
   | nil =>
    have E:goL l p=none:=by unfold goL;rw[if_neg vO,if_neg hk,hpl]
    have o:=(jq9 h J E).2;rw[<-o]
    obtain⟨rs,X⟩:=vE ((List.range 16).map fun i=>if (cutL i l).length=0 then (⟨#[]⟩:vB)else refB (jab (f+1) (jag 1 (cutL i l))).text)
    have e:jak (jab (f+1)) l=⟨3,⟨#[]⟩,if (l.getD 0 pd).1.size=0 then (l.getD 0 pd).2 else ⟨#[]⟩,rs⟩:=by rw[X];unfold jak;rw[if_neg h0,if_neg z,if_neg hk]
    rw[e];have Z:p.size=0:=by rw[<-jaO p,hpl];rfl
    obtain⟨K,a0⟩:=vE (if (l.getD 0 pd).1.size=0 then (l.getD 0 pd).2 else ⟨#[]⟩)
    rw[<-a0];show (if K.size=0 then none else some K)=if (3:Nat)=1 then _ else if (3:Nat)=3 then (if p.size=0/\K.size≠0 then some K else none)else none
    rw[if_neg (by decide:¬(3:Nat)=1),if_pos rfl]
    by_cases hz:K.size=0
    ·rw[if_pos hz,if_neg (fun h=>h.2 hz)]
    ·rw[if_neg hz,if_pos ⟨Z,hz⟩]
   | cons x t =>
    show getL (if (cutL x.toNat l).length=0 then .nil else ja0 (f+1) (jag 1 (cutL x.toNat l))) t=_
    by_cases hc:(cutL x.toNat l).length=0
    ·rw[if_pos hc]
     refine (jgD fun q hq e=>?_).symm;exact jfQ hq (p:=q) (by show q.1.data.toList=x :: t;rw[e,hpl]) hc
    ·rw[if_neg hc]
     have E:goL l p=some (jag 1 (cutL x.toNat l),p.extract 1 p.size):=by
      unfold goL;rw[if_neg vO,if_neg hk,hpl];show (if (cutL x.toNat l).length=0 then _ else _)=_;rw[if_neg hc]
     have o:=jra h J E;have e:t=(p.extract 1 p.size).data.toList:=by rw[jdG,hpl];rfl
     rw[e,ih _ o.rows _ o.valid,o.find]
theorem jeO{f:Nat}{l:vL}(h:jaq (f+1) l){i:Nat}(hc:(cutL i l).length≠0):jaq f (jag 1 (cutL i l))/\jag 1 (cutL i l)≠[]:=
 ⟨jdM i h,fun e=>by have:=jaA 1 (cutL i l);rw[e]at this;simp at this;exact hc this.symm⟩
theorem jd0{f:Nat}{l:vL}(h:jaq (f+1) l)(h2:2<=l.length)(hk:0 < comK l):jaq f (jag (comK l) l)/\jag (comK l) l≠[]/\2<=(jag (comK l) l).length/\comK (jag (comK l) l)=0:=by
 have o:=jbq h h2
 exact⟨(jci (comK l) h (fun p z q E=>(o p z).1.trans (o q E).1.symm) (fun p z=>(o p z).2)).mono vO,
  fun e=>by have:=jaA (comK l) l;rw[e]at this;simp at this;omega,by rw[jaA];exact h2,jgg vO⟩
theorem joo:∀ (f:Nat) (l:vL),jaq f l->l≠[]->CanP (ja0 (f+1) l)/\(2<=l.length->comK l=0->(ja0 (f+1) l).isBr=true):=by
 intro f;induction f with
 | zero =>
  intro l h Z;have hl:=jbv h;have h1:l.length=1:=by have:=gD.2 Z;omega
  have H:=h.size _ (jdq (l:=l) vO);rw[jbT _ h1]
  exact⟨⟨H.2.2.1,by omega⟩,fun E=>by omega⟩
 | succ f ih =>
  intro l h Z;have a0:=gD.2 Z
  by_cases h1:l.length=1
  ·have H:=h.size _ (jdq (l:=l) vO)
   rw[jbT _ h1]
   exact⟨⟨H.2.2.1,by omega⟩,fun E=>by omega⟩
  have E:2<=l.length:=vO
  have H:=h.size _ (jdq (l:=l) vO)
  by_cases hk:0 < comK l
  ·obtain⟨J,K,k3,k4⟩:=jd0 h E hk
   obtain⟨i1,i2⟩:=ih _ J K
   rw[jdt _ E hk]
   exact⟨⟨by rw[jdb h E];omega,jhf H.2.2.1 _,i2 k3 k4,i1⟩,fun _ e=>by omega⟩
  ·rw[jeB _ E hk]
   refine⟨⟨fun i o=>?_,fun i o=>?_,?_⟩,fun _ _=>rfl⟩
   ·by_cases q:(cutL i l).length=0
    ·have o:(if (cutL i l).length=0 then PA.nil else ja0 (f+1) (jag 1 (cutL i l))).isNil=false:=o
     rw[if_pos q]at o;cases o
    ·exact jxU h q
   ·have o:(if (cutL i l).length=0 then PA.nil else ja0 (f+1) (jag 1 (cutL i l))).isNil=false:=o
    show CanP (if (cutL i l).length=0 then PA.nil else ja0 (f+1) (jag 1 (cutL i l)))
    by_cases q:(cutL i l).length=0
    ·rw[if_pos q]at o;cases o
    ·rw[if_neg q]
     obtain⟨J,K⟩:=jeO h q
     exact (ih _ J K).1
   ·obtain⟨a,X⟩:∃ a,l[0]?=some a:=⟨_,bA vO⟩
    obtain⟨b,hb⟩:∃ b,l[l.length - 1]?=some b:=⟨_,bA vO⟩
    have ga:l.getD 0 pd=a:=by rw[bH,X];rfl
    have gb:l.getD (l.length - 1) pd=b:=by rw[bH,hb];rfl
    have O:=jcy h.rise vO X hb;have z:jba a.l b.l=0:=by
     have:comK l=0:=vO
     unfold comK at this;rw[ga,gb]at this;exact this
    have Q:∀ p∈l,∀ x t,p.l=x :: t->(if (cutL x.toNat l).length=0 then PA.nil else ja0 (f+1) (jag 1 (cutL x.toNat l))).isNil=false:=by
     intro p hp x t hx;have q:=jfQ hp hx;rw[if_neg q]
     obtain⟨J,K⟩:=jeO h q
     exact jmA (ih _ J K).1
    cases hbl:b.l with
    | nil=>rw[hbl]at O;exact absurd O (not_lt_nil _)
    | cons y s =>
     have kb:=Q b (bI hb) y s hbl;cases hal:a.l with
     | nil =>
      right;rw[ga];have h0:a.1.size=0:=by rw[<-jaO];show a.l.length=0;rw[hal];rfl
      rw[if_pos h0]
      have:=(h.size a (bI X)).2.2.2.1
      exact⟨by omega,y.toNat,kb⟩
     | cons x t =>
      left
      refine⟨x.toNat,y.toNat,fun e=>?_,Q a (bI X) x t hal,kb⟩
      have e:=dP.1 e;rw[hal,hbl,e]at z;simp[jba]at z
theorem jeW:∀ (P:PA),CanP P->∀ (p:vN) (v:vB),getL P p=some v->∀ x∈p,x.toNat < 16
 | .nil,h,_,_,_=>h.elim
 | .no,h,_,_,_=>h.elim
 | .leaf a v,h,p,u,e=>by
  obtain⟨rfl,_⟩:=jc4 e
  exact jcf.1 h.1
 | .ext a n,h,p,u,e=>by
  obtain⟨r,rfl⟩:=jex e
  rw[jic]at e;intro x o;rcases bO.1 o with o | o
  ·exact jcf.1 h.2.1 x o
  ·exact jeW n h.2.2.2 r u e x o
 | .br v ks,h,[],u,e=>fun x o=>by cases o
 | .br v ks,h,y :: t,u,e=>by
  have e:getL (ks y.toNat) t=some u:=e;have q:(ks y.toNat).isNil=false:=by
   cases hb:(ks y.toNat).isNil with
   | false=>rfl
   | true=>rw[jbu hb]at e;cases e
  intro x o;rcases bK.1 o with rfl | o
  ·exact h.1 _ q
  ·exact jeW (ks y.toNat) (h.2.1 _ q) t u e x o
theorem jse{f:Nat}{l:vL}(h:jaq f l){P:PA}(hP:P=.no\/CanP P)(hg:∀ p:vB,jaM p=true->getL P p.data.toList=valL l p):P=ja0 (f+1) l:=by
 by_cases h0:l.length=0
 ·rw[jbQ _ h0]
  rcases hP with e | q
  ·exact e
  ·exfalso
   obtain⟨p,v,e⟩:=jeu P q
   have o:=jeW P q p v e
   have:=hg ⟨p.toArray⟩ (jcf.2 (by simpa using o))
   rw[bE h0]at this;have H:getL P (⟨p.toArray⟩:vB).data.toList=some v:=by simpa using e
   rw[H]at this;cases this
 ·have J:l≠[]:=fun e=>h0 (by rw[e];rfl)
  obtain⟨q,_⟩:=joo f l h J
  rcases hP with rfl | hP
  ·exfalso
   obtain⟨p,v,e⟩:=jeu _ q
   have o:=jeW _ q p v e;have z:=jkl f l h ⟨p.toArray⟩ (jcf.2 (by simpa using o));have H:getL (ja0 (f+1) l) (⟨p.toArray⟩:vB).data.toList=some v:=by simpa using e
   have E:=hg ⟨p.toArray⟩ (jcf.2 (by simpa using o));rw[H]at z;rw[<-z]at E;cases E
  ·refine uniq P _ hP q fun p=>?_
   by_cases o:∀ x∈p,x.toNat < 16
   ·have z:=jkl f l h ⟨p.toArray⟩ (jcf.2 (by simpa using o))
    have E:=hg ⟨p.toArray⟩ (jcf.2 (by simpa using o));have e:(⟨p.toArray⟩:vB).data.toList=p:=by simp
    rw[e]at z E;rw[z,E]
   ·have g:∀ Q:PA,CanP Q->getL Q p=none:=by
     intro Q K;cases e:getL Q p with
     | none=>rfl
     | some v=>exact absurd (jeW Q K p v e) o
    rw[g P hP,g _ q]
noncomputable def putN(n:jae):vB:=@ite _ (∃ d,jcg (InlD d) n) (Classical.propDecidable _) (jaS n) ⟨#[]⟩
theorem jlU{d:Nat}{n:jae}(h:jcg (InlD d) n):putN n=jaS n:=if_pos ⟨d,h⟩
noncomputable def textP:PA->vB
 | .nil=>⟨#[]⟩
 | .no=>putN jaV
 | .leaf q v=>putN ⟨1,q,v,jav 16⟩
 | .ext q n=>putN ⟨2,q,⟨#[]⟩,refB (textP n) :: jav 15⟩
 | .br v ks=>putN ⟨3,⟨#[]⟩,v,(List.range 16).map fun i=>if (ks i).isNil then ⟨#[]⟩else refB (textP (ks i))⟩
noncomputable def nodeP:PA->jae
 | .nil=>jaV
 | .no=>jaV
 | .leaf q v=>⟨1,q,v,jav 16⟩
 | .ext q n=>⟨2,q,⟨#[]⟩,refB (textP n) :: jav 15⟩
 | .br v ks=>⟨3,⟨#[]⟩,v,(List.range 16).map fun i=>if (ks i).isNil then ⟨#[]⟩else refB (textP (ks i))⟩
noncomputable def underP:PA->vM
 | .nil=>[]
 | .no=>[]
 | .leaf _ _=>[]
 | .ext _ n=>bigs (textP n)++underP n
 | .br _ ks=>(List.range 16).flatMap fun i=>if (ks i).isNil then []else bigs (textP (ks i))++underP (ks i)
theorem jmb{P:PA}(h:P.isNil=false):textP P=putN (nodeP P):=by cases P <;> first | rfl | cases h
theorem jdz{f:Nat}{l:vL}:(ja0 (f+1) l).isNil=false:=by
 rw[jeh];split
 ·rfl
 ·split
  ·rfl
  ·split <;> rfl
theorem jgW{α:Type}(g:α->List PT):∀ L:List α,jay (L.flatMap g)=L.flatMap fun i=>jay (g i)
 | []=>rfl
 | x :: L=>by rw[cE,jdp,jgW g L];rfl
theorem jfw:∀ (f:Nat) (l:vL),jaq f l->nodeP (ja0 (f+1) l)=jak (jab f) l/\textP (ja0 (f+1) l)=(jab (f+1) l).text/\underP (ja0 (f+1) l)=jay (jan (jab f) l):=by
 intro f;have o:∀ (f:Nat) (l:vL),jaq f l->nodeP (ja0 (f+1) l)=jak (jab f) l->textP (ja0 (f+1) l)=(jab (f+1) l).text:=by
  intro f l X h;rw[jmb jdz,h,jlU (good f l X).1];rfl
 induction f with
 | zero =>
  intro l h;have hl:=jbv h
  by_cases h0:l.length=0
  ·have e:nodeP (ja0 (0+1) l)=jak (jab 0) l:=by rw[jbQ _ h0];unfold jak;rw[if_pos h0];rfl
   exact⟨e,o 0 l h e,by rw[jbQ _ h0];unfold jan;rw[if_pos vO];rfl⟩
  ·have q:l.length=1:=vO
   have e:nodeP (ja0 (0+1) l)=jak (jab 0) l:=by rw[jbT _ q];unfold jak;rw[if_neg h0,if_pos q];rfl
   exact⟨e,o 0 l h e,by rw[jbT _ q];unfold jan;rw[if_pos vO];rfl⟩
 | succ f ih =>
  intro l h;have E:∀ m,jaq f m->m≠[]->bigs (textP (ja0 (f+1) m))++underP (ja0 (f+1) m)=jay (jbw (jab (f+1) m)):=by
   intro m Q K
   obtain⟨_,Z,i3⟩:=ih m Q
   have O:=(good f m Q).2.1 K;rw[Z,i3];unfold bigs jbw
   by_cases hz:(jab (f+1) m).text.size < 32
   ·rw[if_pos hz,if_pos hz]
    have e:(jab (f+1) m).kids=[]:=O.small hz;have e:jan (jab f) m=[]:=e;rw[e];rfl
   ·rw[if_neg hz,if_neg hz]
    show _=jam (jab (f+1) m)++[];rw[bR];rfl
  by_cases h0:l.length=0
  ·have e:nodeP (ja0 (f+1+1) l)=jak (jab (f+1)) l:=by rw[jbQ _ h0];unfold jak;rw[if_pos h0];rfl
   exact⟨e,o _ l h e,by rw[jbQ _ h0];unfold jan;rw[if_pos vO];rfl⟩
  by_cases q:l.length=1
  ·have e:nodeP (ja0 (f+1+1) l)=jak (jab (f+1)) l:=by rw[jbT _ q];unfold jak;rw[if_neg h0,if_pos q];rfl
   exact⟨e,o _ l h e,by rw[jbT _ q];unfold jan;rw[if_pos vO];rfl⟩
  have H:2<=l.length:=vO
  by_cases hk:0 < comK l
  ·obtain⟨z,J,_,_⟩:=jd0 h H hk
   have e:nodeP (ja0 (f+1+1) l)=jak (jab (f+1)) l:=by
    rw[jdt _ H hk];unfold jak;rw[if_neg h0,if_neg q,if_pos hk];show (⟨2,_,⟨#[]⟩,refB (textP (ja0 (f+1) (jag (comK l) l))) :: jav 15⟩:jae)=_;rw[(ih _ z).2.1]
   refine⟨e,o _ l h e,?_⟩
   rw[jdt _ H hk];unfold jan;rw[if_neg vO,if_pos hk];exact E _ z J
  ·have e:nodeP (ja0 (f+1+1) l)=jak (jab (f+1)) l:=by
    rw[jeB _ H hk];unfold jak;rw[if_neg h0,if_neg q,if_neg hk];show (⟨3,⟨#[]⟩,_,(List.range 16).map _⟩:jae)=⟨3,⟨#[]⟩,_,(List.range 16).map _⟩
    congr 1
    refine cS fun i _=>?_;show (if (if (cutL i l).length=0 then PA.nil else ja0 (f+1) (jag 1 (cutL i l))).isNil=true then _ else refB (textP (if (cutL i l).length=0 then PA.nil else ja0 (f+1) (jag 1 (cutL i l)))))=_
    by_cases hc:(cutL i l).length=0
    ·rw[if_pos hc,if_pos hc];rfl
    ·obtain⟨z,J⟩:=jeO h hc
     rw[if_neg hc,if_neg hc,jdz,if_neg ff,(ih _ z).2.1]
   refine⟨e,o _ l h e,?_⟩
   have eB:jan (jab (f+1)) l=(List.range 16).flatMap fun i=>if (cutL i l).length=0 then []else jbw (jab (f+1) (jag 1 (cutL i l))):=by unfold jan;rw[if_neg vO,if_neg hk]
   rw[jeB _ H hk,eB,jgW];show (List.range 16).flatMap _=_
   congr 1
   funext i
   show (if (if (cutL i l).length=0 then PA.nil else ja0 (f+1) (jag 1 (cutL i l))).isNil=true then _ else bigs (textP (if (cutL i l).length=0 then PA.nil else ja0 (f+1) (jag 1 (cutL i l))))++underP (if (cutL i l).length=0 then PA.nil else ja0 (f+1) (jag 1 (cutL i l))))=_
   by_cases hc:(cutL i l).length=0
   ·rw[if_pos hc,if_pos hc];rfl
   ·obtain⟨z,J⟩:=jeO h hc
    rw[if_neg hc,if_neg hc,jdz,if_neg ff];exact E _ z J
def keyR(p v:vB):vL:=if jdc p=true then [(jbz p,v)]else []
def entP:PA->vB->vL
 | .nil,_=>[]
 | .no,_=>[]
 | .leaf q v,p=>keyR (p++q) v
 | .ext q n,p=>entP n (p++q)
 | .br v ks,p=>(if v.size=0 then []else keyR p v)++(List.range 16).flatMap fun i=>if (ks i).isNil then []else entP (ks i) (p++nib1 i)
theorem jlc(p a:vB)(k:Nat)(l:vL)(h:∀ q∈l,p++q.1=(p++a)++q.1.extract k q.1.size):(jag k l).map (fun q=>(jbz ((p++a)++q.1),q.2))=l.map fun q=>(jbz (p++q.1),q.2):=by
 unfold jag;rw[cT];refine cS fun q e=>?_;show (jbz ((p++a)++q.1.extract k q.1.size),q.2)=_;rw[<-h q e]
theorem jsc:∀ (f:Nat) (l:vL),jaq f l->∀ p:vB,(∀ q∈l,jdc (p++q.1)=true)->entP (ja0 (f+1) l) p=l.map fun q=>(jbz (p++q.1),q.2):=by
 intro f;induction f with
 | zero =>
  intro l h p E;have hl:=jbv h
  by_cases h0:l.length=0
  ·rw[jbQ _ h0,bE h0];rfl
  ·have H:l.length=1:=vO
   rw[jbT _ H]
   obtain⟨q,rfl⟩:=fB.1 H
   show keyR (p++q.1) q.2=[(jbz (p++q.1),q.2)];unfold keyR;rw[if_pos (E q bF)]
 | succ f ih =>
  intro l h p E
  by_cases h0:l.length=0
  ·rw[jbQ _ h0,bE h0];rfl
  by_cases H:l.length=1
  ·rw[jbT _ H]
   obtain⟨q,rfl⟩:=fB.1 H
   show keyR (p++q.1) q.2=[(jbz (p++q.1),q.2)];unfold keyR;rw[if_pos (E q bF)]
  have Q:2<=l.length:=vO
  by_cases hk:0 < comK l
  ·obtain⟨X,k2,_,_⟩:=jd0 h Q hk
   have J:=jbq h Q;rw[jdt _ Q hk];show entP (ja0 (f+1) (jag (comK l) l)) (p++(l.getD 0 pd).1.extract 0 (comK l))=_;have o:∀ q∈l,p++q.1=(p++(l.getD 0 pd).1.extract 0 (comK l))++q.1.extract (comK l) q.1.size:=fun q z=>jmt (by rw[(J q z).1,jeZ]);rw[ih _ X _ (fun q z=>?_),jlc p _ _ l o]
   obtain⟨r,K,rfl⟩:=bC.1 z
   show jdc ((p++(l.getD 0 pd).1.extract 0 (comK l))++r.1.extract (comK l) r.1.size)=true;rw[<-o r K];exact E r K
  ·rw[jeB _ Q hk]
   have Z:l≠[]:=fun e=>h0 (by rw[e];rfl);have a0:=jjA h;have a1:=jjc h Z;have e1:(if (if (l.getD 0 pd).1.size=0 then (l.getD 0 pd).2 else ⟨#[]⟩:vB).size=0 then []else keyR p (if (l.getD 0 pd).1.size=0 then (l.getD 0 pd).2 else ⟨#[]⟩))=(jnM l).map fun q=>(jbz (p++q.1),q.2):=by
    rw[a1]
    by_cases hz:(l.getD 0 pd).1.size=0
    ·have hm:=jdq (l:=l) vO
     have hs:=h.size _ hm;rw[if_pos hz,if_pos hz,if_neg vO];have e0:p++(l.getD 0 pd).1=p:=by rw[jbo hz];exact jbK (by rw[jkT];simp)
     show keyR p _=[(jbz (p++(l.getD 0 pd).1),(l.getD 0 pd).2)];have O:=E _ hm;rw[e0]at O ⊢;unfold keyR;rw[if_pos O]
    ·rw[if_neg hz,if_neg hz];rfl
   show (if (if (l.getD 0 pd).1.size=0 then (l.getD 0 pd).2 else ⟨#[]⟩:vB).size=0 then []else keyR p (if (l.getD 0 pd).1.size=0 then (l.getD 0 pd).2 else ⟨#[]⟩))++(List.range 16).flatMap _=l.map _;rw[e1]
   conv=>rhs;rw[a0]
   rw[bY,List.map_flatMap]
   congr 1
   congr 1
   funext i
   show (if (if (cutL i l).length=0 then PA.nil else ja0 (f+1) (jag 1 (cutL i l))).isNil=true then []else entP (if (cutL i l).length=0 then PA.nil else ja0 (f+1) (jag 1 (cutL i l))) (p++nib1 i))=_
   by_cases hc:(cutL i l).length=0
   ·rw[if_pos hc,bE hc];rfl
   ·obtain⟨X,k2⟩:=jeO h hc
    rw[if_neg hc,jdz,if_neg ff];have o:∀ q∈cutL i l,p++q.1=(p++nib1 i)++q.1.extract 1 q.1.size:=fun q z=>by
     obtain⟨_,a,r,e,ha⟩:=jbp z
     exact jms (k:=0) e ha
    rw[ih _ X _ (fun q z=>?_),jlc p _ _ _ o]
    obtain⟨r,K,rfl⟩:=bC.1 z
    show jdc ((p++nib1 i)++r.1.extract 1 r.1.size)=true;rw[<-o r K];exact E r (jbp K).1
theorem jyH(w:vW)(v:vV)(l:vL)(hc:jbS w)(hv:RdP w v l)(h:jat l=0):vR 78 #[v] w (.tuple #[.string (jau l).text,.int .i64 0]):=by
 have z:=jaw h
 obtain⟨a,c,rfl⟩:=hv.sl;have X:=Hd hv;have E:=Hd z;have HC:=Hd hc;have H:=Hd h;have J:=Hd z.len;clear hv z hc h;go_enter Tryz.func78,Tryz.ntmps78;go_wp2_with fail
 refine vH (jgP w _ l X.o (by have:=J.o;omega) (fun p K=>by have:=E.o.size p K;omega)) fun w1 Z=>?_;rw[H.o];go_wp2_with fail
 refine (jvl w1 _ l (X.o.ext Z.o) (by have:=J.o;omega) (fun p K=>by have:=E.o.size p K;omega)).mono ?_;rintro e w2 ⟨u,rfl,O⟩;have HR:=Hd O.rd;have HX:=Hd (Z.o.trans O.ext);clear O
 obtain⟨a2,c2,hu⟩:=HR.o.sl
 subst hu;go_wp2_with fail
 refine (jjQ 12 (jaR l) (jbt E.o) (by unfold jaR;rw[bZ];have:=J.o;omega) w2 _ (HC.o.ext HX.o) HR.o).mono ?_;rintro e w3 ⟨k,rfl,hk,hE⟩
 obtain⟨a0,vk,bk,q,_⟩:=hk.open
 have q0:w3.cell? ⟨k,0,none⟩=some (.string (jab 13 (jaR l)).text):=q.cell vF;have Q:=Hd (HX.o.trans hE);clear hk q hE;unfold ptrV;go_wp2_with fail
 go_ret2
 exact⟨rfl,Q.o⟩
theorem jwQ(w:vW)(v:vV)(l:vL)(hc:jbS w)(hv:RdP w v l)(h:jat l=0):vR 40 #[v] w (.tuple #[.string (shaB (jau l).text),.int .i64 0]):=by
 have z:=jyH w v l hc hv h
 obtain⟨a,c,rfl⟩:=hv.sl
 obtain⟨t,H⟩:=vE (jau l).text
 rw[<-H]at z ⊢;have K:=Hd z;have O:=Hd hc;clear z hc hv H h;go_enter Tryz.func40,Tryz.ntmps40;go_wp2_with fail
 refine K.o.mono ?_;rintro e w1 ⟨rfl,q⟩;have J:=Hd q;clear q;go_wp2_with fail
 refine vH (of_t _ _ [t] (by simp) (jcO w1 [t] 9) (O.o.ext (J.o.alloc _))) fun Q q=>?_;rw[jdQ];have E:=Hd ((J.o.alloc _).trans q);go_wp2_with fail
 go_ret2
 exact⟨rfl,E.o⟩
theorem jv9(w:vW)(x y k:vB)(gk:Nat)(hk:w.cell? ⟨gk,0,none⟩=some (.string k)):vR 76 #[.agg #[.string x,.string y],.pointer (some ⟨gk,0,none⟩)] w (.bool (x.toList == k.toList)):=by
 have e:=jaa hk ((ExtR w).alloc (.cells #[.string x,.string y] 71));clear hk;go_enter Tryz.func76,Tryz.ntmps76;go_wp2_with fail
 go_ret
 exact⟨rfl,(ExtR w).alloc _⟩
def jj6(k:vB)(l:vL):Option Nat:=l.findIdx? fun p=>p.1.toList == k.toList
def idxV:Option Nat->Int | some i=>i | none => -1
def jxp(w:vW)(k:vB)(l:vL)(v:vV)(wr:vW):Prop:=∃ i:Nat,i<=l.length/\v=.int .i64 i/\Ext w wr/\∀ p∈l.take i,(p.1.toList == k.toList)=false
theorem jmR(w:vW)(v:vV)(l:vL)(k:vB)(gk:Nat)(hv:RdP w v l)(hn:l.length<=1000000)(hk:w.cell? ⟨gk,0,none⟩=some (.string k)):vR 75 #[v,.func (.func 76) #[] #[.pointer (some ⟨gk,0,none⟩)]] w (.int .i64 (idxV (jj6 k l))):=by
 obtain⟨a,c,X⟩:=hv.sl
 have HV:=Hd hv;have HK:=Hd hk;subst X;clear hv hk;go_enter Tryz.func75,Tryz.ntmps75;go_wp2_with fail
 go_loopw [8] (fun i wr=>jxp w k l i wr) (fun i _=>l.length - (intOf i).toNat)
 case atStart=>exact⟨0,by omega,rfl,ExtR w,fun p e=>by simp at e⟩
 case round =>
  obtain⟨i,hi,rfl,K,E⟩:=hrel
  have H:=Hd K;have q:=Hd E;clear K E
  by_cases hlt:i < l.length
  ·rcases HV.o with⟨_,_,_,h0⟩ |⟨b,o,c',hh,hb,hc,hcell⟩
   ·rw[h0]at hlt;cases hlt
   cases hh
   obtain⟨p,e⟩:∃ p,l[i]?=some p:=⟨_,bA hlt⟩
   obtain⟨O,Q⟩:=hcell i p e
   have O:=jaa O H.o;have Q:=jaa Q H.o
   obtain⟨x,y⟩:=p
   simp only at O Q;have b1:(i:Int) < (l.length:Int):=vO
   have HP:=Hd e;clear hcell e;go_wp2_with fail
   refine vH (jv9 wr x y k gk (jaa HK.o H.o)) fun w3 K=>?_;have J:=Hd (H.o.trans K);clear O Q;cases hq:(x.toList == k.toList)with
   | true =>
    have Z:=Hd hq;clear hq;go_wp2_with fail
    go_ret
    refine⟨?_,J.o⟩
    have z:jj6 k l=some i:=by
     unfold jj6;rw[gA]
     refine⟨hlt,?_,fun j hj=>?_⟩
     ·rw[(bU.1 HP.o).2];exact Z.o
     ·have:=q.o l[j] (List.mem_take_iff_getElem.2 ⟨j,by omega,rfl⟩)
      rw[this];simp
    rw[z];rfl
   | false =>
    have Z:=Hd hq;clear hq;go_wp2_with fail
    go_roundw
    case rel =>
     refine⟨i+1,by omega,by go_num,J.o,fun p e=>?_⟩
     rw[cB,HP.o]at e;rcases bO.1 e with e | e
     ·exact q.o p e
     ·simp at e;subst e;exact Z.o
    case measure=>exact vJ
  ·have a0:i=l.length:=vO
   subst a0;have z:jj6 k l=none:=by
    unfold jj6;rw[List.findIdx?_eq_none_iff];exact fun p e=>q.o p (by rw[cF];exact e)
   have a1:=Hd z;clear z;go_wp2;go_ret
   exact⟨by rw[a1.o];rfl,H.o⟩
def jiR(l:vL)(k:vB):Option vB:=(jj6 k l).map fun i=>(l.getD i pd).2
theorem jve(w:vW)(v:vV)(l:vL)(k:vB)(hv:RdP w v l)(hn:l.length<=1000000):vR 36 #[v,.string k] w (optV (jiR l k)):=by
 obtain⟨a,c,z⟩:=hv.sl
 have K:=Hd hv;subst z;clear hv
 obtain⟨r,E⟩:=vE (optV (jiR l k))
 rw[<-E];have O:=Hd E;clear E;go_enter Tryz.func36,Tryz.ntmps36;go_wp2_with fail
 refine vH (jmR _ _ l k w.heap.size (K.o.ext ((ExtR w).alloc _)) hn ((Blk.new w _).cell vF)) fun w1 Q=>?_;have H:=Hd (((ExtR w).alloc _).trans Q);cases hka:jj6 k l with
 | none =>
  have e:=Hd (show r=optV none by rw[O.o];unfold jiR;rw[hka];rfl);clear hka;unfold idxV;go_wp2_with fail
  go_ret2
  exact⟨by rw[e.o];rfl,H.o⟩
 | some i =>
  have q:i < l.length:=by
   unfold jj6 at hka;exact (gA.1 hka).1
  rcases K.o with⟨_,_,_,h0⟩ |⟨b,o,c',hh,hb,hc,hcell⟩
  ·rw[h0]at q;cases q
  cases hh
  obtain⟨p,J⟩:∃ p,l[i]?=some p:=⟨_,bA q⟩
  have X:=jaa (hcell i p J).2 H.o;have e:=Hd (show r=optV (some p.2) by
   rw[O.o];unfold jiR;rw[hka];show optV (some (l.getD i pd).2)=_;rw[bH,J];rfl)
  have Z:(i:Int) < (l.length:Int):=vO
  clear hka hcell J;unfold idxV;go_wp2_with fail
  go_ret2
  exact⟨by rw[e.o];rfl,H.o⟩
theorem jv6(d:Nat)(a b:vB)(w:vW):(Op.equalIn (d+1) 9 (.string a) (.string b)).run Tryz.prog w=.ok (a == b) w:=by
 simp[Op.equalIn,bT,run_underlying Tryz.uStr,Result.andThen,cJ]
def jgS(d:Option TypeDesc)(l:List (Bool × TypeId × Nat)):Bool:=match d with | some (.struct fs)=>fs.toList.map (fun f=>(f.name == "_",f.type,f.offset)) == l | _=>false
theorem jv7{d:Option TypeDesc}(h:jgS d [(false,9,0),(false,9,1)]=true):∃ f g:Field,d=some (.struct #[f,g])/\f.name ≠ "_"/\f.type=9/\f.offset=0/\g.name ≠ "_"/\g.type=9/\g.offset=1:=by
 cases d with
 | none=>cases h
 | some d =>
  cases d <;> try (cases h;done)
  rename_i fs
  obtain⟨l⟩:=fs
  rcases l with _ |⟨f,_ |⟨g,_ |⟨e,r⟩⟩⟩ <;> simp[jgS]at h
  obtain⟨⟨o,q,z⟩,E,H,J⟩:=h
  exact⟨f,g,rfl,o,q,z,E,H,J⟩
section
section mixf
variable {P:Program} {l:List Oper} {E:vW->vW->Prop}
variable {R:List Nat->Act->vW->Prop} {ord done:List Nat} {a:Act} {w:vW} {k:Nat} {o:Oper}
end mixf
end
def jxK(P:Program)(l:Nat)(args:Array vV)(W:vW)(r:Nat)(Ct:vW->Prop):Prop:=
 YieldAt Fence.wide 0 P l args W fun e W'=>e=.returned (.bool true)/\jad (fun b=>b≠r) W W'/\Ct W'
def jxr(P:Program)(gf:FuncId)(lb:Array vV){σ:Type}(s0:σ)(Step:σ->Array vV->σ->Prop)(Done:σ->Prop)(S:vW->Prop):Prop:=
 ∀ (l:Nat) (C:σ->vW->Prop) (W:vW),(∀ s W1 W2,C s W1->jad (fun b=>b=W.heap.size) W1 W2->C s W2)->(∀ s W1,C s W1->S W1) ->
  (∀ s v s' W1,Step s v s'->C s W1->W.heap.size < W1.heap.size->jxK P l v W1 W.heap.size (C s'))->C s0 W ->
   CallsIn Fence.wide 0 P gf (#[.func (.yield l) #[] #[]]++lb) W (fun e W'=>(∃ v,e=.returned v)/\∃ s,Done s/\C s W')
def jxE(g:Nat)(W:vW)(Ct:vW->Prop):Exit->Act->vW->Prop
 | .normal,_,W'=>jad (fun b=>b≠g/\b≠g+1/\b≠g+2) W W'/\Ct W'
 | _,_,_=>False
theorem jsV{P:Program}{g:Operand}{ps:Array Tmp}{assign body:Code}{Q:Exit->Act->vW->Prop}{a:Act}{w:vW}
  {gf:Nat} {lb:Array vV} (hg:a.eval g=.func (.func gf) #[] lb) (eg:∀ args w,(callFunc gf args).run P w=.ok (.enter gf args) w)
  {σ:Type} {s0:σ} {Step:σ->Array vV->σ->Prop} {Done:σ->Prop} {S:vW->Prop} (IS:jxr P gf lb s0 Step Done S)
  (hps:∀ s v J,Step s v J->v.size=ps.size)
  (C:σ->vW->Prop) (hC:∀ s W z,C s W->jad (fun b=>b=w.heap.size\/b=w.heap.size+1\/b=w.heap.size+2) W z->C s z) (hS:∀ s W,C s W->S W)
  (h0:C s0 w) (a₁:Array vV->Act)
  (hassign:∀ (l:Nat) (v:Array vV) (s J:σ) (W:vW) (K:Act->vW->Prop),Step s v J->K (a₁ v) W ->
   assign.wpIn (Fence.wide.inRound l) 0 P (Exit.then K (fun _ _ _=>False)) { tmps:=(ps.zip v).foldl (fun t (p,v)=>t.setIfInBounds p v) a.tmps,defers:=[] } W)
  (hbody:∀ (l:Nat) (v:Array vV) (s J:σ) (W:vW),Step s v J->C s W->w.heap.size+2 < W.heap.size->body.wpIn (Fence.wide.inRound l) 0 P (jxE w.heap.size W (C J)) (a₁ v) W)
  (hdone:∀ (s:σ) (W:vW),Done s->C s W->Blk W w.heap.size (.deferred (some []))->Q .normal { a with defers:={ target:=.collected w.heap.size,args:=#[] } :: a.defers } W) :
  (Code.rangeFunc g ps assign body).wpIn Fence.wide 0 P Q a w:=by
 refine wpIn_rangeFunc ?_;intro fn _;show ∃ l mark w₁ d w₁' f args w₂,(Instr.enterLoop fn a.tmps ps assign body none).run P w=_/\_
 obtain⟨o,q⟩:∃ o:LoopState->Option Code->Loop,o=fun st pe=>{ state:=st,pending:=pe,fn,tmps:=a.tmps,params:=ps,assign,body,defers:=w.heap.size }:=⟨_,rfl⟩
 obtain⟨H,O⟩:∃ H,(w.alloc (.deferred (some []))).alloc (.loop (o .ready none))=H:=⟨_,rfl⟩
 have a1:Blk H (w.heap.size+1) (.loop (o .ready none)):=by
  rw[<-O];have:=Blk.new (w.alloc (.deferred (some []))) (.loop (o .ready none));rwa [bN]at this
 have a2:Blk H w.heap.size (.deferred (some [])):=by
  rw[<-O];exact (Blk.new w _).alloc _
 have a3:Ext w H:=by rw[<-O];exact ((jad.refl _ w).alloc _).alloc _
 have E:H.heap.size=w.heap.size+2:=by rw[<-O];simp
 refine⟨w.heap.size+1,[{ target:=.collected w.heap.size,args:=#[] }],H,{ target:=.fn (.func gf) lb,args:=#[.func (.yield (w.heap.size+1)) #[] #[]] },H,gf,
  #[.func (.yield (w.heap.size+1)) #[] #[]]++lb,H,?_,?_,?_,?_,fun h=>by simp[Fence.wide]at h,?_⟩
 ·rw[<-O,q];exact run_enterLoop_outer _ _ _ _ _
 ·simp only[resolve,hg]
  simp[go_sem]
 ·intro f' _;trivial
 ·simp[invoke,go_sem,eg]
 ·let CC:σ->vW->Prop:=fun s W=>C s W/\Blk W (w.heap.size+1) (.loop (o .ready none))/\Blk W w.heap.size (.deferred (some []))
  have a4:=IS (w.heap.size+1) CC H (fun s Wa Wb ⟨h1,h2,X⟩ e=>⟨hC s _ _ h1 (e.mono (fun b _ h=>by rw[E]at h;exact .inr (.inr h))),h2.keeps e (by rw[E];omega),X.keeps e (by rw[E];omega)⟩)
   (fun s W h=>hS s W h.1) ?_ ⟨hC s0 _ _ h0 (a3.mono (fun _ _ h=>h.elim)),a1,a2⟩
  ·refine CallsIn.mono a4 ?_
   rintro e z ⟨⟨v,rfl⟩,s,hd,h1,X,h4⟩
   obtain⟨ox,he⟩:∃ ox,(Instr.endLoop (w.heap.size+1)).run P z=.ok none (z.putObj (w.heap.size+1) ox):=⟨_,(run_endLoop (r:=o .ready none) X (by rw[q];simp)).trans (by rw[q])⟩
   exact⟨none,_,he,hdone s _ hd (hC s _ _ h1 ((jad.onePut _ _ _).mono (fun b _ h=>.inr (.inl h)))) (h4.put_other vO _)⟩
  ·rintro s v J W Z ⟨h1,X,h4⟩ a0
   rw[E]at a0
   refine⟨_,_,_,_,run_yield X (by rw[q];exact hps s v J Z),?_⟩
   refine roundIn_of_wpIn trivial ?_;rw[show (o .ready none).tmps=a.tmps from by rw[q],show (o .ready none).params=ps from by rw[q],show (o .ready none).assign=assign from by rw[q],show (o .ready none).body=body from by rw[q]];refine hassign _ v s J W _ Z ?_
   refine⟨_,run_beginRound X (by rw[q]),?_⟩
   have a5:C s (W.putObj (w.heap.size+1) (.loop { o .ready none with state:=.busy })):=hC s _ _ h1 ((jad.onePut _ _ _).mono (fun b _ h=>.inr (.inl h)));refine Code.wpIn_mono ?_ (hbody (w.heap.size+1) v s J _ Z a5 (by rw[World.putObj_size];exact a0));have a6:∀ (j:Option Code) (z:vW),jad (fun b=>b≠w.heap.size/\b≠w.heap.size+1/\b≠w.heap.size+2) (W.putObj (w.heap.size+1) (.loop { o .ready none with state:=.busy })) z ->
     (Instr.endRound (w.heap.size+1) j).run P z=.ok (.bool j.isNone) (z.putObj (w.heap.size+1) (.loop (o (if j.isNone then .ready else .done) j))) /\
     Blk (z.putObj (w.heap.size+1) (.loop (o (if j.isNone then .ready else .done) j))) (w.heap.size+1) (.loop (o (if j.isNone then .ready else .done) j)) /\
     Blk (z.putObj (w.heap.size+1) (.loop (o (if j.isNone then .ready else .done) j))) w.heap.size (.deferred (some [])):=by
    intro j z hK;have hl:Blk z (w.heap.size+1) (.loop { o .ready none with state:=.busy }):=(X.put_same _).keeps hK (fun h=>h.2.1 rfl);have hd:Blk z w.heap.size (.deferred (some [])):=(h4.put_other vO _).keeps hK (fun h=>h.1 rfl)
    refine⟨?_,hl.put_same _,hd.put_other vO _⟩
    rw[run_endRound j hl,q]
   intro e a' z hq;cases e with
   | normal =>
    obtain⟨hK,hc⟩:=hq
    obtain⟨f1,f2,f3⟩:=a6 none z hK
    have k1:jad (fun b=>b≠H.heap.size) W (W.putObj (w.heap.size+1) (.loop { o .ready none with state:=.busy })):=(jad.onePut _ _ _).mono (fun b _ h=>by have h:b=w.heap.size+1:=h;rw[E];omega);have k2:jad (fun b=>b≠H.heap.size) (W.putObj (w.heap.size+1) (.loop { o .ready none with state:=.busy })) z:=hK.mono (fun b _ h=>by rw[E];exact h.2.2);have k3:jad (fun b=>b≠H.heap.size) z (z.putObj (w.heap.size+1) (.loop (o .ready none))):=(jad.onePut _ _ _).mono (fun b _ h=>by have h:b=w.heap.size+1:=h;rw[E];omega)
    exact⟨_,_,f1,rfl,(k1.trans k2).trans k3,hC J _ _ hc ((jad.onePut _ _ _).mono (fun b _ h=>.inr (.inl h))),f2,f3⟩
   | _=>exact hq.elim
section
attribute [local go_sem] Oper.semAt_some
abbrev EntS:=Ent (vN)
theorem Tryz.uMapSE:Tryz.prog.underlying 117=some (.map 9 71):=vY
def jfO(s:List EntS):Array Nat:=(s.map (·.2.2)).toArray
def jxs(es:List EntS)(s:List EntS)(v:Array vV)(s':List EntS):Prop:=∃ x∈jaX es (jfO s),v=#[str x.1]/\s'=s++[x]
def joX(es:List EntS)(s:List EntS):Prop:=jaX es (jfO s)=[]
def jsD(w:vW)(r:Nat):Array Nat:=match w.heap[r]? with | some (.mapIter _ _ s _)=>s | _=>#[]
theorem jjD{w:vW}{r:Nat}{m:Option Nat}{a b:Nat}{s:Array Nat}(h:Blk w r (.mapIter m a s b)):jsD w r=s:=by
 unfold jsD;rw[show w.heap[r]?=_ from h]
theorem jwn{es:List EntS}{s:List EntS}{x:EntS}(hx:x∈jaX es (jfO s)):(jaX es (jfO (s++[x]))).length < (jaX es (jfO s)).length:=by
 have e:jaX es (jfO (s++[x]))=(jaX es (jfO s)).filter (fun y => !(y.2.2 == x.2.2)):=by
  unfold jaX jfO;rw[List.filter_filter];refine List.filter_congr (fun y _=>?_);simp only[List.contains_toArray,bY,bJ,iG,List.contains_append]
  by_cases h1:y.2.2=x.2.2 <;> simp[h1]
 rw[e,List.length_filter_lt_length_iff_exists]
 exact⟨x,hx,by simp⟩
def KyS(bx bm ck:Nat)(es:List EntS)(W:vW):Prop:=Blk W bx (.cells #[.map (some bm)] 117)/\Blk W bm (.map (Tryz.ES.arr es) ck)
def jyR(r bm ck:Nat)(es:List EntS)(C:List EntS->vW->Prop)(wr:vW):Prop:=∃ s,C s wr/\Blk wr r (.mapIter (some bm) ck (jfO s) ck)
theorem jwj(bx bm ck:Nat)(es:List EntS)(hnd:(es.map (·.2.2)).Nodup)(hlt:∀ x∈es,x.2.2 < ck) :
  jxr Tryz.prog 109 #[.pointer (some ⟨bx,0,none⟩)] ([]:List EntS) (jxs es) (joX es) (KyS bx bm ck es):=by
 intro l C W hC hS hY h0
 obtain⟨K,z⟩:=hS _ _ h0
 have c1:=K.cell (i:=0) (v:=.map (some bm)) vF;have O:=jiB Tryz.ES Tryz.uMapSE z;have E:=Hd (show C [] (W.alloc (.mapIter (some bm) ck #[] ck))from hC [] _ _ h0 (((ExtR W).alloc _).mono (fun _ _ h=>h.elim)));have HC:=Hd hC;have HS:=Hd hS;have HY:=Hd hY;have H:=Hd hnd;have J:=Hd hlt;clear hC hS hY h0 K z hnd hlt;refine callsIn_of_wp Tryz.func109 rfl trivial ?_ rfl;simp only[Tryz.ntmps109,dE,bQ,dM,Nat.reduceAdd,Nat.reduceSub,dH,dG,dR,dL,cP,cX];gi_wp2_with fail
 obtain⟨r,hr⟩:=vE W.heap.size
 have HR:=Hd hr;rw[<-hr];clear hr;gi_loopw [] (fun wr=>jyR r bm ck es C wr) (fun wr=>(jaX es (jsD wr r)).length)
 case atStart=>exact⟨[],E.o,by rw[HR.o];exact Blk.new W _⟩
 case round =>
  obtain⟨s,q,Q⟩:=hrel
  obtain⟨K,z⟩:=HS.o _ _ q
  rcases jkx Tryz.ES z Q J.o 0 with⟨hl0,hnx⟩ |⟨x,hxl,w2,hnx,hr2,hk2⟩
  ·have a7:Hid (joX es s):=hl0
   have a8:=Hd q;clear hl0 q K z Q HC HS HY H J E c1 O;gi_wp2_with fail
   refine bodyPost_end (results_none rfl _ _ _) rfl ?_
   exact⟨⟨_,rfl⟩,s,a7.o,a8.o⟩
  ·have X:r≠bm:=fun e=>by have:=z.uniq (e ▸ Q);cases this
   have Z:=z.keeps hk2 (fun e=>X e.symm);have a1:x∈es:=(cH.1 hxl).1;have a9:=jiA Tryz.ES Z a1 hr2 H.o;have a2:C s w2:=HC.o s _ _ q (hk2.mono (fun b _ e=>by rw[<-HR.o];exact e))
   obtain⟨fn,tm,b0,bd,a3,a4⟩:=HY.o s #[str x.1] (s++[x]) w2 ⟨x,hxl,rfl,rfl⟩ a2 (by rw[<-HR.o];exact hr2.lt)
   have a0:(Instr.yield l #[Tryz.ES.κ x.1]).run Tryz.prog w2=.ok (.round l fn tm b0 bd) w2:=a3;have b1:=Hd hxl;have b2:=Hd (jjD Q);have a5:(jfO s).push x.2.2=jfO (s++[x]):=by unfold jfO;simp
   rw[a5]at hr2;have b3:=Hd hr2;have b4:=Hd a4;clear a3 a2 q K z Q HC HS H J E c1 O Z hk2 hxl a1 hr2 a4 a5 X;gi_wp2_with fail
   refine⟨rfl,b4.o.mono ?_⟩
   rintro e w5 ⟨rfl,k5,C5⟩;have a6:=Hd (b3.o.keeps k5 (fun h=>h HR.o));have b5:=Hd C5;clear C5 k5 hnx a9 a0;gi_wp2_with fail
   go_roundw
   case rel=>exact⟨_,b5.o,a6.o⟩
   case measure =>
    rw[jjD a6.o,b2.o];exact jwn b1.o
def revJ(j:Nat):List Nat:=(List.range 16).reverse.take j
theorem jsq{j:Nat}(h:j < 16):revJ (j+1)=revJ j++[15 - j]:=by
 unfold revJ
 have:(List.range 16).reverse[j]?=some (15 - j):=by
  rw[List.getElem?_reverse (by simpa using h),gL,dV vO]
 rw[cB,this];rfl
theorem jjY{F:BSet}{w2 w3:vW}{m:Nat}{a:Act}{o:Oper}(ho:execOp a.eval o=(do pure (.value (<-convert 56 9 (.slice (some ⟨w2.heap.size,0,none⟩) 1 1)))))
  (h:jad F (w2.alloc (.cells #[.int .u8 (m:Int)] 5)) w3) (hF:¬ F w2.heap.size) (hm:m < 16):(execOp a.eval o).run Tryz.prog w3=.ok (.value (.string (nib1 m))) w3:=by
 have q:=(Blk.new w2 (.cells #[.int .u8 (m:Int)] 5)).keeps h hF;have e:(m:Int)=((UInt8.ofNat m).toNat:Int):=by rw[jnk m vO]
 have z:w3.ownsRow 0 5 1 (.slice (some ⟨w2.heap.size,0,none⟩) 1 1) 1 (jaI [UInt8.ofNat m]):=
  ⟨rfl,.inr ⟨_,1,_,rfl,cC _,q,bM _,by unfold maxLen;omega,rfl,by rw[e];rfl⟩⟩
 have E:=jbC w3 Tryz.uBytes Tryz.uU8 Tryz.uStr z;rw[ho,bT,E];rfl
end
end Go.Proofs.YtmobgkphhbmhbaaGreatDoor
