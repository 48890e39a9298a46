/- Lemmas; each is under no condition but those that it states. -/
import Derived.Test.YtcpnjmcipainpaaGreatDoorPr20
namespace Go.Proofs.YtcpnjmcipainpaaGreatDoor
set_option linter.unusedSimpArgs false
set_option linter.unusedVariables false
set_option maxRecDepth 100000
set_option maxHeartbeats 16000000
open Go Go.RowKit
def jez(n:jad)(p:vB):vB × vB:=
 if n.kind=3 then match p.data.toList with
  | []=>(⟨#[]⟩,p)
  | x :: _=>if (n.refs.getD x.toNat ⟨#[]⟩).size=0 then (⟨#[]⟩,p)else (n.refs.getD x.toNat ⟨#[]⟩,p.extract 1 p.size)
 else if n.kind=2 then if preB n.path p then (n.refs.getD 0 ⟨#[]⟩,p.extract n.path.size p.size)else (⟨#[]⟩,p)
 else (⟨#[]⟩,p)
def jcP(n:jad)(p:vB):Option vB:=
 if n.kind=1 then if n.path=p then some n.value else none
 else if n.kind=3 then if p.size=0/\n.value.size≠0 then some n.value else none
 else none
def valL:List Pair->vB->Option vB
 | [],_=>none
 | q :: l,p=>if q.1=p then some q.2 else valL l p
def goL(l:List Pair)(p:vB):Option (List Pair × vB):=
 if l.length<=1 then none
 else if 0 < comK l then if preB ((l.getD 0 pd).1.extract 0 (comK l)) p then some (jal (comK l) l,p.extract (comK l) p.size)else none
 else match p.data.toList with
  | []=>none
  | x :: _=>if (cutL x.toNat l).length=0 then none else some (jal 1 (cutL x.toNat l),p.extract 1 p.size)
def bigs(t:vB):List vB:=if t.size < 32 then []else [t]
def wayL:Nat->List Pair->vB->List vB
 | 0,_,_=>[]
 | f+1,l,p=>match goL l p with
  | none=>[]
  | some (m,q)=>bigs (jac (f+1) m).text++wayL f m q
def sumL:List Pair->Nat
 | []=>0
 | q :: l=>q.1.size+sumL l
theorem jkf:∀ {l:List Pair} {p v:vB},valL l p=some v->(p,v)∈l
 | q :: l,p,v,h=>by
  unfold valL at h;split at h
  ·rename_i e
   obtain rfl:=Option.some.inj h;subst e;exact List.mem_cons_self
  ·exact List.mem_cons_of_mem _ (jkf h)
theorem jn0:∀ {l:List Pair} {p v:vB},(l.Pairwise fun p q=>Lt p.l q.l)->(p,v)∈l->valL l p=some v
 | q :: l,p,v,hl,h=>by
  rw[List.pairwise_cons]at hl;unfold valL;rcases List.mem_cons.1 h with h | h
  ·subst h;rw[if_pos rfl]
  ·rw[if_neg (fun e=>by have:=hl.1 _ h;rw[show q.l=p.data.toList from congrArg (fun x:vB=>x.data.toList) e]at this;exact lt_irrefl _ this),jn0 hl.2 h]
theorem jgf{l:List Pair}{p:vB}(h:∀ q∈l,q.1≠p):valL l p=none:=by
 cases hv:valL l p with
 | none=>rfl
 | some v=>exact absurd rfl (h _ (jkf hv))
theorem jn1{l m:List Pair}{p q:vB}(hl:l.Pairwise fun p q=>Lt p.l q.l)(hm:m.Pairwise fun p q=>Lt p.l q.l)(h:∀ v,(p,v)∈l↔(q,v)∈m):valL l p=valL m q:=by
 cases hv:valL l p with
 | some v=>exact (jn0 hm ((h v).1 (jkf hv))).symm
 | none =>
  cases hw:valL m q with
  | none=>rfl
  | some v=>rw[jn0 hl ((h v).2 (jkf hw))]at hv;cases hv
theorem jfG(a p:vB):preB a p=true↔∃ r,p.data.toList=a.data.toList++r:=by
 unfold preB;rw[List.isPrefixOf_iff_prefix]
 exact⟨fun ⟨r,h⟩=>⟨r,h.symm⟩,fun ⟨r,h⟩=>⟨r,h.symm⟩⟩
theorem jdv(b:vB)(k:Nat):(b.extract k b.size).data.toList=b.data.toList.drop k:=jcR b k b.size (Nat.le_refl _)
theorem jaC(b:vB):b.data.toList.length=b.size:=rfl
theorem jnS(k:Nat):∀ l:List Pair,sumL (jal k l)<=sumL l
 | []=>Nat.le_refl _
 | q :: l=>by
  have:=jnS k l
  show (q.1.extract k q.1.size).size+sumL (jal k l)<=q.1.size+sumL l;rw[jaR];omega
theorem jil{k:Nat}(hk:0 < k):∀ {l:List Pair},l≠[]->(∀ q∈l,k<=q.1.size)->sumL (jal k l) < sumL l
 | q :: l,_,h=>by
  have:=jnS k l
  have:=h q List.mem_cons_self
  show (q.1.extract k q.1.size).size+sumL (jal k l) < q.1.size+sumL l;rw[jaR];omega
theorem jjc(g:Pair->Bool):∀ l:List Pair,sumL (l.filter g)<=sumL l
 | []=>Nat.le_refl _
 | q :: l=>by
  have:=jjc g l
  rw[List.filter_cons];show _<=q.1.size+sumL l;split
  ·show q.1.size+sumL _<=_;omega
  ·omega
structure KidP(f:Nat)(l:List Pair)(p:vB)(m:List Pair)(q:vB):Prop where
 rows:jaA f m
 ne:m≠[]
 step:jez (jav (jac (f+1)) l) p=(refB (jac (f+1) m).text,q)
 less:q.size < p.size
 valid:jat q=true
 flat:∀ x∈jaF (jac (f+1) m),32<=x.size->x∈jaF (jac (f+1+1) l)
 find:valL m q=valL l p
 sum:sumL m < sumL l
 no:jcP (jav (jac (f+1)) l) p=none
theorem jdH{l:List Pair}(h:0 < l.length):l.getD 0 pd∈l:=by rw[List.getD_eq_getElem?_getD,List.getElem?_eq_getElem h];exact List.getElem_mem _
theorem jhS{l:List Pair}:((l.getD 0 pd).1.extract 0 (comK l)).data.toList=(l.getD 0 pd).l.take (comK l):=by
 rw[ByteArray.data_extract,Array.toList_extract,List.extract_eq_take_drop];simp
theorem jc5{f:Nat}{l:List Pair}(h:jaA f l)(h2:2<=l.length):((l.getD 0 pd).1.extract 0 (comK l)).size=comK l:=by
 have:=(jbu h h2 _ (jdH vO)).2
 rw[ByteArray.size_extract];omega
theorem jgC{f:Nat}{l:List Pair}{p:vB}{m:List Pair}{q:vB}(h:jaA (f+1) l)(hp:jat p=true)(hg:goL l p=some (m,q)):KidP f l p m q:=by
 unfold goL at hg
 by_cases h1:l.length<=1
 ·rw[if_pos h1]at hg;cases hg
 rw[if_neg h1]at hg;have h2:2<=l.length:=by omega
 have hcom:=jbu h h2
 by_cases hk:0 < comK l
 ·rw[if_pos hk]at hg
  by_cases hpre:preB ((l.getD 0 pd).1.extract 0 (comK l)) p=true
  case neg=>rw[if_neg hpre]at hg;cases hg
  rw[if_pos hpre]at hg
  obtain⟨rfl,rfl⟩:=Prod.mk.inj (Option.some.inj hg)
  have hok:jaA f (jal (comK l) l):=(jcv (comK l) h (fun p hp q hq=>(hcom p hp).1.trans (hcom q hq).1.symm) (fun p hp=>(hcom p hp).2)).mono vO;have hne:jal (comK l) l≠[]:=fun e=>by have:=jaH (comK l) l;rw[e]at this;simp at this;omega
  have eB:jaB (jac (f+1)) l=jbP (jac (f+1) (jal (comK l) l)):=by unfold jaB;rw[if_neg vO,if_pos hk]
  have eN:jav (jac (f+1)) l=⟨2,(l.getD 0 pd).1.extract 0 (comK l),⟨#[]⟩,refB (jac (f+1) (jal (comK l) l)).text :: jam 15⟩:=by unfold jav;rw[if_neg vO,if_neg vO,if_pos hk]
  obtain⟨r,hr⟩:=(jfG _ _).1 hpre
  have hps:comK l<=p.size:=by
   rw[<-jaC p,hr,List.length_append,jaC,jc5 h h2];omega
  refine⟨hok,hne,?_,by rw[jaR];omega,jbg hp _ _,jna hne hok (by rw[eB];exact fun _ hh=>hh),?_,jil hk (fun e=>by rw[e]at h2;simp at h2) (fun q hq=>(hcom q hq).2),by rw[eN];rfl⟩
  ·rw[eN]
   unfold jez;rw[if_neg (show ¬(2:Nat)=3 by decide),if_pos rfl,if_pos hpre];show (_,p.extract ((l.getD 0 pd).1.extract 0 (comK l)).size p.size)=_;rw[jc5 h h2];rfl
  ·refine jn1 hok.rise h.rise fun v=>⟨fun hm=>?_,fun hm=>?_⟩
   ·obtain⟨x,hx,e⟩:=List.mem_map.1 hm
    obtain⟨e1,e2⟩:=Prod.mk.inj e
    have:x=(p,v):=by
     refine Prod.ext (jbt ?_) e2;have e3:x.1.data.toList.drop (comK l)=p.data.toList.drop (comK l):=by rw[<-jdv,e1,jdv]
     have e4:x.1.data.toList.take (comK l)=p.data.toList.take (comK l):=by
      rw[show x.1.data.toList=x.l from rfl,(hcom x hx).1, <-jhS,hr,List.take_append_of_le_length (by rw[jaC,jc5 h h2];exact Nat.le_refl _),List.take_of_length_le (by rw[jaC,jc5 h h2];exact Nat.le_refl _)]
     show x.1.data.toList=p.data.toList;rw[<-List.take_append_drop (comK l) x.1.data.toList,e3,e4,List.take_append_drop]
    rw[<-this];exact hx
   ·exact List.mem_map.2 ⟨_,hm,rfl⟩
 ·rw[if_neg hk]at hg
  cases hpl:p.data.toList with
  | nil=>rw[hpl]at hg;cases hg
  | cons x r =>
   rw[hpl]at hg
   by_cases hc:(cutL x.toNat l).length=0
   ·have hg:(if (cutL x.toNat l).length=0 then none else some (jal 1 (cutL x.toNat l),p.extract 1 p.size))=some (m,q):=hg
    rw[if_pos hc]at hg;cases hg
   have hg:(if (cutL x.toNat l).length=0 then none else some (jal 1 (cutL x.toNat l),p.extract 1 p.size))=some (m,q):=hg;rw[if_neg hc]at hg
   obtain⟨rfl,rfl⟩:=Prod.mk.inj (Option.some.inj hg)
   have hok:jaA f (jal 1 (cutL x.toNat l)):=jeb x.toNat h;have hne:jal 1 (cutL x.toNat l)≠[]:=fun e=>by have:=jaH 1 (cutL x.toNat l);rw[e]at this;simp at this;exact hc this.symm
   have hx:x.toNat < 16:=jcL (p:=(p,p)) hp hpl;have eB:jaB (jac (f+1)) l=(List.range 16).flatMap fun i=>if (cutL i l).length=0 then []else jbP (jac (f+1) (jal 1 (cutL i l))):=by unfold jaB;rw[if_neg vO,if_neg hk]
   obtain⟨rs,hrs⟩:=vE ((List.range 16).map fun i=>if (cutL i l).length=0 then (⟨#[]⟩:vB)else refB (jac (f+1) (jal 1 (cutL i l))).text)
   obtain⟨va,hva⟩:=vE (if (l.getD 0 pd).1.size=0 then (l.getD 0 pd).2 else ⟨#[]⟩)
   have eN:jav (jac (f+1)) l=⟨3,⟨#[]⟩,va,rs⟩:=by rw[hrs,hva];unfold jav;rw[if_neg vO,if_neg vO,if_neg hk]
   have hget:rs.getD x.toNat ⟨#[]⟩=refB (jac (f+1) (jal 1 (cutL x.toNat l))).text:=by rw[hrs,jgB _ hx,if_neg hc]
   clear hrs hva;have hps:1<=p.size:=by rw[<-jaC p,hpl];simp
   have hall:∀ q∈cutL x.toNat l,1<=q.1.size:=fun q hq=>by
    obtain⟨_,a,r,e,_⟩:=jbR hq
    rw[<-jaC,show q.1.data.toList=a :: r from e];simp
   have hsum:sumL (jal 1 (cutL x.toNat l)) < sumL l:=Nat.lt_of_lt_of_le (jil (Nat.zero_lt_one) (fun e=>hc (by rw[e];rfl)) hall) (jjc _ _)
   refine⟨hok,hne,?_,by rw[jaR];omega,jbg hp _ _,jna hne hok (fun y hy=>?_),?_,hsum,?_⟩
   ·rw[eN]
    unfold jez;rw[if_pos rfl,hpl];show (if (rs.getD x.toNat ⟨#[]⟩).size=0 then _ else (rs.getD x.toNat ⟨#[]⟩,_))=_;rw[hget,if_neg (jj0 hok hne)]
   ·rw[eB]
    exact List.mem_flatMap.2 ⟨x.toNat,List.mem_range.2 hx,by rw[if_neg hc];exact hy⟩
   ·refine jn1 hok.rise h.rise fun v=>⟨fun hm=>?_,fun hm=>?_⟩
    ·obtain⟨y,hy,e⟩:=List.mem_map.1 hm
     obtain⟨hyl,a,r',e3,e4⟩:=jbR hy
     obtain⟨e1,e2⟩:=Prod.mk.inj e
     have:y=(p,v):=by
      refine Prod.ext (jbt ?_) e2;have e5:y.1.data.toList.drop 1=p.data.toList.drop 1:=by rw[<-jdv,e1,jdv]
      have e3:y.1.data.toList=a :: r':=e3;show y.1.data.toList=p.data.toList;rw[e3,hpl]at e5 ⊢;simp at e5;rw[e5,UInt8.toNat_inj.1 e4]
     rw[<-this];exact hyl
    ·refine List.mem_map.2 ⟨(p,v),?_,rfl⟩
     refine List.mem_filter.2 ⟨hm,?_⟩;unfold jeW;show (match p.data.toList with | []=>false | a :: _=>a.toNat == x.toNat)=true;rw[hpl];simp
   ·rw[eN]
    unfold jcP;rw[if_neg (show ¬(3:Nat)=1 by decide),if_pos rfl,if_neg (fun e=>by have:=e.1;omega)]
theorem jhO{f:Nat}{l:List Pair}{p:vB}(h:jaA f l)(hp:jat p=true)(hg:goL l p=none):jez (jav (jac f) l) p=(⟨#[]⟩,p)/\jcP (jav (jac f) l) p=valL l p:=by
 by_cases h0:l.length=0
 ·have e:jav (jac f) l=jar:=by unfold jav;rw[if_pos h0]
  rw[e,List.eq_nil_of_length_eq_zero h0]
  exact⟨rfl,rfl⟩
 by_cases h1:l.length=1
 ·have e:jav (jac f) l=⟨1,(l.getD 0 pd).1,(l.getD 0 pd).2,jam 16⟩:=by unfold jav;rw[if_neg h0,if_pos h1]
  rw[e]
  obtain⟨q,rfl⟩:=List.length_eq_one_iff.1 h1
  exact⟨rfl,by unfold jcP valL valL;rfl⟩
 have h2:2<=l.length:=by omega
 have hcom:=jbu h h2;unfold goL at hg;rw[if_neg vO]at hg
 by_cases hk:0 < comK l
 ·rw[if_pos hk]at hg
  have e:jav (jac f) l=⟨2,(l.getD 0 pd).1.extract 0 (comK l),⟨#[]⟩,refB (jac f (jal (comK l) l)).text :: jam 15⟩:=by unfold jav;rw[if_neg h0,if_neg h1,if_pos hk]
  have hpre:¬ preB ((l.getD 0 pd).1.extract 0 (comK l)) p=true:=fun hh=>by rw[if_pos hh]at hg;cases hg
  rw[e]
  refine⟨?_,?_⟩
  ·unfold jez
   rw[if_neg (show ¬(2:Nat)=3 by decide),if_pos rfl,if_neg hpre]
  ·refine (Eq.trans ?_ (jgf fun q hq e=>?_).symm)
   ·rfl
   ·refine hpre ((jfG _ _).2 ⟨p.data.toList.drop (comK l),?_⟩)
    rw[jhS, <-(hcom q hq).1,show q.l=p.data.toList from congrArg (fun x:vB=>x.data.toList) e,List.take_append_drop]
 ·rw[if_neg hk]at hg
  obtain⟨rs,hrs⟩:=vE ((List.range 16).map fun i=>if (cutL i l).length=0 then (⟨#[]⟩:vB)else refB (jac f (jal 1 (cutL i l))).text)
  have e:jav (jac f) l=⟨3,⟨#[]⟩,if (l.getD 0 pd).1.size=0 then (l.getD 0 pd).2 else ⟨#[]⟩,rs⟩:=by rw[hrs];unfold jav;rw[if_neg h0,if_neg h1,if_neg hk]
  have hget:∀ i,i < 16->(cutL i l).length=0->rs.getD i ⟨#[]⟩=⟨#[]⟩:=fun i hi hc=>by rw[hrs,jgB _ hi,if_pos hc]
  clear hrs;rw[e];cases hpl:p.data.toList with
  | nil =>
   have hps:p.size=0:=by rw[<-jaC p,hpl];rfl
   refine⟨?_,?_⟩
   ·unfold jez
    rw[if_pos rfl,hpl]
   ·unfold jcP
    rw[if_neg (show ¬(3:Nat)=1 by decide),if_pos rfl];have hpe:p=⟨#[]⟩:=jbt (by rw[hpl]);have hm:=jdH (l:=l) vO
    obtain⟨_,_,_,s4,_⟩:=h.size _ hm
    by_cases hz:(l.getD 0 pd).1.size=0
    ·simp only[hz,if_true]
     rw[if_pos ⟨hps,by omega⟩];refine (jn0 h.rise ?_).symm;have hz0:(l.getD 0 pd).1.data.toList=[]:=List.eq_nil_of_length_eq_zero hz
     have:(p,(l.getD 0 pd).2)=l.getD 0 pd:=Prod.ext (by
      show p=(l.getD 0 pd).1;exact jbt (by rw[hpl,hz0])) rfl
     rw[this];exact hm
    ·simp only[if_neg hz]
     rw[if_neg (fun e=>e.2 rfl)];refine (jgf fun q hq e=>?_).symm
     obtain⟨i,hi⟩:=List.getElem?_of_mem hq
     cases i with
     | zero =>
      have:l.getD 0 pd=q:=by rw[List.getD_eq_getElem?_getD,hi];rfl
      rw[this,e]at hz;exact hz hps
     | succ i =>
      obtain⟨a,ha⟩:∃ a,l[0]?=some a:=⟨_,List.getElem?_eq_getElem vO⟩
      have:=jb0 h.rise vO ha hi
      rw[show q.l=[]from(congrArg (fun x:vB=>x.data.toList) e).trans hpl]at this;exact not_lt_nil _ this
  | cons x r =>
   rw[hpl]at hg;have hg:(if (cutL x.toNat l).length=0 then none else some (jal 1 (cutL x.toNat l),p.extract 1 p.size))=none:=hg;have hc:(cutL x.toNat l).length=0:=by
    by_cases hc:(cutL x.toNat l).length=0
    ·exact hc
    ·rw[if_neg hc]at hg;cases hg
   have hx:x.toNat < 16:=jcL (p:=(p,p)) hp hpl;have hps:1<=p.size:=by rw[<-jaC p,hpl];simp
   refine⟨?_,?_⟩
   ·unfold jez
    rw[if_pos rfl,hpl];show (if (rs.getD x.toNat ⟨#[]⟩).size=0 then _ else _)=_;rw[hget _ hx hc,if_pos (show (⟨#[]⟩:vB).size=0 from rfl)]
   ·unfold jcP
    rw[if_neg (show ¬(3:Nat)=1 by decide),if_pos rfl,if_neg (fun e=>by have:=e.1;omega)];refine (jgf fun q hq e=>?_).symm;have hin:q∈cutL x.toNat l:=List.mem_filter.2 ⟨hq,by
     unfold jeW;rw[show q.1.data.toList=x :: r from(congrArg (fun x:vB=>x.data.toList) e).trans hpl];simp⟩
    rw[List.eq_nil_of_length_eq_zero hc]at hin;cases hin
theorem jg5(t:vB):(bigs t).length<=1:=by unfold bigs;split <;> simp
theorem jfo{f:Nat}{l:List Pair}{p:vB}(hg:goL l p=none):wayL (f+1) l p=[]:=by rw[wayL,hg]
theorem jhm{f:Nat}{l m:List Pair}{p q:vB}(hg:goL l p=some (m,q)):wayL (f+1) l p=bigs (jac (f+1) m).text++wayL f m q:=by rw[wayL,hg]
theorem jn4{l:List Pair}{p:vB}(h:jaA 0 l):goL l p=none:=by unfold goL;rw[if_pos (jb1 h)]
theorem jmN:∀ (f:Nat) (l:List Pair) (p:vB),(wayL f l p).length<=f
 | 0,_,_=>Nat.le_refl _
 | f+1,l,p=>by
  cases hg:goL l p with
  | none=>rw[jfo hg];simp
  | some mq =>
   obtain⟨m,q⟩:=mq
   rw[jhm hg,List.length_append]
   have:=jg5 (jac (f+1) m).text
   have:=jmN f m q
   omega
theorem jkd{l:List Pair}(k:vB):valL (jaO l) (ja5 k)=valL l k:=by
 have inj:∀ {a b:vB},ja5 a=ja5 b->a=b:=fun {a b} e=>jbt (jnD (by
  have:=congrArg (fun x:vB=>x.data.toList) e
  simpa [ja5]using this))
 induction l with
 | nil=>rfl
 | cons q l ih =>
  show (if ja5 q.1=ja5 k then some q.2 else valL (jaO l) (ja5 k))=if q.1=k then some q.2 else valL l k
  by_cases e:q.1=k
  ·rw[if_pos (by rw[e]),if_pos e]
  ·rw[if_neg (fun h=>e (inj h)),if_neg e,ih]
def juP(k:Nat)(pa:vB)(rs:List vB)(p r q:vB):Prop:=
 (k=2/\preB pa p=true/\rs[0]?=some r/\q=p.extract pa.size p.size/\pa.size<=p.size) \/
 (k=3/\∃ x t,p.data.toList=x :: t/\rs[x.toNat]?=some r/\q=p.extract 1 p.size)
def jwQ(k:Nat)(pa va:vB)(rs:List vB)(p:vB):Prop:=
 k=0\/(k=1/\pa≠p)\/(k=2/\preB pa p=false)\/(k=3/\p=⟨#[]⟩/\va=⟨#[]⟩)\/(k=3/\∃ x t,p.data.toList=x :: t/\rs[x.toNat]?=some ⟨#[]⟩)
def jwP(k:Nat)(pa va:vB)(p u:vB):Prop:=(k=1/\pa=p/\va=u)\/(k=3/\p=⟨#[]⟩/\va=u/\va.size≠0)
theorem jmk{rs:List vB}{i:Nat}(h:i < rs.length):rs[i]?=some (rs.getD i ⟨#[]⟩):=by
 rw[List.getD_eq_getElem?_getD,List.getElem?_eq_getElem h];rfl
theorem jka{d:Nat}{k:Nat}{pa va:vB}{rs:List vB}(hg:jbx (InlD d) ⟨k,pa,va,rs⟩){p r q:vB}(hp:jat p=true)(hs:jez ⟨k,pa,va,rs⟩ p=(r,q))(hr:r.size≠0):juP k pa rs p r q:=by
 have h1:=hg.one (inlP d);have hl:rs.length=16:=h1.refs;unfold jez at hs
 by_cases h3:k=3
 ·subst h3
  rw[if_pos rfl]at hs;cases hpl:p.data.toList with
  | nil=>rw[hpl]at hs;exact absurd (congrArg ByteArray.size (Prod.mk.inj hs).1.symm) hr
  | cons x t =>
   rw[hpl]at hs;have hs:(if (rs.getD x.toNat ⟨#[]⟩).size=0 then (⟨#[]⟩,p)else (rs.getD x.toNat ⟨#[]⟩,p.extract 1 p.size))=(r,q):=hs
   by_cases h0:(rs.getD x.toNat ⟨#[]⟩).size=0
   ·rw[if_pos h0]at hs;exact absurd (congrArg ByteArray.size (Prod.mk.inj hs).1.symm) hr
   ·rw[if_neg h0]at hs
    obtain⟨rfl,rfl⟩:=Prod.mk.inj hs
    exact .inr ⟨rfl,x,t,hpl,jmk (by rw[hl];exact jcL (p:=(p,p)) hp hpl),rfl⟩
 ·rw[if_neg (show ¬(jad.mk k pa va rs).kind=3 from h3)]at hs
  by_cases h2:k=2
  ·subst h2
   rw[if_pos rfl]at hs
   by_cases hpre:preB pa p=true
   ·rw[if_pos (show preB (jad.mk 2 pa va rs).path p=true from hpre)]at hs
    obtain⟨rfl,rfl⟩:=Prod.mk.inj hs
    refine .inl ⟨rfl,hpre,jmk (by rw[hl];omega),rfl,?_⟩
    obtain⟨s,hs⟩:=(jfG _ _).1 hpre
    rw[<-jaC p,hs,List.length_append,jaC];omega
   ·rw[if_neg (show ¬ preB (jad.mk 2 pa va rs).path p=true from hpre)]at hs;exact absurd (congrArg ByteArray.size (Prod.mk.inj hs).1.symm) hr
  ·rw[if_neg (show ¬(jad.mk k pa va rs).kind=2 from h2)]at hs;exact absurd (congrArg ByteArray.size (Prod.mk.inj hs).1.symm) hr
theorem jrR{d:Nat}{k:Nat}{pa va:vB}{rs:List vB}(hg:jbx (InlD d) ⟨k,pa,va,rs⟩){p q:vB}(hp:jat p=true)(hs:jez ⟨k,pa,va,rs⟩ p=(⟨#[]⟩,q))(hc:jcP ⟨k,pa,va,rs⟩ p=none):jwQ k pa va rs p:=by
 have h1:=hg.one (inlP d);have hl:rs.length=16:=h1.refs;have hk:k<=3:=h1.kind;unfold jez at hs;unfold jcP at hc
 by_cases h3:k=3
 ·subst h3
  rw[if_pos rfl]at hs;rw[if_neg (show ¬(3:Nat)=1 by decide),if_pos rfl]at hc;cases hpl:p.data.toList with
  | nil =>
   have hp0:p.size=0:=by rw[<-jaC p,hpl];rfl
   refine .inr (.inr (.inr (.inl ⟨rfl,jbh hp0,jbh ?_⟩)))
   by_cases hv:va.size=0
   ·exact hv
   ·have hc:(if p.size=0/\va.size≠0 then some va else none)=none:=hc
    rw[if_pos ⟨hp0,hv⟩]at hc;cases hc
  | cons x t =>
   rw[hpl]at hs;have hs:(if (rs.getD x.toNat ⟨#[]⟩).size=0 then (⟨#[]⟩,p)else (rs.getD x.toNat ⟨#[]⟩,p.extract 1 p.size))=(⟨#[]⟩,q):=hs;have h0:(rs.getD x.toNat ⟨#[]⟩).size=0:=by
    by_cases h0:(rs.getD x.toNat ⟨#[]⟩).size=0
    ·exact h0
    ·rw[if_neg h0]at hs;exact congrArg ByteArray.size (Prod.mk.inj hs).1
   exact .inr (.inr (.inr (.inr ⟨rfl,x,t,hpl,by rw[jmk (by rw[hl];exact jcL (p:=(p,p)) hp hpl),jbh h0]⟩)))
 ·rw[if_neg (show ¬(jad.mk k pa va rs).kind=3 from h3)]at hs
  by_cases h2:k=2
  ·subst h2
   rw[if_pos rfl]at hs
   by_cases hpre:preB pa p=true
   ·rw[if_pos (show preB (jad.mk 2 pa va rs).path p=true from hpre)]at hs
    have e:=(Prod.mk.inj hs).1;cases hg with
    | ext p r a1 a2 a3=>exact absurd (congrArg ByteArray.size e) a2
   ·exact .inr (.inr (.inl ⟨rfl,by simpa using hpre⟩))
  ·by_cases h1:k=1
   ·subst h1
    rw[if_pos rfl]at hc
    by_cases he:pa=p
    ·have hc:(if pa=p then some va else none)=none:=hc
     rw[if_pos he]at hc;cases hc
    ·exact .inr (.inl ⟨rfl,he⟩)
   ·exact .inl vO
theorem jrQ{k:Nat}{pa va:vB}{rs:List vB}{p u:vB}(hc:jcP ⟨k,pa,va,rs⟩ p=some u):jwP k pa va p u:=by
 unfold jcP at hc
 by_cases h1:k=1
 ·subst h1
  rw[if_pos rfl]at hc;have hc:(if pa=p then some va else none)=some u:=hc
  by_cases he:pa=p
  ·rw[if_pos he]at hc;exact .inl ⟨rfl,he,Option.some.inj hc⟩
  ·rw[if_neg he]at hc;cases hc
 ·rw[if_neg (show ¬(jad.mk k pa va rs).kind=1 from h1)]at hc
  by_cases h3:k=3
  ·subst h3
   rw[if_pos rfl]at hc;have hc:(if p.size=0/\va.size≠0 then some va else none)=some u:=hc
   by_cases he:p.size=0/\va.size≠0
   ·rw[if_pos he]at hc;exact .inr ⟨rfl,jbh he.1,Option.some.inj hc,he.2⟩
   ·rw[if_neg he]at hc;cases hc
  ·rw[if_neg (show ¬(jad.mk k pa va rs).kind=3 from h3)]at hc;cases hc
theorem jtB{a p:vB}(h:preB a p=true):a.size<=p.size:=by
 obtain⟨s,hs⟩:=(jfG _ _).1 h
 rw[<-jaC p,hs,List.length_append,jaC];omega
theorem jcw{p:vB}{x:UInt8}{t:List UInt8}(h:p.data.toList=x :: t):∃ h0:0 < p.size,p[0]=x:=by
 obtain⟨⟨l⟩⟩:=p
 have h:l=x :: t:=h;subst h
 exact⟨Nat.succ_pos _,rfl⟩
inductive PA where
 | nil
 | no
 | leaf (path value:vB)
 | ext (path:vB) (next:PA)
 | br (value:vB) (kids:Nat->PA)
def PA.isNil:PA->Bool | .nil=>true | _=>false
def PA.isNo:PA->Bool | .no=>true | _=>false
def PA.isBr:PA->Bool | .br _ _=>true | _=>false
def jb8(a:vB)(P:PA):PA:=if a.size=0 then P else match P with
 | .leaf q v=>.leaf (a++q) v
 | .ext q n=>.ext (a++q) n
 | .br v ks=>.ext a (.br v ks)
 | _=>.no
def setK(ks:Nat->PA)(i:Nat)(P:PA):Nat->PA:=fun j=>if j=i then P else ks j
def jaq(p:vB):Nat:=(p.data.toList.headD 0).toNat
def jbm(p:vB):vB:=p.extract 1 p.size
def addK:PA->vB->vB->PA
 | .br v ks,p,u=>if p.size=0 then .br u ks else .br v (setK ks (jaq p) (.leaf (jbm p) u))
 | P,_,_=>P
theorem jcH(v:vB)(ks:Nat->PA)(p u:vB):addK (.br v ks) p u=if p.size=0 then .br u ks else .br v (setK ks (jaq p) (.leaf (jbm p) u)):=rfl
theorem ff:¬(false=true):=by decide
def putP:PA->vB->vB->PA
 | .nil,p,u=>.leaf p u
 | .no,p,u=>.leaf p u
 | .leaf q v,p,u=>if p=q then .leaf p u else
   jb8 (p.extract 0 (jak q p)) (addK (addK (.br ⟨#[]⟩ fun _=>.nil) (q.extract (jak q p) q.size) v) (p.extract (jak q p) p.size) u)
 | .ext q n,p,u=>if jak q p=q.size then jb8 q (putP n (p.extract (jak q p) p.size) u)else
   jb8 (p.extract 0 (jak q p)) (addK (.br ⟨#[]⟩ (setK (fun _=>.nil) (jaq (q.extract (jak q p) q.size)) (jb8 (q.extract (jak q p+1) q.size) n))) (p.extract (jak q p) p.size) u)
 | .br v ks,p,u=>if p.size=0 then .br u ks else .br v (setK ks (jaq p) (putP (ks (jaq p)) (jbm p) u))
def idxK(ks:Nat->PA):List Nat:=(List.range 16).filter fun i => !(ks i).isNil
def jdd(v:vB)(ks:Nat->PA):PA:=match idxK ks with
 | []=>if v.size=0 then .no else .leaf ⟨#[]⟩ v
 | [i]=>if v.size=0 then jb8 ⟨#[UInt8.ofNat i]⟩ (ks i)else .br v ks
 | _=>.br v ks
def unNo(P:PA):PA:=if P.isNo then .nil else P
def jbL:PA->vB->PA
 | .nil,_=>.no
 | .no,_=>.no
 | .leaf q v,p=>if p=q then .no else .leaf q v
 | .ext q n,p=>if preB q p then jb8 q (jbL n (p.extract q.size p.size))else .ext q n
 | .br v ks,p=>if p.size=0 then jdd ⟨#[]⟩ ks else if (ks (jaq p)).isNil then .br v ks else jdd v (setK ks (jaq p) (unNo (jbL (ks (jaq p)) (jbm p))))
def getL:PA->List UInt8->Option vB
 | .nil,_=>none
 | .no,_=>none
 | .leaf q v,p=>if q.data.toList=p then some v else none
 | .ext q n,p=>if q.data.toList.isPrefixOf p then getL n (p.drop q.data.toList.length)else none
 | .br v _,[]=>if v.size=0 then none else some v
 | .br _ ks,x :: t=>getL (ks x.toNat) t
def TwoK(v:vB)(ks:Nat->PA):Prop:=(∃ i j,i≠j/\(ks i).isNil=false/\(ks j).isNil=false)\/(v.size≠0/\∃ i,(ks i).isNil=false)
def CanP:PA->Prop
 | .nil=>False
 | .no=>False
 | .leaf q v=>jat q=true/\v.size≠0
 | .ext q n=>q.size≠0/\jat q=true/\n.isBr=true/\CanP n
 | .br v ks=>(∀ i,(ks i).isNil=false->i < 16)/\(∀ i,(ks i).isNil=false->CanP (ks i))/\TwoK v ks
theorem jkv(a b:vB):(a++b).data.toList=a.data.toList++b.data.toList:=by
 simp[ByteArray.data_append]
theorem jbo{P:PA}(h:P.isNil=true):P=.nil:=by cases P <;> first | rfl | cases h
theorem jqs{P:PA}(h:P.isNo=true):P=.no:=by cases P <;> first | rfl | cases h
theorem jl6{P:PA}(h:CanP P):P.isNil=false:=by cases P <;> first | rfl | exact h.elim
theorem jw4{P:PA}(h:CanP P):P.isNo=false:=by cases P <;> first | rfl | exact h.elim
theorem jca{a p:List UInt8}:a.isPrefixOf p=true↔∃ r,p=a++r:=by
 rw[List.isPrefixOf_iff_prefix]
 exact⟨fun ⟨r,h⟩=>⟨r,h.symm⟩,fun ⟨r,h⟩=>⟨r,h.symm⟩⟩
theorem jli{a p:List UInt8}(h:a.isPrefixOf p=false):∀ r,p≠a++r:=fun r e=>by
 rw[jca.2 ⟨r,e⟩]at h;cases h
theorem jfm{a:vB}(h:a.size=0):a.data.toList=[]:=List.eq_nil_of_length_eq_zero (by rw[jaC];exact h)
theorem jcc{a:vB}(h:a.size≠0):∃ x t,a.data.toList=x :: t:=by
 cases e:a.data.toList with
 | nil=>rw[<-jaC,e]at h;exact (h rfl).elim
 | cons x t=>exact⟨x,t,rfl⟩
theorem jbw{p:vB}{x:UInt8}{t:List UInt8}(h:p.data.toList=x :: t):jaq p=x.toNat/\(jbm p).data.toList=t:=by
 refine⟨by unfold jaq;rw[h];rfl,?_⟩
 unfold jbm;rw[jdv,h];rfl
theorem jc1{x y:UInt8}(h:x≠y):x.toNat≠y.toNat:=fun e=>h (UInt8.toNat_inj.1 e)
theorem jfe(a:vB)(P:PA)(p:List UInt8):getL (jb8 a P) p=if a.data.toList.isPrefixOf p then getL P (p.drop a.data.toList.length)else none:=by
 unfold jb8
 by_cases h0:a.size=0
 ·rw[if_pos h0,jfm h0];simp
 rw[if_neg h0];cases hp:a.data.toList.isPrefixOf p with
 | true =>
  obtain⟨r,rfl⟩:=jca.1 hp
  rw[if_pos rfl,List.drop_left];cases P with
  | nil=>rfl
  | no=>rfl
  | leaf q v=>simp only[getL,jkv,List.append_cancel_left_eq]
  | ext q n =>
   simp only[getL,jkv];have e:(a.data.toList++q.data.toList).isPrefixOf (a.data.toList++r)=q.data.toList.isPrefixOf r:=by
    rw[Bool.eq_iff_iff,jca,jca]
    exact⟨fun ⟨s,e⟩=>⟨s,by rw[List.append_assoc]at e;exact List.append_cancel_left e⟩,fun ⟨s,e⟩=>⟨s,by rw[e,List.append_assoc]⟩⟩
   rw[e,List.length_append, <-List.drop_drop,List.drop_left]
  | br v ks =>
   show (if a.data.toList.isPrefixOf (a.data.toList++r)=true then getL (.br v ks) ((a.data.toList++r).drop _)else none)=_;rw[hp,if_pos rfl,List.drop_left]
 | false =>
  have hn:=jli hp;rw[if_neg ff];cases P with
  | nil=>rfl
  | no=>rfl
  | leaf q v =>
   simp only[getL,jkv];rw[if_neg (fun e=>hn _ e.symm)]
  | ext q n =>
   simp only[getL,jkv];rw[if_neg];intro e
   obtain⟨s,e⟩:=jca.1 e
   rw[List.append_assoc]at e;exact hn _ e
  | br v ks =>
   show (if a.data.toList.isPrefixOf p=true then _ else none)=_;rw[hp];rfl
theorem jhc(v:vB)(ks:Nat->PA)(i:Nat)(P:PA)(x:UInt8)(t:List UInt8):getL (.br v (setK ks i P)) (x :: t)=if x.toNat=i then getL P t else getL (.br v ks) (x :: t):=by
 show getL (setK ks i P x.toNat) t=if x.toNat=i then _ else getL (ks x.toNat) t
 unfold setK
 by_cases h:x.toNat=i
 ·rw[if_pos h,if_pos h]
 ·rw[if_neg h,if_neg h]
theorem jml(v:vB)(ks:Nat->PA)(p u:vB)(hu:u.size≠0)(hk:∀ x t,p.data.toList=x :: t->(ks x.toNat).isNil=true)(q:List UInt8) :
  getL (addK (.br v ks) p u) q=if q=p.data.toList then some u else getL (.br v ks) q:=by
 rw[jcH]
 by_cases h0:p.size=0
 ·rw[if_pos h0,jfm h0]
  cases q with
  | nil=>simp[getL,hu]
  | cons x t=>rfl
 ·rw[if_neg h0]
  obtain⟨x,t,hx⟩:=jcc h0
  obtain⟨h1,h2⟩:=jbw hx
  have hkx:=jbo (hk x t hx);rw[h1,hx];cases q with
  | nil=>simp[getL]
  | cons y s =>
   rw[jhc]
   by_cases hy:y=x
   ·subst hy
    rw[if_pos rfl];simp only[getL,h2,hkx,List.cons.injEq,true_and]
    by_cases e:t=s
    ·rw[if_pos e,if_pos e.symm]
    ·rw[if_neg e,if_neg (fun h=>e h.symm)]
   ·rw[if_neg (jc1 hy),if_neg (fun e=>hy (List.cons.inj e).1)]
theorem jcC(a b:List UInt8):∃ a' b',a=a.take (jaV a b)++a'/\b=a.take (jaV a b)++b'/\a'=a.drop (jaV a b)/\b'=b.drop (jaV a b)/\(∀ x s y t,a'=x :: s->b'=y :: t->x≠y):=by
 obtain⟨h1,h2,h3⟩:=jbb a b
 refine⟨_,_,(List.take_append_drop _ _).symm,?_,rfl,rfl,?_⟩
 ·rw[h1,List.take_append_drop]
 ·intro x s y t hx hy e
  have h:=jhr a b;rw[hx,hy,e]at h;simp[jaV]at h
theorem jmb{a b:List UInt8}(h:jaV a b=a.length):b=a++b.drop a.length:=by
 obtain⟨h1,h2,h3⟩:=jbb a b
 rw[h,List.take_length]at h1
 have:=(List.take_append_drop a.length b).symm
 rw[<-h1]at this;exact this
theorem jrX(p:vB)(k:Nat):(p.extract 0 k).data.toList=p.data.toList.take k:=by
 simp[ByteArray.data_extract]
theorem jmm:∀ (P:PA),(CanP P\/P=.no\/P=.nil)->∀ (p u:vB),u.size≠0->∀ q,getL (putP P p u) q=if q=p.data.toList then some u else getL P q
 | .nil,_,p,u,_,q=>by
  show (if p.data.toList=q then some u else none)=if q=p.data.toList then some u else none
  by_cases e:q=p.data.toList
  ·rw[if_pos e,if_pos e.symm]
  ·rw[if_neg e,if_neg (fun h=>e h.symm)]
 | .no,_,p,u,_,q=>by
  show (if p.data.toList=q then some u else none)=if q=p.data.toList then some u else none
  by_cases e:q=p.data.toList
  ·rw[if_pos e,if_pos e.symm]
  ·rw[if_neg e,if_neg (fun h=>e h.symm)]
 | .leaf a v,h,p,u,hu,q=>by
  have hc:v.size≠0:=by
   rcases h with h | h | h
   ·exact h.2
   ·cases h
   ·cases h
  unfold putP
  by_cases hpa:p=a
  ·rw[if_pos hpa]
   subst hpa;simp only[getL]
   by_cases e:q=p.data.toList
   ·rw[if_pos e,if_pos e.symm]
   ·rw[if_neg e,if_neg (fun h=>e h.symm),if_neg (fun h=>e h.symm)]
  rw[if_neg hpa,jfe,jrX]
  obtain⟨a',b',ha,hb,ha',hb',hne⟩:=jcC a.data.toList p.data.toList
  obtain⟨ht1,ht2,ht3⟩:=jbb a.data.toList p.data.toList
  obtain⟨n,hn⟩:=vE (jak a p)
  have hn':jaV a.data.toList p.data.toList=n:=hn.symm;rw[hn']at ha hb ha' hb' ht1 ht2 ht3;rw[<-hn, <-ht1]
  obtain⟨c,hcc⟩:=vE (a.data.toList.take n)
  rw[<-hcc]at ha hb ⊢;have hcl:c.length=n:=by rw[hcc,List.length_take];omega
  have hab:¬(a'=[]/\b'=[]):=by
   rintro⟨rfl,rfl⟩
   exact hpa (jbt (by rw[hb,ha]))
  have hka:(a.extract n a.size).data.toList=a':=by rw[jdv,ha']
  have hkb:(p.extract n p.size).data.toList=b':=by rw[jdv,hb']
  obtain⟨x1,e1⟩:∃ x,x=a.extract n a.size:=⟨_,rfl⟩
  obtain⟨x2,e2⟩:∃ x,x=p.extract n p.size:=⟨_,rfl⟩
  rw[<-e1]at hka ⊢;rw[<-e2]at hkb ⊢;have key:∀ r,getL (addK (addK (.br ⟨#[]⟩ fun _=>.nil) x1 v) x2 u) r=if r=b' then some u else if r=a' then some v else none:=by
   intro r;have hadd:∃ v1 ks1,addK (.br ⟨#[]⟩ fun _=>.nil) x1 v=.br v1 ks1/\∀ x t,x2.data.toList=x :: t->(ks1 x.toNat).isNil=true:=by
    rw[jcH]
    by_cases h0:x1.size=0
    ·rw[if_pos h0];exact⟨_,_,rfl,fun _ _ _=>rfl⟩
    ·rw[if_neg h0]
     refine⟨_,_,rfl,fun y t hy=>?_⟩
     obtain⟨x,s,hx⟩:=jcc h0
     unfold setK;rw[(jbw hx).1,if_neg (jc1 (Ne.symm (hne x s y t (by rw[<-hka,hx]) (by rw[<-hkb,hy]))))];rfl
   obtain⟨v1,ks1,h1,h2⟩:=hadd
   rw[h1,jml v1 ks1 x2 u hu h2, <-h1,jml _ _ x1 v hc (fun _ _ _=>rfl),hka,hkb]
   congr 1
   congr 1
   cases r <;> rfl
  cases hp:c.isPrefixOf q with
  | false =>
   have h9:=jli hp;rw[if_neg ff,if_neg (fun e=>h9 b' (e.trans hb))];show none=if a.data.toList=q then some v else none
   rw[if_neg (fun e=>h9 a' (e.symm.trans ha))]
  | true =>
   obtain⟨r,rfl⟩:=jca.1 hp
   rw[if_pos rfl,List.drop_left,key];show _=if c++r=p.data.toList then some u else if a.data.toList=c++r then some v else none
   rw[hb,ha];simp only[List.append_cancel_left_eq]
   congr 1
   by_cases e:r=a'
   ·rw[if_pos e,if_pos e.symm]
   ·rw[if_neg e,if_neg (fun h=>e h.symm)]
 | .ext a n,h,p,u,hu,q=>by
  have hc:CanP (.ext a n):=by
   rcases h with h | h | h
   ·exact h
   ·cases h
   ·cases h
  have ih:=jmm n (.inl hc.2.2.2);unfold putP
  by_cases hf:jak a p=a.size
  ·rw[if_pos hf,jfe]
   have hb:=jmb (a:=a.data.toList) (b:=p.data.toList) (by rw[jaC];exact hf)
   obtain⟨b',hb'⟩:∃ b',b'=p.data.toList.drop a.data.toList.length:=⟨_,rfl⟩
   rw[<-hb']at hb;have hx:(p.extract (jak a p) p.size).data.toList=b':=by rw[jdv,hf,hb',jaC]
   show _=if q=p.data.toList then some u else if a.data.toList.isPrefixOf q then getL n (q.drop a.data.toList.length)else none
   cases hp:a.data.toList.isPrefixOf q with
   | false =>
    rw[if_neg ff,if_neg ff,if_neg (fun e=>jli hp b' (e.trans hb))]
   | true =>
    obtain⟨r,rfl⟩:=jca.1 hp
    rw[if_pos rfl,if_pos rfl,List.drop_left,ih _ u hu,hx,hb];simp only[List.append_cancel_left_eq]
  ·rw[if_neg hf,jfe,jrX]
   obtain⟨a',b',ha,hb,ha',hb',hne⟩:=jcC a.data.toList p.data.toList
   obtain⟨ht1,ht2,ht3⟩:=jbb a.data.toList p.data.toList
   obtain⟨m,hm⟩:=vE (jak a p)
   have hm':jaV a.data.toList p.data.toList=m:=hm.symm;rw[hm']at ha hb ha' hb' ht1 ht2 ht3;rw[<-hm]at hf ⊢;rw[<-ht1]
   obtain⟨c,hcc⟩:=vE (a.data.toList.take m)
   rw[<-hcc]at ha hb ⊢;have hka:(a.extract m a.size).data.toList=a':=by rw[jdv,ha']
   have hkb:(p.extract m p.size).data.toList=b':=by rw[jdv,hb']
   have hsz:a'.length=a.size - m:=by rw[ha',List.length_drop,jaC]
   rw[jaC]at ht2;cases a' with
   | nil=>simp at hsz;omega
   | cons x s =>
    have hk1:(a.extract (m+1) a.size).data.toList=s:=by
     rw[jdv, <-List.drop_drop, <-ha'];rfl
    rw[(jbw hka).1]
    obtain⟨x2,e2⟩:∃ x,x=p.extract m p.size:=⟨_,rfl⟩
    rw[<-e2]at hkb ⊢;have key:∀ r,getL (addK (.br ⟨#[]⟩ (setK (fun _=>.nil) x.toNat (jb8 (a.extract (m+1) a.size) n))) x2 u) r=if r=b' then some u else if (x :: s).isPrefixOf r then getL n (r.drop (s.length+1))else none:=by
     intro r;rw[jml _ _ _ u hu,hkb]
     ·congr 1
      cases r with
      | nil=>rfl
      | cons y t =>
       rw[jhc,jfe,hk1]
       by_cases e:y=x
       ·subst e;simp
       ·rw[if_neg (jc1 e),if_neg]
        ·rfl
        ·intro h9
         obtain⟨r,h9⟩:=jca.1 h9
         exact e (List.cons.inj h9).1
     ·intro y t hy
      unfold setK;rw[if_neg (jc1 (Ne.symm (hne x s y t rfl (by rw[<-hkb,hy]))))];rfl
    have hal:a.data.toList.length=c.length+(s.length+1):=by
     have h9:=congrArg List.length ha;rw[List.length_append]at h9;exact h9
    show _=if q=p.data.toList then some u else if a.data.toList.isPrefixOf q then getL n (q.drop a.data.toList.length)else none
    cases hp:c.isPrefixOf q with
    | false =>
     have h9:=jli hp;rw[if_neg ff,if_neg (fun e=>h9 b' (e.trans hb)),if_neg];intro e
     obtain⟨r,e⟩:=jca.1 e
     rw[ha,List.append_assoc]at e;exact h9 _ e
    | true =>
     obtain⟨r,rfl⟩:=jca.1 hp
     have e2:(c++r).drop (c.length+(s.length+1))=r.drop (s.length+1):=by rw[<-List.drop_drop,List.drop_left]
     rw[if_pos rfl,List.drop_left,key,hal,e2];have e1:a.data.toList.isPrefixOf (c++r)=(x :: s).isPrefixOf r:=by
      rw[Bool.eq_iff_iff,jca,jca];constructor
      ·rintro⟨z,e⟩
       rw[ha,List.append_assoc]at e
       exact⟨z,List.append_cancel_left e⟩
      ·rintro⟨z,rfl⟩
       exact⟨z,by rw[ha,List.append_assoc]⟩
     rw[e1,hb];simp only[List.append_cancel_left_eq]
 | .br v ks,h,p,u,hu,q=>by
  have hc:CanP (.br v ks):=by
   rcases h with h | h | h
   ·exact h
   ·cases h
   ·cases h
  unfold putP
  by_cases h0:p.size=0
  ·rw[if_pos h0,jfm h0]
   cases q with
   | nil=>simp[getL,hu]
   | cons x t=>rfl
  ·rw[if_neg h0]
   obtain⟨x,t,hx⟩:=jcc h0
   obtain⟨h1,h2⟩:=jbw hx
   have ih:=jmm (ks (jaq p)) (by
    cases hn:(ks (jaq p)).isNil with
    | true=>exact .inr (.inr (jbo hn))
    | false=>exact .inl (hc.2.1 _ hn)) (jbm p) u hu
   rw[h1]at ih ⊢;rw[hx];cases q with
   | nil=>simp[getL]
   | cons y s =>
    rw[jhc]
    by_cases hy:y=x
    ·subst hy
     rw[if_pos rfl,ih,h2];simp only[List.cons.injEq,true_and];rfl
    ·rw[if_neg (jc1 hy),if_neg (fun e=>hy (List.cons.inj e).1)]
theorem jce{s:vB}:jat s=true↔∀ x∈s.data.toList,x.toNat < 16:=by
 unfold jat;rw[List.all_eq_true];constructor
 ·intro h x hx
  have h1:=h x hx;simp only[decide_eq_true_eq,UInt8.le_iff_toNat_le]at h1
  have:(15:UInt8).toNat=15:=rfl
  omega
 ·intro h x hx
  have h1:=h x hx;simp only[decide_eq_true_eq,UInt8.le_iff_toNat_le]
  have:(15:UInt8).toNat=15:=rfl
  omega
theorem jlN{a b:vB}(h:jat a=true)(k:jat b=true):jat (a++b)=true:=by
 rw[jce]at *;intro x hx;rw[jkv]at hx;rcases List.mem_append.1 hx with e | e
 ·exact h x e
 ·exact k x e
theorem jgQ{a:vB}(h:jat a=true)(k:Nat):jat (a.extract 0 k)=true:=by
 rw[jce]at *;intro x hx;rw[jrX]at hx;exact h x (List.mem_of_mem_take hx)
theorem jcj{a:vB}(h:jat a=true):jat (jbm a)=true:=jbg h 1 _
theorem jdx{p:vB}(h:jat p=true)(h0:p.size≠0):jaq p < 16:=by
 obtain⟨x,t,hx⟩:=jcc h0
 rw[(jbw hx).1];exact jce.1 h x (by rw[hx];exact List.mem_cons_self)
theorem jcU(a b:vB):(a++b).size=a.size+b.size:=by
 rw[<-jaC,jkv,List.length_append,jaC,jaC]
theorem je7{a:vB}{P:PA}(ha:jat a=true)(h:CanP P):CanP (jb8 a P):=by
 unfold jb8
 by_cases h0:a.size=0
 ·rw[if_pos h0];exact h
 rw[if_neg h0];cases P with
 | nil=>exact h.elim
 | no=>exact h.elim
 | leaf q v=>exact⟨jlN ha h.1,h.2⟩
 | ext q n=>exact⟨by rw[jcU];omega,jlN ha h.2.1,h.2.2⟩
 | br v ks=>exact⟨h0,ha,rfl,h⟩
theorem jcb(ks:Nat->PA)(i:Nat)(P:PA):setK ks i P i=P:=if_pos rfl
theorem jey(ks:Nat->PA){i j:Nat}(P:PA)(h:j≠i):setK ks i P j=ks j:=if_neg h
def OneB(ks:Nat->PA):Prop:=(∀ i,(ks i).isNil=false->i < 16)/\(∀ i,(ks i).isNil=false->CanP (ks i))
theorem OneB.set{ks:Nat->PA}(h:OneB ks){i:Nat}{P:PA}(hi:i < 16)(hP:CanP P):OneB (setK ks i P):=by
 refine⟨fun j hj=>?_,fun j hj=>?_⟩
 ·by_cases e:j=i
  ·rw[e];exact hi
  ·rw[jey _ _ e]at hj;exact h.1 j hj
 ·by_cases e:j=i
  ·rw[e,jcb];exact hP
  ·rw[jey _ _ e]at hj ⊢;exact h.2 j hj
theorem OneB.cut{ks:Nat->PA}(h:OneB ks)(i:Nat):OneB (setK ks i .nil):=by
 refine⟨fun j hj=>?_,fun j hj=>?_⟩
 ·by_cases e:j=i
  ·rw[e,jcb]at hj;cases hj
  ·rw[jey _ _ e]at hj;exact h.1 j hj
 ·by_cases e:j=i
  ·rw[e,jcb]at hj;cases hj
  ·rw[jey _ _ e]at hj ⊢;exact h.2 j hj
theorem jjL:OneB (fun _=>.nil):=⟨fun _ h=>Bool.noConfusion h,fun _ h=>Bool.noConfusion h⟩
theorem TwoK.set{v:vB}{ks:Nat->PA}(h:TwoK v ks)(i:Nat){P:PA}(hP:P.isNil=false):TwoK v (setK ks i P):=by
 have hk:∀ j,(ks j).isNil=false->(setK ks i P j).isNil=false:=by
  intro j hj
  by_cases e:j=i
  ·rw[e,jcb];exact hP
  ·rw[jey _ _ e];exact hj
 rcases h with⟨a,b,h1,h2,h3⟩ |⟨h1,a,h2⟩
 ·exact .inl ⟨a,b,h1,hk a h2,hk b h3⟩
 ·exact .inr ⟨h1,a,hk a h2⟩
theorem jlV{ks:Nat->PA}(v p u:vB)(h:OneB ks)(hp:jat p=true)(hu:u.size≠0)(h2:(v.size≠0/\p.size≠0)\/∃ i,(ks i).isNil=false/\(p.size=0\/jaq p≠i)):CanP (addK (.br v ks) p u):=by
 rw[jcH]
 by_cases h0:p.size=0
 ·rw[if_pos h0]
  rcases h2 with⟨_,e⟩ |⟨i,hi,_⟩
  ·exact (e h0).elim
  ·exact⟨h.1,h.2,.inr ⟨hu,i,hi⟩⟩
 ·rw[if_neg h0]
  have hs:=h.set (jdx hp h0) (P:=.leaf (jbm p) u) ⟨jcj hp,hu⟩
  refine⟨hs.1,hs.2,?_⟩
  rcases h2 with⟨e,_⟩ |⟨i,hi,e | e⟩
  ·exact .inr ⟨e,jaq p,by rw[jcb];rfl⟩
  ·exact (h0 e).elim
  ·exact .inl ⟨jaq p,i,e,by rw[jcb];rfl,by rw[jey _ _ (Ne.symm e)];exact hi⟩
theorem jl7:∀ (P:PA),(CanP P\/P=.no\/P=.nil)->∀ (p u:vB),jat p=true->u.size≠0->CanP (putP P p u)
 | .nil,_,p,u,hp,hu=>⟨hp,hu⟩
 | .no,_,p,u,hp,hu=>⟨hp,hu⟩
 | .leaf a v,h,p,u,hp,hu=>by
  have hc:jat a=true/\v.size≠0:=by
   rcases h with h | h | h
   ·exact h
   ·cases h
   ·cases h
  unfold putP
  by_cases hpa:p=a
  ·rw[if_pos hpa];exact⟨hp,hu⟩
  rw[if_neg hpa];refine je7 (jgQ hp _) ?_
  obtain⟨a',b',ha,hb,ha',hb',hne⟩:=jcC a.data.toList p.data.toList
  have hka:(a.extract (jak a p) a.size).data.toList=a':=by rw[jdv,ha'];rfl
  have hkb:(p.extract (jak a p) p.size).data.toList=b':=by rw[jdv,hb'];rfl
  have hva:=jbg hc.1 (jak a p) a.size;have hvb:=jbg hp (jak a p) p.size;have hab:¬(a'=[]/\b'=[]):=by
   rintro⟨rfl,rfl⟩
   exact hpa (jbt (hb.trans ha.symm))
  obtain⟨x1,e1⟩:∃ x,x=a.extract (jak a p) a.size:=⟨_,rfl⟩
  obtain⟨x2,e2⟩:∃ x,x=p.extract (jak a p) p.size:=⟨_,rfl⟩
  rw[<-e1]at hka hva ⊢;rw[<-e2]at hkb hvb ⊢;rw[jcH]
  by_cases h0:x1.size=0
  ·rw[if_pos h0]
   refine jlV v x2 u jjL hvb hu (.inl ⟨hc.2,fun e=>hab ⟨?_,?_⟩⟩)
   ·rw[<-hka];exact jfm h0
   ·rw[<-hkb];exact jfm e
  ·rw[if_neg h0]
   refine jlV _ x2 u (jjL.set (jdx hva h0) ⟨jcj hva,hc.2⟩) hvb hu (.inr ⟨jaq x1,by rw[jcb];rfl,?_⟩)
   by_cases h9:x2.size=0
   ·exact .inl h9
   ·obtain⟨x,s,hx⟩:=jcc h0
    obtain⟨y,t,hy⟩:=jcc h9
    rw[(jbw hx).1,(jbw hy).1];exact .inr (jc1 (Ne.symm (hne x s y t (by rw[<-hka,hx]) (by rw[<-hkb,hy]))))
 | .ext a n,h,p,u,hp,hu=>by
  have hc:CanP (.ext a n):=by
   rcases h with h | h | h
   ·exact h
   ·cases h
   ·cases h
  unfold putP
  by_cases hf:jak a p=a.size
  ·rw[if_pos hf]
   exact je7 hc.2.1 (jl7 n (.inl hc.2.2.2) _ u (jbg hp _ _) hu)
  ·rw[if_neg hf]
   refine je7 (jgQ hp _) ?_
   obtain⟨a',b',ha,hb,ha',hb',hne⟩:=jcC a.data.toList p.data.toList
   have hka:(a.extract (jak a p) a.size).data.toList=a':=by rw[jdv,ha'];rfl
   have hkb:(p.extract (jak a p) p.size).data.toList=b':=by rw[jdv,hb'];rfl
   have hva:=jbg hc.2.1 (jak a p) a.size;have hvb:=jbg hp (jak a p) p.size;have h0:(a.extract (jak a p) a.size).size≠0:=by
    have h3:=(jbb a.data.toList p.data.toList).2.1;have h4:jak a p<=a.size:=by rw[<-jaC];exact h3
    rw[jaR];omega
   obtain⟨x2,e2⟩:∃ x,x=p.extract (jak a p) p.size:=⟨_,rfl⟩
   rw[<-e2]at hkb hvb ⊢;have hj:=je7 (jbg hc.2.1 (jak a p+1) a.size) hc.2.2.2;have hO:=jjL.set (jdx hva h0) hj
   obtain⟨J,hJ⟩:=vE (jb8 (a.extract (jak a p+1) a.size) n)
   rw[<-hJ]at hO hj ⊢;have hz:=jcb (fun _=>PA.nil) (jaq (a.extract (jak a p) a.size)) J;have hnil:=jl6 hj;rw[<-hz]at hnil
   obtain⟨KS,hKS⟩:=vE (setK (fun _=>PA.nil) (jaq (a.extract (jak a p) a.size)) J)
   rw[<-hKS]at hO hnil ⊢;refine jlV ⟨#[]⟩ x2 u hO hvb hu (.inr ⟨jaq (a.extract (jak a p) a.size),hnil,?_⟩)
   by_cases h9:x2.size=0
   ·exact .inl h9
   ·obtain⟨x,s,hx⟩:=jcc h0
    obtain⟨y,t,hy⟩:=jcc h9
    rw[(jbw hx).1,(jbw hy).1];exact .inr (jc1 (Ne.symm (hne x s y t (by rw[<-hka,hx]) (by rw[<-hkb,hy]))))
 | .br v ks,h,p,u,hp,hu=>by
  have hc:CanP (.br v ks):=by
   rcases h with h | h | h
   ·exact h
   ·cases h
   ·cases h
  unfold putP
  by_cases h0:p.size=0
  ·rw[if_pos h0]
   refine⟨hc.1,hc.2.1,?_⟩
   rcases hc.2.2 with h1 |⟨_,h2⟩
   ·exact .inl h1
   ·exact .inr ⟨hu,h2⟩
  ·rw[if_neg h0]
   have hk:=jl7 (ks (jaq p)) (by
    cases hn:(ks (jaq p)).isNil with
    | true=>exact .inr (.inr (jbo hn))
    | false=>exact .inl (hc.2.1 _ hn)) (jbm p) u (jcj hp) hu
   have hs:=OneB.set ⟨hc.1,hc.2.1⟩ (jdx hp h0) hk
   exact⟨hs.1,hs.2,hc.2.2.set _ (jl6 hk)⟩
theorem jqo{ks:Nat->PA}{i:Nat}(h:OneB ks):i∈idxK ks↔(ks i).isNil=false:=by
 unfold idxK;rw[List.mem_filter,List.mem_range,Bool.not_eq_true']
 exact⟨fun e=>e.2,fun e=>⟨h.1 i e,e⟩⟩
theorem jqp(ks:Nat->PA):(idxK ks).Nodup:=List.Nodup.sublist List.filter_sublist List.nodup_range
theorem jk3{v:vB}{ks:Nat->PA}(h:OneB ks):jdd v ks=.no\/CanP (jdd v ks):=by
 have hm:=fun i=>jqo (i:=i) h;have hd:=jqp ks;unfold jdd;cases e:idxK ks with
 | nil =>
  show (if v.size=0 then PA.no else .leaf ⟨#[]⟩ v)=.no\/CanP (if v.size=0 then PA.no else .leaf ⟨#[]⟩ v)
  by_cases h0:v.size=0
  ·rw[if_pos h0];exact .inl rfl
  ·rw[if_neg h0];exact .inr ⟨rfl,h0⟩
 | cons i r =>
  rw[e]at hm hd;have hi:=(hm i).1 List.mem_cons_self;cases r with
  | nil =>
   show (if v.size=0 then jb8 ⟨#[UInt8.ofNat i]⟩ (ks i)else .br v ks)=.no\/CanP (if v.size=0 then jb8 ⟨#[UInt8.ofNat i]⟩ (ks i)else .br v ks);right
   by_cases h0:v.size=0
   ·rw[if_pos h0]
    have hi16:=h.1 i hi;refine je7 ?_ (h.2 i hi);rw[jce];intro x hx;have hx:x=UInt8.ofNat i:=by simpa using hx
    rw[hx,UInt8.toNat_ofNat'];omega
   ·rw[if_neg h0]
    exact⟨h.1,h.2,.inr ⟨h0,i,hi⟩⟩
  | cons j r =>
   right
   refine⟨h.1,h.2,.inl ⟨i,j,?_,hi,(hm j).1 (by simp)⟩⟩
   rintro rfl;simp at hd
theorem jkT{v:vB}{ks:Nat->PA}(h:OneB ks)(q:List UInt8):getL (jdd v ks) q=getL (.br v ks) q:=by
 have hm:=fun i=>jqo (i:=i) h;unfold jdd;cases e:idxK ks with
 | nil =>
  rw[e]at hm;have hn:∀ i,ks i=.nil:=fun i=>jbo (by
   cases hb:(ks i).isNil with
   | true=>rfl
   | false=>exact ((List.mem_nil_iff i).1 ((hm i).2 hb)).elim)
  show getL (if v.size=0 then PA.no else .leaf ⟨#[]⟩ v) q=_;cases q with
  | nil =>
   show _=if v.size=0 then none else some v
   by_cases h0:v.size=0
   ·rw[if_pos h0,if_pos h0];rfl
   ·rw[if_neg h0,if_neg h0];rfl
  | cons x t =>
   show _=getL (ks x.toNat) t;rw[hn]
   by_cases h0:v.size=0
   ·rw[if_pos h0];rfl
   ·rw[if_neg h0];rfl
 | cons i r =>
  cases r with
  | nil =>
   show getL (if v.size=0 then jb8 ⟨#[UInt8.ofNat i]⟩ (ks i)else .br v ks) q=_
   by_cases h0:v.size=0
   ·rw[if_pos h0,jfe]
    rw[e]at hm;have hi16:=h.1 i ((hm i).1 List.mem_cons_self);have hti:(UInt8.ofNat i).toNat=i:=by rw[UInt8.toNat_ofNat'];omega
    cases q with
    | nil=>show (if false=true then _ else none)=if v.size=0 then none else some v;rw[if_pos h0,if_neg ff]
    | cons x t =>
     show (if ([UInt8.ofNat i].isPrefixOf (x :: t))=true then getL (ks i) ((x :: t).drop 1)else none)=getL (ks x.toNat) t
     by_cases hx:x=UInt8.ofNat i
     ·subst hx;simp[hti]
     ·have hne:x.toNat≠i:=fun e=>hx (UInt8.toNat_inj.1 (by rw[hti];exact e))
      have hnn:ks x.toNat=.nil:=jbo (by
       cases hb:(ks x.toNat).isNil with
       | true=>rfl
       | false=>exact (hne (by simpa using (hm _).2 hb)).elim)
      rw[hnn,if_neg]
      ·rfl
      ·intro h9
       obtain⟨r,h9⟩:=jca.1 h9
       exact hx (List.cons.inj h9).1
   ·rw[if_neg h0]
  | cons j r=>rfl
theorem js0(P:PA)(q:List UInt8):getL (unNo P) q=getL P q:=by
 unfold unNo;cases h:P.isNo with
 | true=>rw[if_pos rfl,jqs h];rfl
 | false=>rw[if_neg ff]
theorem jmd:∀ (P:PA),CanP P->∀ (p:vB),jat p=true->(jbL P p=.no\/CanP (jbL P p))/\∀ q,getL (jbL P p) q=if q=p.data.toList then none else getL P q
 | .nil,h,_,_=>h.elim
 | .no,h,_,_=>h.elim
 | .leaf a v,h,p,hp=>by
  unfold jbL
  by_cases e:p=a
  ·rw[if_pos e]
   refine⟨.inl rfl,fun q=>?_⟩
   subst e;show none=if q=p.data.toList then none else if p.data.toList=q then some v else none
   by_cases h9:q=p.data.toList
   ·rw[if_pos h9]
   ·rw[if_neg h9,if_neg (fun e=>h9 e.symm)]
  ·rw[if_neg e]
   refine⟨.inr h,fun q=>?_⟩
   by_cases h9:q=p.data.toList
   ·rw[if_pos h9]
    show (if a.data.toList=q then some v else none)=none;rw[if_neg (fun h8=>e (jbt (h9.symm.trans h8.symm)))]
   ·rw[if_neg h9]
 | .ext a n,h,p,hp=>by
  unfold jbL
  obtain⟨i1,i2⟩:=jmd n h.2.2.2 (p.extract a.size p.size) (jbg hp _ _)
  cases hb:preB a p with
  | false =>
   rw[if_neg ff]
   refine⟨.inr h,fun q=>?_⟩
   by_cases h9:q=p.data.toList
   ·rw[if_pos h9,h9]
    show (if a.data.toList.isPrefixOf p.data.toList=true then _ else none)=none;unfold preB at hb;rw[hb];rfl
   ·rw[if_neg h9]
  | true =>
   rw[if_pos rfl]
   obtain⟨b',hb'⟩:=jca.1 hb
   have hx:(p.extract a.size p.size).data.toList=b':=by rw[jdv,hb', <-jaC,List.drop_left]
   refine⟨?_,fun q=>?_⟩
   ·rcases i1 with i1 | i1
    ·rw[i1]
     left;unfold jb8
     by_cases h0:a.size=0
     ·rw[if_pos h0]
     ·rw[if_neg h0]
    ·exact .inr (je7 h.2.1 i1)
   ·rw[jfe]
    show _=if q=p.data.toList then none else if a.data.toList.isPrefixOf q then getL n (q.drop a.data.toList.length)else none
    cases hq:a.data.toList.isPrefixOf q with
    | false =>
     rw[if_neg ff,if_neg ff,if_neg (fun e=>jli hq b' (e.trans hb'))]
    | true =>
     obtain⟨r,rfl⟩:=jca.1 hq
     rw[if_pos rfl,if_pos rfl,List.drop_left,i2,hx,hb'];simp only[List.append_cancel_left_eq]
 | .br v ks,h,p,hp=>by
  unfold jbL;have hO:OneB ks:=⟨h.1,h.2.1⟩
  by_cases h0:p.size=0
  ·rw[if_pos h0]
   refine⟨jk3 hO,fun q=>?_⟩
   rw[jkT hO,jfm h0];cases q with
   | nil=>rfl
   | cons x t=>rfl
  ·rw[if_neg h0]
   obtain⟨x,t,hx⟩:=jcc h0
   obtain⟨h1,h2⟩:=jbw hx
   cases hn:(ks (jaq p)).isNil with
   | true =>
    rw[if_pos rfl]
    refine⟨.inr h,fun q=>?_⟩
    by_cases h9:q=p.data.toList
    ·rw[if_pos h9,h9,hx]
     show getL (ks x.toNat) t=none;rw[<-h1,jbo hn];rfl
    ·rw[if_neg h9]
   | false =>
    rw[if_neg ff]
    obtain⟨i1,i2⟩:=jmd (ks (jaq p)) (h.2.1 _ hn) (jbm p) (jcj hp)
    have hS:OneB (setK ks (jaq p) (unNo (jbL (ks (jaq p)) (jbm p)))):=by
     unfold unNo;rcases i1 with i1 | i1
     ·rw[i1];exact hO.cut _
     ·rw[jw4 i1,if_neg ff]
      exact hO.set (jdx hp h0) i1
    refine⟨jk3 hS,fun q=>?_⟩
    rw[jkT hS,hx];cases q with
    | nil=>rfl
    | cons y s =>
     rw[jhc,h1]
     by_cases hy:y=x
     ·subst hy
      rw[if_pos rfl,js0, <-h1,i2,h2];simp only[List.cons.injEq,true_and];show _=if s=t then none else getL (ks y.toNat) s
      rw[h1]
     ·rw[if_neg (jc1 hy),if_neg (fun e=>hy (List.cons.inj e).1)]
theorem jf6{i:Nat}(h:i < 16):(UInt8.ofNat i).toNat=i:=by rw[UInt8.toNat_ofNat'];omega
theorem jeo:∀ (P:PA),CanP P->∃ p v,getL P p=some v
 | .nil,h=>h.elim
 | .no,h=>h.elim
 | .leaf a v,_=>⟨a.data.toList,v,if_pos rfl⟩
 | .ext a n,h=>by
  obtain⟨p,v,e⟩:=jeo n h.2.2.2
  refine⟨a.data.toList++p,v,?_⟩
  show (if a.data.toList.isPrefixOf (a.data.toList++p)=true then getL n ((a.data.toList++p).drop a.data.toList.length)else none)=some v;rw[if_pos (jca.2 ⟨p,rfl⟩),List.drop_left,e]
 | .br v ks,h=>by
  have hi:∃ i,(ks i).isNil=false:=by
   rcases h.2.2 with⟨i,_,_,e,_⟩ |⟨_,i,e⟩
   ·exact⟨i,e⟩
   ·exact⟨i,e⟩
  obtain⟨i,hi⟩:=hi
  obtain⟨p,u,e⟩:=jeo (ks i) (h.2.1 i hi)
  refine⟨UInt8.ofNat i :: p,u,?_⟩
  show getL (ks (UInt8.ofNat i).toNat) p=some u;rw[jf6 (h.1 i hi),e]
theorem jhq{v:vB}{ks:Nat->PA}(h:CanP (.br v ks)):∃ p q a b,p.head?≠q.head?/\getL (.br v ks) p=some a/\getL (.br v ks) q=some b:=by
 have kid:∀ i,(ks i).isNil=false->∃ t u,getL (.br v ks) (UInt8.ofNat i :: t)=some u:=by
  intro i hi
  obtain⟨p,u,e⟩:=jeo (ks i) (h.2.1 i hi)
  refine⟨p,u,?_⟩
  show getL (ks (UInt8.ofNat i).toNat) p=some u;rw[jf6 (h.1 i hi),e]
 rcases h.2.2 with⟨i,j,hij,hi,hj⟩ |⟨hv,i,hi⟩
 ·obtain⟨t,a,e1⟩:=kid i hi
  obtain⟨s,b,e2⟩:=kid j hj
  refine⟨_,_,a,b,?_,e1,e2⟩
  intro e;have e:UInt8.ofNat i=UInt8.ofNat j:=by simpa using e
  have:=congrArg UInt8.toNat e
  rw[jf6 (h.1 i hi),jf6 (h.1 j hj)]at this;exact hij this
 ·obtain⟨t,a,e1⟩:=kid i hi
  refine⟨[],_,v,a,?_,?_,e1⟩
  ·simp
  ·show (if v.size=0 then none else some v)=some v
   rw[if_neg hv]
theorem jh5:∀ (a r p q:List UInt8),p.head?≠q.head?->r <+: a++p->r <+: a++q->r <+: a
 | [],r,p,q,h,h1,h2=>by
  cases r with
  | nil=>exact List.nil_prefix
  | cons x s =>
   obtain⟨t1,e1⟩:=h1
   obtain⟨t2,e2⟩:=h2
   rw[List.nil_append]at e1 e2;exfalso;apply h;rw[<-e1, <-e2];rfl
 | y :: a,r,p,q,h,h1,h2=>by
  cases r with
  | nil=>exact List.nil_prefix
  | cons x s =>
   rw[List.cons_append]at h1 h2
   obtain⟨e,h1⟩:=List.cons_prefix_cons.1 h1
   obtain⟨_,h2⟩:=List.cons_prefix_cons.1 h2
   rw[e];exact List.cons_prefix_cons.2 ⟨rfl,jh5 a s p q h h1 h2⟩
theorem jhI(a:vB)(n:PA)(t:List UInt8):getL (.ext a n) (a.data.toList++t)=getL n t:=by
 show (if a.data.toList.isPrefixOf (a.data.toList++t)=true then getL n ((a.data.toList++t).drop a.data.toList.length)else none)=getL n t;rw[if_pos (jca.2 ⟨t,rfl⟩),List.drop_left]
theorem jeq{a:vB}{n:PA}{p:List UInt8}{v:vB}(h:getL (.ext a n) p=some v):a.data.toList <+: p:=by
 have h:(if a.data.toList.isPrefixOf p=true then getL n (p.drop a.data.toList.length)else none)=some v:=h
 by_cases e:a.data.toList.isPrefixOf p=true
 ·exact List.isPrefixOf_iff_prefix.1 e
 ·rw[if_neg e]at h;cases h
theorem jl5{a:vB}{n:PA}(h:CanP (.ext a n)):∃ p q x y,p.head?≠q.head?/\getL (.ext a n) (a.data.toList++p)=some x/\getL (.ext a n) (a.data.toList++q)=some y:=by
 cases n with
 | br v ks =>
  obtain⟨p,q,x,y,h1,h2,h3⟩:=jhq h.2.2.2
  exact⟨p,q,x,y,h1,by rw[jhI,h2],by rw[jhI,h3]⟩
 | nil=>cases h.2.2.1
 | no=>cases h.2.2.1
 | leaf _ _=>cases h.2.2.1
 | ext _ _=>cases h.2.2.1
theorem jcX{a v:vB}{p:List UInt8}{u:vB}(h:getL (.leaf a v) p=some u):a.data.toList=p/\v=u:=by
 have h:(if a.data.toList=p then some v else none)=some u:=h
 by_cases e:a.data.toList=p
 ·rw[if_pos e]at h;exact⟨e,Option.some.inj h⟩
 ·rw[if_neg e]at h;cases h
theorem jjE{p q:List UInt8}(h:p.head?≠q.head?):p≠q:=fun e=>h (by rw[e])
theorem uniq:∀ (P Q:PA),CanP P->CanP Q->(∀ p,getL P p=getL Q p)->P=Q
 | .nil,_,h,_,_=>h.elim
 | .no,_,h,_,_=>h.elim
 | .leaf a v,Q,h,k,e=>by
  cases Q with
  | nil=>exact k.elim
  | no=>exact k.elim
  | leaf b u =>
   have h1:getL (.leaf b u) a.data.toList=some v:=by rw[<-e];exact if_pos rfl
   obtain⟨h2,h3⟩:=jcX h1
   rw[jbt h2,h3]
  | ext b n =>
   obtain⟨p,q,x,y,h1,h2,h3⟩:=jl5 k
   rw[<-e]at h2 h3;exact absurd (List.append_cancel_left ((jcX h2).1.symm.trans (jcX h3).1)) (jjE h1)
  | br u ks =>
   obtain⟨p,q,x,y,h1,h2,h3⟩:=jhq k
   rw[<-e]at h2 h3;exact absurd ((jcX h2).1.symm.trans (jcX h3).1) (jjE h1)
 | .ext a n,Q,h,k,e=>by
  obtain⟨p,q,x,y,h1,h2,h3⟩:=jl5 h
  cases Q with
  | nil=>exact k.elim
  | no=>exact k.elim
  | leaf b u =>
   rw[e]at h2 h3;exact absurd (List.append_cancel_left ((jcX h2).1.symm.trans (jcX h3).1)) (jjE h1)
  | ext b m =>
   have g2:=h2;have g3:=h3;rw[e]at g2 g3;have hba:=jh5 _ _ p q h1 (jeq g2) (jeq g3)
   obtain⟨p',q',x',y',k1,k2,k3⟩:=jl5 k
   have f2:=k2;have f3:=k3;rw[<-e]at f2 f3;have hab:=jh5 _ _ p' q' k1 (jeq f2) (jeq f3);have eab:a.data.toList=b.data.toList:=hab.eq_of_length (Nat.le_antisymm hab.length_le hba.length_le);have eab:=jbt eab;subst eab;rw[uniq n m h.2.2.2 k.2.2.2 (fun t=>by rw[<-jhI a n t, <-jhI a m t,e])]
  | br u ks =>
   exfalso
   obtain⟨p',q',x',y',k1,k2,k3⟩:=jhq k
   rw[<-e]at k2 k3;have h9:=jh5 [] _ p' q' k1 (by simpa using jeq k2) (by simpa using jeq k3);have h9:=List.prefix_nil.1 h9;apply h.1;rw[<-jaC,h9];rfl
 | .br v ks,Q,h,k,e=>by
  cases Q with
  | nil=>exact k.elim
  | no=>exact k.elim
  | leaf b u =>
   obtain⟨p,q,x,y,h1,h2,h3⟩:=jhq h
   rw[e]at h2 h3;exact absurd ((jcX h2).1.symm.trans (jcX h3).1) (jjE h1)
  | ext b m =>
   exfalso
   obtain⟨p',q',x',y',k1,k2,k3⟩:=jhq h
   rw[e]at k2 k3;have h9:=jh5 [] _ p' q' k1 (by simpa using jeq k2) (by simpa using jeq k3);have h9:=List.prefix_nil.1 h9;apply k.1;rw[<-jaC,h9];rfl
  | br u js =>
   have ev:v=u:=by
    have e0:=e [];have e0:(if v.size=0 then none else some v)=if u.size=0 then none else some u:=e0
    by_cases hv:v.size=0
    ·by_cases hu:u.size=0
     ·rw[jbh hv,jbh hu]
     ·rw[if_pos hv,if_neg hu]at e0;cases e0
    ·by_cases hu:u.size=0
     ·rw[if_neg hv,if_pos hu]at e0;cases e0
     ·rw[if_neg hv,if_neg hu]at e0;exact Option.some.inj e0
   have ek:ks=js:=by
    funext i
    have hkid:i < 16->∀ t,getL (ks i) t=getL (js i) t:=by
     intro hi t
     have:=e (UInt8.ofNat i :: t)
     have:getL (ks (UInt8.ofNat i).toNat) t=getL (js (UInt8.ofNat i).toNat) t:=this
     rw[jf6 hi]at this;exact this
    cases h1:(ks i).isNil with
    | true =>
     cases h2:(js i).isNil with
     | true=>rw[jbo h1,jbo h2]
     | false =>
      obtain⟨t,z,hz⟩:=jeo (js i) (k.2.1 i h2)
      rw[<-hkid (k.1 i h2),jbo h1]at hz;cases hz
    | false =>
     cases h2:(js i).isNil with
     | true =>
      obtain⟨t,z,hz⟩:=jeo (ks i) (h.2.1 i h1)
      rw[hkid (h.1 i h1),jbo h2]at hz;cases hz
     | false=>exact uniq (ks i) (js i) (h.2.1 i h1) (k.2.1 i h2) (hkid (h.1 i h1))
   rw[ev,ek]
section
attribute [local go_sem] Oper.semAt_some
def jd3(p:vB):Bool:=p.size % 2 == 0 && jat p
def nib1(i:Nat):vB:=⟨#[UInt8.ofNat i]⟩
def keyV(p:vB):Value:=.tuple #[.string (if jd3 p=true then jbr p else ⟨#[]⟩),.bool (jd3 p)]
theorem jta(w:World)(p:vB)(hs:p.size<=1000000):vR 159 #[.string p] w (keyV p):=by
 by_cases h2:p.size % 2=0
 ·have e1:(p.size:Int) % 2=0:=by omega
  cases hv:jat p with
  | true =>
   have ek:jd3 p=true:=by unfold jd3;rw[hv,h2];rfl
   have ev:keyV p=.tuple #[.string (jbr p),.bool true]:=by unfold keyV;rw[ek];rfl
   rw[ev];clear ek ev;go_enter Tryz.func159,Tryz.ntmps159;go_wp2_with fail
   refine (jkg w p vO).mono ?_;rintro e w1 ⟨rfl,rfl⟩;rw[hv];go_wp2_with fail
   refine vC (jmx w1 p hs) fun w2 hE=>?_;go_wp2_with fail
   go_ret2
   exact⟨rfl,hE⟩
  | false =>
   have ek:jd3 p=false:=by unfold jd3;rw[hv,h2];rfl
   have ev:keyV p=.tuple #[.string ⟨#[]⟩,.bool false]:=by unfold keyV;rw[ek];rfl
   rw[ev];clear ek ev;go_enter Tryz.func159,Tryz.ntmps159;go_wp2_with fail
   refine (jkg w p vO).mono ?_;rintro e w1 ⟨rfl,rfl⟩;rw[hv];go_wp2_with fail
   go_ret2
   exact⟨rfl,ExtR w1⟩
 ·have e1:¬(p.size:Int) % 2=0:=by omega
  have ek:jd3 p=false:=by unfold jd3;rw[show (p.size % 2 == 0)=false by simpa using h2];rfl
  have ev:keyV p=.tuple #[.string ⟨#[]⟩,.bool false]:=by unfold keyV;rw[ek];rfl
  have e2:((p.size:Int) % 2 != 0)=true:=by simpa using e1
  rw[ev];clear ek ev;go_enter Tryz.func159,Tryz.ntmps159;go_wp2_with fail
  go_ret2
  exact⟨rfl,ExtR w⟩
def bare(W:World):World:={ W with heap:=#[] }
theorem jsm(W:World):Ext (bare W) W:=⟨rfl,rfl,rfl,Nat.zero_le _,fun b hb=>absurd hb (Nat.not_lt_zero b)⟩
theorem ORow.any{T:TypeId}{sz:Nat}{W:World}{v:Value}{n:Nat}{xs:List Value}(h:W.ownsRow 0 T sz v n xs):ORow T sz (bare W) W v n xs:=⟨jaJ h,h,jsm W,fun _ _=>Nat.zero_le _⟩
end
def sumF(g:Nat->Nat):Nat->Nat
 | 0=>0
 | n+1=>sumF g n+g n
def cntT:Nat->List Pair->Nat
 | 0,_=>1
 | f+1,l=>1+(if l.length<=1 then 0 else if 0 < comK l then cntT f (jal (comK l) l)else sumF (fun i=>if (cutL i l).length=0 then 0 else cntT f (jal 1 (cutL i l))) 16)
theorem jnT(g:Nat->Nat)(l:List Pair)(h0:∀ i,(cutL i l).length=0->g i=0)(hg:∀ i,(cutL i l).length≠0->g i+2<=3 * (cutL i l).length):∀ n,sumF g n+2 * jde l n<=3 * jc4 l n
 | 0=>by simp[sumF,jc4,jde]
 | n+1=>by
  have ih:=jnT g l h0 hg n;rw[sumF,jc4,jde]
  by_cases hz:(cutL n l).length=0
  ·rw[if_pos hz,h0 n hz];omega
  ·have:=hg n hz
   rw[if_neg hz];omega
structure CntP(c:Nat)(l:List Pair):Prop where
 all:c+2<=3 * l.length
 two:2<=l.length->comK l=0->c+3<=3 * l.length
theorem jw7:∀ (f:Nat) (l:List Pair),jaA f l->l≠[]->CntP (cntT f l) l:=by
 intro f;induction f with
 | zero =>
  intro l h hn;have h0:l.length≠0:=fun e=>hn (List.eq_nil_of_length_eq_zero e);have hl:=jb1 h
  exact⟨by show 1+2<=_;omega,fun h2=>by omega⟩
 | succ f ih =>
  intro l h hn;have h0:l.length≠0:=fun e=>hn (List.eq_nil_of_length_eq_zero e)
  by_cases h1:l.length=1
  ·have e:cntT (f+1) l=1:=by unfold cntT;rw[if_pos vO]
   exact⟨by omega,fun h2=>by omega⟩
  have h2:2<=l.length:=by omega
  have hcom:=jbu h h2
  by_cases hk:0 < comK l
  ·have hok:jaA f (jal (comK l) l):=(jcv (comK l) h (fun p hp q hq=>(hcom p hp).1.trans (hcom q hq).1.symm) (fun p hp=>(hcom p hp).2)).mono vO
   have hne:jal (comK l) l≠[]:=fun e=>by have:=jaH (comK l) l;rw[e]at this;simp at this;omega
   have hlen:=(ih _ hok hne).two (by rw[jaH];omega) (jfU vO);rw[jaH]at hlen;have e:cntT (f+1) l=1+cntT f (jal (comK l) l):=by rw[cntT,if_neg vO,if_pos hk]
   exact⟨by omega,fun _ hz=>by omega⟩
  ·have hkid:∀ i,(cutL i l).length≠0->jal 1 (cutL i l)≠[]:=fun i hi e=>by have:=jaH 1 (cutL i l);rw[e]at this;simp at this;omega
   obtain⟨a,ha⟩:∃ a,l[0]?=some a:=⟨_,List.getElem?_eq_getElem vO⟩
   obtain⟨b,hb⟩:∃ b,l[l.length - 1]?=some b:=⟨_,List.getElem?_eq_getElem vO⟩
   have ga:l.getD 0 pd=a:=by rw[List.getD_eq_getElem?_getD,ha];rfl
   have gb:l.getD (l.length - 1) pd=b:=by rw[List.getD_eq_getElem?_getD,hb];rfl
   have ham:=List.mem_of_getElem? ha;have hbm:=List.mem_of_getElem? hb;have hlt:=jb0 h.rise vO ha hb
   obtain⟨g,hgd⟩:=vE (fun i=>if (cutL i l).length=0 then 0 else cntT f (jal 1 (cutL i l)))
   have e:cntT (f+1) l=1+sumF g 16:=by rw[cntT,if_neg vO,if_neg hk,hgd]
   have hlen:sumF g 16+4<=3 * l.length:=by
    have hks:=jnT g l (fun i hi=>by rw[hgd];simp only[hi,if_true]) (fun i hi=>by
     have:=(ih _ (jeb i h) (hkid i hi)).all
     rw[jaH]at this;rw[hgd];simp only[if_neg hi];exact this) 16
    have hkc:jaV a.l b.l=0:=by
     have:comK l=jaV a.l b.l:=by unfold comK jak;rw[ga,gb]
     omega
    cases hbl:b.l with
    | nil=>rw[hbl]at hlt;exact absurd hlt (not_lt_nil _)
    | cons y t =>
     have hy:=jcL (h.size b hbm).2.2.1 hbl;have cb:=jfz hbm hbl;cases hal:a.l with
     | nil =>
      have:=jkJ ⟨a,ham,hal⟩ 16
      have:=jh2 cb hy
      omega
     | cons x r =>
      have hx:=jcL (h.size a ham).2.2.1 hal;have ca:=jfz ham hal;have hxy:x≠y:=by
       intro e;rw[hal,hbl,e]at hkc;simp[jaV]at hkc
      have hne:x.toNat≠y.toNat:=fun e=>hxy (UInt8.toNat_inj.1 e)
      have:=jeO l 16
      have:2<=jde l 16:=by
       rcases Nat.lt_or_ge x.toNat y.toNat with e | e
       ·exact jf7 ca cb e hy
       ·exact jf7 cb ca vO hx
      omega
   exact⟨by omega,fun _ _=>by omega⟩
theorem jrC{α:Type}{R:α->α->Prop}(hi:∀ x,¬ R x x)(ht:∀ x y,R x y->¬ R y x):∀ {a b:List α},a.Pairwise R->b.Pairwise R->(∀ x,x∈a↔x∈b)->a=b
 | [],[],_,_,_=>rfl
 | [],y :: b,_,_,h=>absurd ((h y).2 List.mem_cons_self) (by simp)
 | x :: a,[],_,_,h=>absurd ((h x).1 List.mem_cons_self) (by simp)
 | x :: a,y :: b,ha,hb,h=>by
  rw[List.pairwise_cons]at ha hb;have e:x=y:=by
   rcases List.mem_cons.1 ((h x).1 List.mem_cons_self)with e | h1
   ·exact e
   rcases List.mem_cons.1 ((h y).2 List.mem_cons_self)with e | h2
   ·exact e.symm
   exact absurd (ha.1 y h2) (ht _ _ (hb.1 x h1))
  subst e;rw[jrC hi ht ha.2 hb.2 fun z=>?_];constructor
  ·intro hz
   rcases List.mem_cons.1 ((h z).1 (List.mem_cons_of_mem _ hz))with e | h1
   ·subst e;exact absurd (ha.1 z hz) (hi z)
   ·exact h1
  ·intro hz
   rcases List.mem_cons.1 ((h z).2 (List.mem_cons_of_mem _ hz))with e | h1
   ·subst e;exact absurd (hb.1 z hz) (hi z)
   ·exact h1
def jp6(l:List Pair):List Pair:=l.filter fun q=>q.1.size=0
theorem jrM(p:Pair):p.1.size=0↔p.l=[]:=by
 show p.1.data.toList.length=0↔_;exact List.length_eq_zero_iff
theorem jqC(x y:List UInt8)(h:Lt x y):¬ Lt y x:=fun k=>lt_irrefl _ (jd5 _ _ _ h k)
theorem joY{f:Nat}{l:List Pair}(h:jaA f l):l=jp6 l++(List.range 16).flatMap fun i=>cutL i l:=by
 refine jrC (R:=fun p q:Pair=>Lt p.l q.l) (fun x=>lt_irrefl _) (fun x y=>jqC _ _) h.rise ?_ fun p=>?_
 ·rw[List.pairwise_append]
  refine⟨h.rise.filter _,?_,fun p hp q hq=>?_⟩
  ·have:∀ n,((List.range n).flatMap fun i=>cutL i l).Pairwise fun p q:Pair=>Lt p.l q.l:=fun n=>by
    induction n with
    | zero=>simp
    | succ n ih =>
     rw[List.range_succ,List.flatMap_append,List.pairwise_append]
     refine⟨ih,?_,fun p hp q hq=>?_⟩
     ·simpa using (jpY n h).rise
     ·obtain⟨i,hi,hp⟩:=List.mem_flatMap.1 hp
      simp only[List.flatMap_cons,List.flatMap_nil,List.append_nil]at hq
      obtain⟨_,a,r,e1,e2⟩:=jbR hp
      obtain⟨_,b,t,e3,e4⟩:=jbR hq
      rw[e1,e3]
      have:=List.mem_range.1 hi
      exact jbp.2 (.inl (UInt8.lt_iff_toNat_lt.2 vO))
   exact this 16
  ·obtain⟨_,hz⟩:=List.mem_filter.1 hp
   obtain⟨i,_,hq⟩:=List.mem_flatMap.1 hq
   obtain⟨_,b,t,e3,_⟩:=jbR hq
   rw[(jrM p).1 (by simpa using hz),e3];exact jny
 ·rw[List.mem_append]
  constructor
  ·intro hp
   cases hl:p.l with
   | nil=>exact .inl (List.mem_filter.2 ⟨hp,by simpa using (jrM p).2 hl⟩)
   | cons x r =>
    have hx:=jcL (h.size p hp).2.2.1 hl;exact .inr (List.mem_flatMap.2 ⟨x.toNat,List.mem_range.2 hx,jp0 hp hl⟩)
  ·rintro (hp | hp)
   ·exact (List.mem_filter.1 hp).1
   ·obtain⟨i,_,hp⟩:=List.mem_flatMap.1 hp
    exact (jbR hp).1
theorem jos{f:Nat}{l:List Pair}(h:jaA f l)(hn:l≠[]):jp6 l=if (l.getD 0 pd).1.size=0 then [l.getD 0 pd]else []:=by
 cases l with
 | nil=>exact absurd rfl hn
 | cons p r =>
  have hr:∀ q∈r,¬ q.1.size=0:=fun q hq h0=>by
   have:=(List.pairwise_cons.1 h.rise).1 q hq
   rw[(jrM q).1 h0]at this;exact not_lt_nil _ this
  have he:r.filter (fun q:Pair=>q.1.size=0)=[]:=by
   rw[List.filter_eq_nil_iff];intro q hq;simpa using hr q hq
  show (p :: r).filter _=if p.1.size=0 then [p]else []
  rw[List.filter_cons,he]
  by_cases h0:p.1.size=0
  ·rw[if_pos h0,if_pos (by simpa using h0)]
  ·rw[if_neg h0,if_neg (by simpa using h0)]
theorem jdk(a b:vB):(a++b).data.toList=a.data.toList++b.data.toList:=by rw[ByteArray.data_append,Array.toList_append]
theorem jxz{x:UInt8}{i:Nat}(h:x.toNat=i):UInt8.ofNat i=x:=by subst h;exact UInt8.ofNat_toNat
theorem juS{p:vB}{i k:Nat}{q:Pair}{x:UInt8}{r:List UInt8}(h:q.l=x :: r)(hx:x.toNat=i):p++q.1=(p++nib1 i)++q.1.extract 1 q.1.size:=by
 refine jbt ?_;rw[jdk,jdk,jdk,jcR _ _ _ (Nat.le_refl _)];have h:q.1.data.toList=x :: r:=h;rw[h];unfold nib1;rw[jxz hx];simp
theorem juT{p:vB}{k:Nat}{q:Pair}{a:vB}(h:q.l.take k=a.data.toList):p++q.1=(p++a)++q.1.extract k q.1.size:=by
 refine jbt ?_;rw[jdk,jdk,jdk,jcR _ _ _ (Nat.le_refl _), <-h,List.append_assoc];show _++q.l=_++(q.l.take k++q.l.drop k);rw[List.take_append_drop]
def jaY:Nat->List Pair->PA
 | 0,_=>.no
 | f+1,l =>
  if l.length=0 then .no
  else if l.length=1 then .leaf (l.getD 0 pd).1 (l.getD 0 pd).2
  else if 0 < comK l then .ext ((l.getD 0 pd).1.extract 0 (comK l)) (jaY f (jal (comK l) l))
  else .br (if (l.getD 0 pd).1.size=0 then (l.getD 0 pd).2 else ⟨#[]⟩) fun i=>if (cutL i l).length=0 then .nil else jaY f (jal 1 (cutL i l))
theorem jd7(f:Nat)(l:List Pair):jaY (f+1) l =
  if l.length=0 then .no
  else if l.length=1 then .leaf (l.getD 0 pd).1 (l.getD 0 pd).2
  else if 0 < comK l then .ext ((l.getD 0 pd).1.extract 0 (comK l)) (jaY f (jal (comK l) l))
  else .br (if (l.getD 0 pd).1.size=0 then (l.getD 0 pd).2 else ⟨#[]⟩) fun i=>if (cutL i l).length=0 then .nil else jaY f (jal 1 (cutL i l)):=rfl
theorem jbN(f:Nat){l:List Pair}(h:l.length=0):jaY (f+1) l=.no:=by rw[jd7];rw[if_pos h]
theorem jbT(f:Nat){l:List Pair}(h:l.length=1):jaY (f+1) l=.leaf (l.getD 0 pd).1 (l.getD 0 pd).2:=by rw[jd7];rw[if_neg vO,if_pos h]
theorem jdi(f:Nat){l:List Pair}(h:2<=l.length)(hk:0 < comK l):jaY (f+1) l=.ext ((l.getD 0 pd).1.extract 0 (comK l)) (jaY f (jal (comK l) l)):=by
 rw[jd7];rw[if_neg vO,if_neg vO,if_pos hk]
theorem jev(f:Nat){l:List Pair}(h:2<=l.length)(hk:¬ 0 < comK l):jaY (f+1) l=.br (if (l.getD 0 pd).1.size=0 then (l.getD 0 pd).2 else ⟨#[]⟩) fun i=>if (cutL i l).length=0 then .nil else jaY f (jal 1 (cutL i l)):=by
 rw[jd7];rw[if_neg vO,if_neg vO,if_neg hk]
theorem jw8{f:Nat}{l:List Pair}(h:jaA f l){i:Nat}(hi:(cutL i l).length≠0):i < 16:=by
 cases e:cutL i l with
 | nil=>rw[e]at hi;exact (hi rfl).elim
 | cons p r =>
  obtain⟨hp,a,t,h1,h2⟩:=jbR (show p∈cutL i l by rw[e];exact List.mem_cons_self)
  rw[<-h2];exact jcL (h.size p hp).2.2.1 h1
theorem jjU:∀ (f:Nat) (l:List Pair),jaA f l->∀ p:vB,jat p=true->getL (jaY (f+1) l) p.data.toList=valL l p:=by
 intro f;induction f with
 | zero =>
  intro l h p hp;have hl:=jb1 h
  by_cases h0:l.length=0
  ·rw[jbN _ h0,List.eq_nil_of_length_eq_zero h0];rfl
  ·have h1:l.length=1:=by omega
   rw[jbT _ h1]
   obtain⟨q,rfl⟩:=List.length_eq_one_iff.1 h1
   show (if q.1.data.toList=p.data.toList then some q.2 else none)=if q.1=p then some q.2 else valL [] p
   by_cases e:q.1=p
   ·rw[if_pos e,if_pos (by rw[e])]
   ·rw[if_neg e,if_neg (fun h=>e (jbt h))];rfl
 | succ f ih =>
  intro l h p hp
  by_cases h0:l.length=0
  ·rw[jbN _ h0,List.eq_nil_of_length_eq_zero h0];rfl
  by_cases h1:l.length=1
  ·rw[jbT _ h1]
   obtain⟨q,rfl⟩:=List.length_eq_one_iff.1 h1
   show (if q.1.data.toList=p.data.toList then some q.2 else none)=if q.1=p then some q.2 else valL [] p
   by_cases e:q.1=p
   ·rw[if_pos e,if_pos (by rw[e])]
   ·rw[if_neg e,if_neg (fun h=>e (jbt h))];rfl
  have h2:2<=l.length:=by omega
  have hhs:=jc5 h h2
  by_cases hk:0 < comK l
  ·rw[jdi _ h2 hk]
   show (if ((l.getD 0 pd).1.extract 0 (comK l)).data.toList.isPrefixOf p.data.toList=true then getL (jaY (f+1) (jal (comK l) l)) (p.data.toList.drop _)else none)=_;rw[jaC,hhs]
   by_cases hb:preB ((l.getD 0 pd).1.extract 0 (comK l)) p=true
   ·have hg:goL l p=some (jal (comK l) l,p.extract (comK l) p.size):=by unfold goL;rw[if_neg vO,if_pos hk,if_pos hb]
    have hK:=jgC h hp hg;have hb':((l.getD 0 pd).1.extract 0 (comK l)).data.toList.isPrefixOf p.data.toList=true:=hb;rw[if_pos hb', <-jdv,ih _ hK.rows _ hK.valid,hK.find]
   ·have hg:goL l p=none:=by unfold goL;rw[if_neg vO,if_pos hk,if_neg hb]
    have hK:=(jhO h hp hg).2;have hb':¬((l.getD 0 pd).1.extract 0 (comK l)).data.toList.isPrefixOf p.data.toList=true:=hb;rw[if_neg hb', <-hK];have e:jav (jac (f+1)) l=⟨2,(l.getD 0 pd).1.extract 0 (comK l),⟨#[]⟩,refB (jac (f+1) (jal (comK l) l)).text :: jam 15⟩:=by unfold jav;rw[if_neg h0,if_neg h1,if_pos hk]
    rw[e];rfl
  ·rw[jev _ h2 hk]
   cases hpl:p.data.toList with
   | nil =>
    have hg:goL l p=none:=by unfold goL;rw[if_neg vO,if_neg hk,hpl]
    have hK:=(jhO h hp hg).2;rw[<-hK]
    obtain⟨rs,hrs⟩:=vE ((List.range 16).map fun i=>if (cutL i l).length=0 then (⟨#[]⟩:vB)else refB (jac (f+1) (jal 1 (cutL i l))).text)
    have e:jav (jac (f+1)) l=⟨3,⟨#[]⟩,if (l.getD 0 pd).1.size=0 then (l.getD 0 pd).2 else ⟨#[]⟩,rs⟩:=by rw[hrs];unfold jav;rw[if_neg h0,if_neg h1,if_neg hk]
    rw[e];have hps:p.size=0:=by rw[<-jaC p,hpl];rfl
    obtain⟨va,hva⟩:=vE (if (l.getD 0 pd).1.size=0 then (l.getD 0 pd).2 else ⟨#[]⟩)
    rw[<-hva];show (if va.size=0 then none else some va)=if (3:Nat)=1 then _ else if (3:Nat)=3 then (if p.size=0/\va.size≠0 then some va else none)else none
    rw[if_neg (by decide:¬(3:Nat)=1),if_pos rfl]
    by_cases hz:va.size=0
    ·rw[if_pos hz,if_neg (fun h=>h.2 hz)]
    ·rw[if_neg hz,if_pos ⟨hps,hz⟩]
   | cons x t =>
    show getL (if (cutL x.toNat l).length=0 then .nil else jaY (f+1) (jal 1 (cutL x.toNat l))) t=_
    by_cases hc:(cutL x.toNat l).length=0
    ·rw[if_pos hc]
     refine (jgf fun q hq e=>?_).symm;exact jfz hq (p:=q) (by show q.1.data.toList=x :: t;rw[e,hpl]) hc
    ·rw[if_neg hc]
     have hg:goL l p=some (jal 1 (cutL x.toNat l),p.extract 1 p.size):=by
      unfold goL;rw[if_neg vO,if_neg hk,hpl];show (if (cutL x.toNat l).length=0 then _ else _)=_;rw[if_neg hc]
     have hK:=jgC h hp hg;have e:t=(p.extract 1 p.size).data.toList:=by rw[jdv,hpl];rfl
     rw[e,ih _ hK.rows _ hK.valid,hK.find]
theorem jf2{f:Nat}{l:List Pair}(h:jaA (f+1) l){i:Nat}(hc:(cutL i l).length≠0):jaA f (jal 1 (cutL i l))/\jal 1 (cutL i l)≠[]:=
 ⟨jeb i h,fun e=>by have:=jaH 1 (cutL i l);rw[e]at this;simp at this;exact hc this.symm⟩
theorem jfE{f:Nat}{l:List Pair}(h:jaA (f+1) l)(h2:2<=l.length)(hk:0 < comK l):jaA f (jal (comK l) l)/\jal (comK l) l≠[]/\2<=(jal (comK l) l).length/\comK (jal (comK l) l)=0:=by
 have hcom:=jbu h h2
 exact⟨(jcv (comK l) h (fun p hp q hq=>(hcom p hp).1.trans (hcom q hq).1.symm) (fun p hp=>(hcom p hp).2)).mono vO,
  fun e=>by have:=jaH (comK l) l;rw[e]at this;simp at this;omega,by rw[jaH];exact h2,jfU vO⟩
theorem jnB:∀ (f:Nat) (l:List Pair),jaA f l->l≠[]->CanP (jaY (f+1) l)/\(2<=l.length->comK l=0->(jaY (f+1) l).isBr=true):=by
 intro f;induction f with
 | zero =>
  intro l h hn;have hl:=jb1 h;have h1:l.length=1:=by have:=List.length_pos_iff.2 hn;omega
  have hs:=h.size _ (jdH (l:=l) vO);rw[jbT _ h1]
  exact⟨⟨hs.2.2.1,by omega⟩,fun h2=>by omega⟩
 | succ f ih =>
  intro l h hn;have hpos:=List.length_pos_iff.2 hn
  by_cases h1:l.length=1
  ·have hs:=h.size _ (jdH (l:=l) vO)
   rw[jbT _ h1]
   exact⟨⟨hs.2.2.1,by omega⟩,fun h2=>by omega⟩
  have h2:2<=l.length:=by omega
  have hs:=h.size _ (jdH (l:=l) vO)
  by_cases hk:0 < comK l
  ·obtain⟨k1,k2,k3,k4⟩:=jfE h h2 hk
   obtain⟨i1,i2⟩:=ih _ k1 k2
   rw[jdi _ h2 hk]
   exact⟨⟨by rw[jc5 h h2];omega,jgQ hs.2.2.1 _,i2 k3 k4,i1⟩,fun _ e=>by omega⟩
  ·rw[jev _ h2 hk]
   refine⟨⟨fun i hi=>?_,fun i hi=>?_,?_⟩,fun _ _=>rfl⟩
   ·by_cases hc:(cutL i l).length=0
    ·have hi:(if (cutL i l).length=0 then PA.nil else jaY (f+1) (jal 1 (cutL i l))).isNil=false:=hi
     rw[if_pos hc]at hi;cases hi
    ·exact jw8 h hc
   ·have hi:(if (cutL i l).length=0 then PA.nil else jaY (f+1) (jal 1 (cutL i l))).isNil=false:=hi
    show CanP (if (cutL i l).length=0 then PA.nil else jaY (f+1) (jal 1 (cutL i l)))
    by_cases hc:(cutL i l).length=0
    ·rw[if_pos hc]at hi;cases hi
    ·rw[if_neg hc]
     obtain⟨k1,k2⟩:=jf2 h hc
     exact (ih _ k1 k2).1
   ·obtain⟨a,ha⟩:∃ a,l[0]?=some a:=⟨_,List.getElem?_eq_getElem vO⟩
    obtain⟨b,hb⟩:∃ b,l[l.length - 1]?=some b:=⟨_,List.getElem?_eq_getElem vO⟩
    have ga:l.getD 0 pd=a:=by rw[List.getD_eq_getElem?_getD,ha];rfl
    have gb:l.getD (l.length - 1) pd=b:=by rw[List.getD_eq_getElem?_getD,hb];rfl
    have hlt:=jb0 h.rise vO ha hb;have hcom:jaV a.l b.l=0:=by
     have:comK l=0:=by omega
     unfold comK at this;rw[ga,gb]at this;exact this
    have kid:∀ p∈l,∀ x t,p.l=x :: t->(if (cutL x.toNat l).length=0 then PA.nil else jaY (f+1) (jal 1 (cutL x.toNat l))).isNil=false:=by
     intro p hp x t hx;have hc:=jfz hp hx;rw[if_neg hc]
     obtain⟨k1,k2⟩:=jf2 h hc
     exact jl6 (ih _ k1 k2).1
    cases hbl:b.l with
    | nil=>rw[hbl]at hlt;exact absurd hlt (not_lt_nil _)
    | cons y s =>
     have kb:=kid b (List.mem_of_getElem? hb) y s hbl;cases hal:a.l with
     | nil =>
      right;rw[ga];have h0:a.1.size=0:=by rw[<-jaC];show a.l.length=0;rw[hal];rfl
      rw[if_pos h0]
      have:=(h.size a (List.mem_of_getElem? ha)).2.2.2.1
      exact⟨by omega,y.toNat,kb⟩
     | cons x t =>
      left
      refine⟨x.toNat,y.toNat,fun e=>?_,kid a (List.mem_of_getElem? ha) x t hal,kb⟩
      have e:=UInt8.toNat_inj.1 e;rw[hal,hbl,e]at hcom;simp[jaV]at hcom
theorem jeQ:∀ (P:PA),CanP P->∀ (p:List UInt8) (v:vB),getL P p=some v->∀ x∈p,x.toNat < 16
 | .nil,h,_,_,_=>h.elim
 | .no,h,_,_,_=>h.elim
 | .leaf a v,h,p,u,e=>by
  obtain⟨rfl,_⟩:=jcX e
  exact jce.1 h.1
 | .ext a n,h,p,u,e=>by
  obtain⟨r,rfl⟩:=jeq e
  rw[jhI]at e;intro x hx;rcases List.mem_append.1 hx with hx | hx
  ·exact jce.1 h.2.1 x hx
  ·exact jeQ n h.2.2.2 r u e x hx
 | .br v ks,h,[],u,e=>fun x hx=>by cases hx
 | .br v ks,h,y :: t,u,e=>by
  have e:getL (ks y.toNat) t=some u:=e;have hn:(ks y.toNat).isNil=false:=by
   cases hb:(ks y.toNat).isNil with
   | false=>rfl
   | true=>rw[jbo hb]at e;cases e
  intro x hx;rcases List.mem_cons.1 hx with rfl | hx
  ·exact h.1 _ hn
  ·exact jeQ (ks y.toNat) (h.2.1 _ hn) t u e x hx
theorem jrf{f:Nat}{l:List Pair}(h:jaA f l){P:PA}(hP:P=.no\/CanP P)(hg:∀ p:vB,jat p=true->getL P p.data.toList=valL l p):P=jaY (f+1) l:=by
 by_cases h0:l.length=0
 ·rw[jbN _ h0]
  rcases hP with e | hc
  ·exact e
  ·exfalso
   obtain⟨p,v,e⟩:=jeo P hc
   have hv:=jeQ P hc p v e
   have:=hg ⟨p.toArray⟩ (jce.2 (by simpa using hv))
   rw[List.eq_nil_of_length_eq_zero h0]at this;have e2:getL P (⟨p.toArray⟩:vB).data.toList=some v:=by simpa using e
   rw[e2]at this;cases this
 ·have hn:l≠[]:=fun e=>h0 (by rw[e];rfl)
  obtain⟨hc,_⟩:=jnB f l h hn
  rcases hP with rfl | hP
  ·exfalso
   obtain⟨p,v,e⟩:=jeo _ hc
   have hv:=jeQ _ hc p v e;have h1:=jjU f l h ⟨p.toArray⟩ (jce.2 (by simpa using hv));have e2:getL (jaY (f+1) l) (⟨p.toArray⟩:vB).data.toList=some v:=by simpa using e
   have h2:=hg ⟨p.toArray⟩ (jce.2 (by simpa using hv));rw[e2]at h1;rw[<-h1]at h2;cases h2
  ·refine uniq P _ hP hc fun p=>?_
   by_cases hv:∀ x∈p,x.toNat < 16
   ·have h1:=jjU f l h ⟨p.toArray⟩ (jce.2 (by simpa using hv))
    have h2:=hg ⟨p.toArray⟩ (jce.2 (by simpa using hv));have e:(⟨p.toArray⟩:vB).data.toList=p:=by simp
    rw[e]at h1 h2;rw[h1,h2]
   ·have g:∀ Q:PA,CanP Q->getL Q p=none:=by
     intro Q hQ;cases e:getL Q p with
     | none=>rfl
     | some v=>exact absurd (jeQ Q hQ p v e) hv
    rw[g P hP,g _ hc]
noncomputable def putN(n:jad):vB:=@ite _ (∃ d,jbx (InlD d) n) (Classical.propDecidable _) (jaN n) ⟨#[]⟩
theorem jlk{d:Nat}{n:jad}(h:jbx (InlD d) n):putN n=jaN n:=if_pos ⟨d,h⟩
noncomputable def textP:PA->vB
 | .nil=>⟨#[]⟩
 | .no=>putN jar
 | .leaf q v=>putN ⟨1,q,v,jam 16⟩
 | .ext q n=>putN ⟨2,q,⟨#[]⟩,refB (textP n) :: jam 15⟩
 | .br v ks=>putN ⟨3,⟨#[]⟩,v,(List.range 16).map fun i=>if (ks i).isNil then ⟨#[]⟩else refB (textP (ks i))⟩
noncomputable def nodeP:PA->jad
 | .nil=>jar
 | .no=>jar
 | .leaf q v=>⟨1,q,v,jam 16⟩
 | .ext q n=>⟨2,q,⟨#[]⟩,refB (textP n) :: jam 15⟩
 | .br v ks=>⟨3,⟨#[]⟩,v,(List.range 16).map fun i=>if (ks i).isNil then ⟨#[]⟩else refB (textP (ks i))⟩
noncomputable def underP:PA->List vB
 | .nil=>[]
 | .no=>[]
 | .leaf _ _=>[]
 | .ext _ n=>bigs (textP n)++underP n
 | .br _ ks=>(List.range 16).flatMap fun i=>if (ks i).isNil then []else bigs (textP (ks i))++underP (ks i)
theorem jlJ{P:PA}(h:P.isNil=false):textP P=putN (nodeP P):=by cases P <;> first | rfl | cases h
theorem jdo{f:Nat}{l:List Pair}:(jaY (f+1) l).isNil=false:=by
 rw[jd7];split
 ·rfl
 ·split
  ·rfl
  ·split <;> rfl
theorem jgA{α:Type}(g:α->List PT):∀ L:List α,jaM (L.flatMap g)=L.flatMap fun i=>jaM (g i)
 | []=>rfl
 | x :: L=>by rw[List.flatMap_cons,jdg,jgA g L];rfl
theorem jfi:∀ (f:Nat) (l:List Pair),jaA f l->nodeP (jaY (f+1) l)=jav (jac f) l/\textP (jaY (f+1) l)=(jac (f+1) l).text/\underP (jaY (f+1) l)=jaM (jaB (jac f) l):=by
 intro f;have fin:∀ (f:Nat) (l:List Pair),jaA f l->nodeP (jaY (f+1) l)=jav (jac f) l->textP (jaY (f+1) l)=(jac (f+1) l).text:=by
  intro f l hr h;rw[jlJ jdo,h,jlk (good f l hr).1];rfl
 induction f with
 | zero =>
  intro l h;have hl:=jb1 h
  by_cases h0:l.length=0
  ·have e:nodeP (jaY (0+1) l)=jav (jac 0) l:=by rw[jbN _ h0];unfold jav;rw[if_pos h0];rfl
   exact⟨e,fin 0 l h e,by rw[jbN _ h0];unfold jaB;rw[if_pos vO];rfl⟩
  ·have h1:l.length=1:=by omega
   have e:nodeP (jaY (0+1) l)=jav (jac 0) l:=by rw[jbT _ h1];unfold jav;rw[if_neg h0,if_pos h1];rfl
   exact⟨e,fin 0 l h e,by rw[jbT _ h1];unfold jaB;rw[if_pos vO];rfl⟩
 | succ f ih =>
  intro l h;have kid:∀ m,jaA f m->m≠[]->bigs (textP (jaY (f+1) m))++underP (jaY (f+1) m)=jaM (jbP (jac (f+1) m)):=by
   intro m hm hne
   obtain⟨_,i2,i3⟩:=ih m hm
   have hst:=(good f m hm).2.1 hne;rw[i2,i3];unfold bigs jbP
   by_cases hz:(jac (f+1) m).text.size < 32
   ·rw[if_pos hz,if_pos hz]
    have e:(jac (f+1) m).kids=[]:=hst.small hz;have e:jaB (jac f) m=[]:=e;rw[e];rfl
   ·rw[if_neg hz,if_neg hz]
    show _=jaF (jac (f+1) m)++[];rw[List.append_nil];rfl
  by_cases h0:l.length=0
  ·have e:nodeP (jaY (f+1+1) l)=jav (jac (f+1)) l:=by rw[jbN _ h0];unfold jav;rw[if_pos h0];rfl
   exact⟨e,fin _ l h e,by rw[jbN _ h0];unfold jaB;rw[if_pos vO];rfl⟩
  by_cases h1:l.length=1
  ·have e:nodeP (jaY (f+1+1) l)=jav (jac (f+1)) l:=by rw[jbT _ h1];unfold jav;rw[if_neg h0,if_pos h1];rfl
   exact⟨e,fin _ l h e,by rw[jbT _ h1];unfold jaB;rw[if_pos vO];rfl⟩
  have h2:2<=l.length:=by omega
  by_cases hk:0 < comK l
  ·obtain⟨k1,k2,_,_⟩:=jfE h h2 hk
   have e:nodeP (jaY (f+1+1) l)=jav (jac (f+1)) l:=by
    rw[jdi _ h2 hk];unfold jav;rw[if_neg h0,if_neg h1,if_pos hk];show (⟨2,_,⟨#[]⟩,refB (textP (jaY (f+1) (jal (comK l) l))) :: jam 15⟩:jad)=_;rw[(ih _ k1).2.1]
   refine⟨e,fin _ l h e,?_⟩
   rw[jdi _ h2 hk];unfold jaB;rw[if_neg vO,if_pos hk];exact kid _ k1 k2
  ·have e:nodeP (jaY (f+1+1) l)=jav (jac (f+1)) l:=by
    rw[jev _ h2 hk];unfold jav;rw[if_neg h0,if_neg h1,if_neg hk];show (⟨3,⟨#[]⟩,_,(List.range 16).map _⟩:jad)=⟨3,⟨#[]⟩,_,(List.range 16).map _⟩
    congr 1
    refine List.map_congr_left fun i _=>?_;show (if (if (cutL i l).length=0 then PA.nil else jaY (f+1) (jal 1 (cutL i l))).isNil=true then _ else refB (textP (if (cutL i l).length=0 then PA.nil else jaY (f+1) (jal 1 (cutL i l)))))=_
    by_cases hc:(cutL i l).length=0
    ·rw[if_pos hc,if_pos hc];rfl
    ·obtain⟨k1,k2⟩:=jf2 h hc
     rw[if_neg hc,if_neg hc,jdo,if_neg ff,(ih _ k1).2.1]
   refine⟨e,fin _ l h e,?_⟩
   have eB:jaB (jac (f+1)) l=(List.range 16).flatMap fun i=>if (cutL i l).length=0 then []else jbP (jac (f+1) (jal 1 (cutL i l))):=by unfold jaB;rw[if_neg vO,if_neg hk]
   rw[jev _ h2 hk,eB,jgA];show (List.range 16).flatMap _=_
   congr 1
   funext i
   show (if (if (cutL i l).length=0 then PA.nil else jaY (f+1) (jal 1 (cutL i l))).isNil=true then _ else bigs (textP (if (cutL i l).length=0 then PA.nil else jaY (f+1) (jal 1 (cutL i l))))++underP (if (cutL i l).length=0 then PA.nil else jaY (f+1) (jal 1 (cutL i l))))=_
   by_cases hc:(cutL i l).length=0
   ·rw[if_pos hc,if_pos hc];rfl
   ·obtain⟨k1,k2⟩:=jf2 h hc
    rw[if_neg hc,if_neg hc,jdo,if_neg ff];exact kid _ k1 k2
def keyR(p v:vB):List Pair:=if jd3 p=true then [(jbr p,v)]else []
def entP:PA->vB->List Pair
 | .nil,_=>[]
 | .no,_=>[]
 | .leaf q v,p=>keyR (p++q) v
 | .ext q n,p=>entP n (p++q)
 | .br v ks,p=>(if v.size=0 then []else keyR p v)++(List.range 16).flatMap fun i=>if (ks i).isNil then []else entP (ks i) (p++nib1 i)
theorem jkM(p a:vB)(k:Nat)(l:List Pair)(h:∀ q∈l,p++q.1=(p++a)++q.1.extract k q.1.size):(jal k l).map (fun q=>(jbr ((p++a)++q.1),q.2))=l.map fun q=>(jbr (p++q.1),q.2):=by
 unfold jal;rw[List.map_map];refine List.map_congr_left fun q hq=>?_;show (jbr ((p++a)++q.1.extract k q.1.size),q.2)=_;rw[<-h q hq]
theorem jrd:∀ (f:Nat) (l:List Pair),jaA f l->∀ p:vB,(∀ q∈l,jd3 (p++q.1)=true)->entP (jaY (f+1) l) p=l.map fun q=>(jbr (p++q.1),q.2):=by
 intro f;induction f with
 | zero =>
  intro l h p hp;have hl:=jb1 h
  by_cases h0:l.length=0
  ·rw[jbN _ h0,List.eq_nil_of_length_eq_zero h0];rfl
  ·have h1:l.length=1:=by omega
   rw[jbT _ h1]
   obtain⟨q,rfl⟩:=List.length_eq_one_iff.1 h1
   show keyR (p++q.1) q.2=[(jbr (p++q.1),q.2)];unfold keyR;rw[if_pos (hp q List.mem_cons_self)]
 | succ f ih =>
  intro l h p hp
  by_cases h0:l.length=0
  ·rw[jbN _ h0,List.eq_nil_of_length_eq_zero h0];rfl
  by_cases h1:l.length=1
  ·rw[jbT _ h1]
   obtain⟨q,rfl⟩:=List.length_eq_one_iff.1 h1
   show keyR (p++q.1) q.2=[(jbr (p++q.1),q.2)];unfold keyR;rw[if_pos (hp q List.mem_cons_self)]
  have h2:2<=l.length:=by omega
  by_cases hk:0 < comK l
  ·obtain⟨k1,k2,_,_⟩:=jfE h h2 hk
   have hcom:=jbu h h2;rw[jdi _ h2 hk];show entP (jaY (f+1) (jal (comK l) l)) (p++(l.getD 0 pd).1.extract 0 (comK l))=_;have hap:∀ q∈l,p++q.1=(p++(l.getD 0 pd).1.extract 0 (comK l))++q.1.extract (comK l) q.1.size:=fun q hq=>juT (by rw[(hcom q hq).1,jhS]);rw[ih _ k1 _ (fun q hq=>?_),jkM p _ _ l hap]
   obtain⟨r,hr,rfl⟩:=List.mem_map.1 hq
   show jd3 ((p++(l.getD 0 pd).1.extract 0 (comK l))++r.1.extract (comK l) r.1.size)=true;rw[<-hap r hr];exact hp r hr
  ·rw[jev _ h2 hk]
   have hne:l≠[]:=fun e=>h0 (by rw[e];rfl);have hsp:=joY h;have hem:=jos h hne;have e1:(if (if (l.getD 0 pd).1.size=0 then (l.getD 0 pd).2 else ⟨#[]⟩:vB).size=0 then []else keyR p (if (l.getD 0 pd).1.size=0 then (l.getD 0 pd).2 else ⟨#[]⟩))=(jp6 l).map fun q=>(jbr (p++q.1),q.2):=by
    rw[hem]
    by_cases hz:(l.getD 0 pd).1.size=0
    ·have hm:=jdH (l:=l) vO
     have hs:=h.size _ hm;rw[if_pos hz,if_pos hz,if_neg vO];have e0:p++(l.getD 0 pd).1=p:=by rw[jbh hz];exact jbt (by rw[jkv];simp)
     show keyR p _=[(jbr (p++(l.getD 0 pd).1),(l.getD 0 pd).2)];have hkk:=hp _ hm;rw[e0]at hkk ⊢;unfold keyR;rw[if_pos hkk]
    ·rw[if_neg hz,if_neg hz];rfl
   show (if (if (l.getD 0 pd).1.size=0 then (l.getD 0 pd).2 else ⟨#[]⟩:vB).size=0 then []else keyR p (if (l.getD 0 pd).1.size=0 then (l.getD 0 pd).2 else ⟨#[]⟩))++(List.range 16).flatMap _=l.map _;rw[e1]
   conv=>rhs;rw[hsp]
   rw[List.map_append,List.map_flatMap]
   congr 1
   congr 1
   funext i
   show (if (if (cutL i l).length=0 then PA.nil else jaY (f+1) (jal 1 (cutL i l))).isNil=true then []else entP (if (cutL i l).length=0 then PA.nil else jaY (f+1) (jal 1 (cutL i l))) (p++nib1 i))=_
   by_cases hc:(cutL i l).length=0
   ·rw[if_pos hc,List.eq_nil_of_length_eq_zero hc];rfl
   ·obtain⟨k1,k2⟩:=jf2 h hc
    rw[if_neg hc,jdo,if_neg ff];have hap:∀ q∈cutL i l,p++q.1=(p++nib1 i)++q.1.extract 1 q.1.size:=fun q hq=>by
     obtain⟨_,a,r,e,ha⟩:=jbR hq
     exact juS (k:=0) e ha
    rw[ih _ k1 _ (fun q hq=>?_),jkM p _ _ _ hap]
    obtain⟨r,hr,rfl⟩:=List.mem_map.1 hq
    show jd3 ((p++nib1 i)++r.1.extract 1 r.1.size)=true;rw[<-hap r hr];exact hp r (jbR hr).1
theorem jx0(w:World)(v:Value)(l:List Pair)(hc:jb2 w)(hv:RdP w v l)(h:jaG l=0):vR 45 #[v] w (.tuple #[.string (jaL l).text,.int .i64 0]):=by
 have hm:=jaP h
 obtain⟨a,c,rfl⟩:=hv.sl;have HV:=Hd hv;have HM:=Hd hm;have HC:=Hd hc;have H:=Hd h;have HL:=Hd hm.len;clear hv hm hc h;go_enter Tryz.func45,Tryz.ntmps45;go_wp2_with fail
 refine vC (jgs w _ l HV.o (by have:=HL.o;omega) (fun p hp=>by have:=HM.o.size p hp;omega)) fun w1 hE=>?_;rw[H.o];have HE:=Hd hE;clear hE;go_wp2_with fail
 refine (juu w1 _ l (HV.o.ext HE.o) (by have:=HL.o;omega) (fun p hp=>by have:=HM.o.size p hp;omega)).mono ?_;rintro e w2 ⟨u,rfl,hr⟩;have HR:=Hd hr.rd;have HX:=Hd (HE.o.trans hr.ext);clear hr
 obtain⟨a2,c2,hu⟩:=HR.o.sl
 subst hu;go_wp2_with fail
 refine (jjl 12 (jaO l) (jbA HM.o) (by unfold jaO;rw[List.length_map];have:=HL.o;omega) w2 _ (HC.o.ext HX.o) HR.o).mono ?_;rintro e w3 ⟨k,rfl,hk,hE⟩
 obtain⟨hkA,vk,bk,hkB,_⟩:=hk.open
 have q0:w3.cell? ⟨k,0,none⟩=some (.string (jac 13 (jaO l)).text):=hkB.cell vF;have HE3:=Hd (HX.o.trans hE);clear hk hkB hE;unfold ptrV;go_wp2_with fail
 go_ret2
 exact⟨rfl,HE3.o⟩
theorem jmE(w:World)(v:Value)(l:List Pair)(hc:jb2 w)(hv:RdP w v l)(h:jaG l=0):vR 46 #[v] w (.tuple #[.string (shaB (jaL l).text),.int .i64 0]):=by
 have hT:=jx0 w v l hc hv h
 obtain⟨a,c,rfl⟩:=hv.sl
 obtain⟨t,ht⟩:=vE (jaL l).text
 rw[<-ht]at hT ⊢;have HT:=Hd hT;have HC:=Hd hc;clear hT hc hv ht h;go_enter Tryz.func46,Tryz.ntmps46;go_wp2_with fail
 refine HT.o.mono ?_;rintro e w1 ⟨rfl,hE⟩;have HE:=Hd hE;clear hE;go_wp2_with fail
 refine vC (of_t _ _ [t] (by simp) (jdb w1 [t] 9) (HC.o.ext (HE.o.alloc _))) fun w2 hE=>?_;rw[jdE];have HE2:=Hd ((HE.o.alloc _).trans hE);clear hE;go_wp2_with fail
 go_ret2
 exact⟨rfl,HE2.o⟩
def joC(k:vB)(l:List Pair):Option Nat:=l.findIdx? fun p=>p.1.toList == k.toList
def jqb(l:List Pair)(k:vB):Option vB:=(joC k l).map fun i=>(l.getD i pd).2
theorem jxf(d:Nat)(a b:vB)(w:World):(Op.equalIn (d+1) 9 (.string a) (.string b)).run Tryz.prog w=.ok (a == b) w:=by
 simp[Op.equalIn,Sem.run_bind,run_underlying Tryz.uStr,Result.andThen,Sem.run_pure]
def jmh(d:Option TypeDesc)(l:List (Bool × TypeId × Nat)):Bool:=match d with | some (.struct fs)=>fs.toList.map (fun f=>(f.name == "_",f.type,f.offset)) == l | _=>false
theorem jvg{d:Option TypeDesc}(h:jmh d [(false,9,0),(false,9,1)]=true):∃ f g:Field,d=some (.struct #[f,g])/\f.name ≠ "_"/\f.type=9/\f.offset=0/\g.name ≠ "_"/\g.type=9/\g.offset=1:=by
 cases d with
 | none=>cases h
 | some d =>
  cases d <;> try (cases h;done)
  rename_i fs
  obtain⟨l⟩:=fs
  rcases l with _ |⟨f,_ |⟨g,_ |⟨e,r⟩⟩⟩ <;> simp[jmh]at h
  obtain⟨⟨h1,h2,h3⟩,h4,h5,h6⟩:=h
  exact⟨f,g,rfl,h1,h2,h3,h4,h5,h6⟩
theorem Tryz.entFields:jmh (Tryz.prog.underlying 95) [(false,9,0),(false,9,1)]=true:=by kernel_rfl
theorem Tryz.entHeld:Tryz.prog.stoodInHeld 95=false:=by kernel_rfl
theorem jtm(x y x' y':vB)(w:World):(binOp .neq 95 (.agg #[.string x,.string y]) (.agg #[.string x',.string y'])).run Tryz.prog w=.ok (.bool (!(x == x' && y == y'))) w:=by
 obtain⟨f,g,h0,h1,h2,h3,h4,h5,h6⟩:=jvg Tryz.entFields
 have hp1:∀ (u v:Value) w,(part 9 #[u,v] 0).run Tryz.prog w=.ok u w:=fun u v w=>by
  simp[part,Sem.run_bind,Tryz.strAgg,Result.andThen,Sem.run_pure]
 have hp2:∀ (u v:Value) w,(part 9 #[u,v] 1).run Tryz.prog w=.ok v w:=fun u v w=>by
  simp[part,Sem.run_bind,Tryz.strAgg,Result.andThen,Sem.run_pure]
 have he:∀ d,(Op.equalIn (d+2) 95 (.agg #[.string x,.string y]) (.agg #[.string x',.string y'])).run Tryz.prog w=.ok (x == x' && y == y') w:=fun d=>by
  rw[Op.equalIn];simp only[Sem.run_bind,run_underlying h0,Result.andThen];simp[Sem.run_bind,Result.andThen,Sem.run,Tryz.entHeld,h1,h2,h3,h4,h5,h6,hp1,hp2,jxf];cases (x == x')with
  | false=>simp[Sem.run_pure]
  | true =>
   simp[Sem.run_bind,Result.andThen,Sem.run,Tryz.entHeld,h1,h2,h3,h4,h5,h6,hp1,hp2,jxf];cases (y == y') <;> simp[Sem.run_pure]
 have he':(Op.equal 95 (.agg #[.string x,.string y]) (.agg #[.string x',.string y'])).run Tryz.prog w=.ok (x == x' && y == y') w:=he 9998;simp only[binOp,Sem.run_bind,he',Result.andThen,Sem.run_pure]
theorem Tryz.isEntry:jhf (Tryz.prog.underlying 95)=true:=by kernel_rfl
theorem Tryz.szEntry:(Tryz.prog.info? 95).map (·.size)=some 2:=by kernel_rfl
theorem jk5{w:World}{b o:Nat}{x y:vB}(h1:w.cell? ⟨b,o,none⟩=some (.string x))(h2:w.cell? ⟨b,o+1,none⟩=some (.string y)):(Instr.loadAt 95 (.pointer (some ⟨b,o,none⟩))).run Tryz.prog w=.ok (.agg #[.string x,.string y]) w:=by
 obtain⟨fs,hu⟩:=jgP Tryz.isEntry
 refine je1 (xs:=[.string x,.string y]) hu Tryz.szEntry (fun j v hv=>?_);rw[Addr.add_lit]
 match j,hv with
 | 0,hv=>simp at hv;subst hv;exact h1
 | 1,hv=>simp at hv;subst hv;exact h2
 | j+2,hv=>simp at hv
def eqP(p q:Pair):Bool:=p.1 == q.1 && p.2 == q.2
theorem jmf(p q:Pair):eqP p q=true↔p=q:=by
 unfold eqP;rw[jeM,jeM];simp only[Bool.and_eq_true,decide_eq_true_eq];constructor
 ·rintro⟨h1,h2⟩
  obtain⟨a,b⟩:=p
  obtain⟨c,d⟩:=q
  exact Prod.ext h1 h2
 ·rintro rfl;exact⟨rfl,rfl⟩
def jg1:List Pair->List Pair->Bool
 | [],[]=>true
 | p :: l,q :: m=>eqP p q && jg1 l m
 | _,_=>false
theorem jea:∀ (l m:List Pair),jg1 l m=true↔l=m
 | [],[]=>by simp[jg1]
 | p :: l,[]=>by simp[jg1]
 | [],q :: m=>by simp[jg1]
 | p :: l,q :: m=>by
  unfold jg1;rw[Bool.and_eq_true,jmf,jea l m];simp
section
section mixf
variable {P:Program} {l:List Oper} {E:World->World->Prop}
variable {R:List Nat->Act->World->Prop} {ord done:List Nat} {a:Act} {w:World} {k:Nat} {o:Oper}
end mixf
end
section
attribute [local go_sem] Oper.semAt_some
theorem jjw{F:BSet}{w2 w3:World}{m:Nat}{a:Act}{o:Oper}(ho:execOp a.eval o=(do pure (.value (<-convert 92 9 (.slice (some ⟨w2.heap.size,0,none⟩) 1 1)))))
  (h:jae F (w2.alloc (.cells #[.int .u8 (m:Int)] 5)) w3) (hF:¬ F w2.heap.size) (hm:m < 16):(execOp a.eval o).run Tryz.prog w3=.ok (.value (.string (nib1 m))) w3:=by
 have hB:=(Blk.new w2 (.cells #[.int .u8 (m:Int)] 5)).keeps h hF;have hbm:(m:Int)=((UInt8.ofNat m).toNat:Int):=by rw[jo8 m vO]
 have hO:w3.ownsRow 0 5 1 (.slice (some ⟨w2.heap.size,0,none⟩) 1 1) 1 (jaE [UInt8.ofNat m]):=
  ⟨rfl,.inr ⟨_,1,_,rfl,Nat.zero_le _,hB,Nat.le_refl _,by unfold maxLen;omega,rfl,by rw[hbm];rfl⟩⟩
 have hc:=jbl w3 Tryz.uBytes Tryz.uU8 Tryz.uStr hO;rw[ho,Sem.run_bind,hc];rfl
end
end Go.Proofs.YtcpnjmcipainpaaGreatDoor
