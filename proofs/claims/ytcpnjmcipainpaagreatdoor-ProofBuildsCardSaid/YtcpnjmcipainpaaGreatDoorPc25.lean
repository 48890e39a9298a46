/- Parts of the proof, one behind the other: WayA, WayB, WayC. Each is under no condition but those that it states. -/
import Derived.Test.YtcpnjmcipainpaaGreatDoorPc24
import Derived.Test.YtcpnjmcipainpaaGreatDoorPc20
namespace Go.Proofs.YtcpnjmcipainpaaGreatDoor
set_option linter.unusedSimpArgs false
set_option linter.unusedVariables false
set_option maxRecDepth 100000
set_option maxHeartbeats 16000000
section
open Go Go.RowKit
def jbD(n:jac)(p:ByteArray):ByteArray × ByteArray:=
 if n.kind=3 then match p.data.toList with
  | []=>(⟨#[]⟩,p)
  | x :: _=>if (n.refs.getD x.toNat ⟨#[]⟩).size=0 then (⟨#[]⟩,p)else (n.refs.getD x.toNat ⟨#[]⟩,p.extract 1 p.size)
 else if n.kind=2 then if preB n.path p then (n.refs.getD 0 ⟨#[]⟩,p.extract n.path.size p.size)else (⟨#[]⟩,p)
 else (⟨#[]⟩,p)
def jca(n:jac)(p:ByteArray):Option ByteArray:=
 if n.kind=1 then if n.path=p then some n.value else none
 else if n.kind=3 then if p.size=0∧n.value.size≠0 then some n.value else none
 else none
def valL:List Pair→ByteArray→Option ByteArray
 | [],_=>none
 | q :: l,p=>if q.1=p then some q.2 else valL l p
def goL(l:List Pair)(p:ByteArray):Option (List Pair × ByteArray):=
 if l.length≤1 then none
 else if 0 < comK l then if preB ((l.getD 0 pd).1.extract 0 (comK l)) p then some (jax (comK l) l,p.extract (comK l) p.size)else none
 else match p.data.toList with
  | []=>none
  | x :: _=>if (cutL x.toNat l).length=0 then none else some (jax 1 (cutL x.toNat l),p.extract 1 p.size)
def bigs(t:ByteArray):List ByteArray:=if t.size < 32 then []else [t]
def wayL:Nat→List Pair→ByteArray→List ByteArray
 | 0,_,_=>[]
 | f+1,l,p=>match goL l p with
  | none=>[]
  | some (m,q)=>bigs (jad (f+1) m).text++wayL f m q
def visL:Nat→List Pair→ByteArray→List (jac × ByteArray)
 | 0,l,p=>[(jay (jad 0) l,p)]
 | f+1,l,p=>(jay (jad (f+1)) l,p) :: match goL l p with
  | none=>[]
  | some (m,q)=>visL f m q
def sumL:List Pair→Nat
 | []=>0
 | q :: l=>q.1.size+sumL l
theorem jh1:∀ {l:List Pair} {p v:ByteArray},valL l p=some v→(p,v)∈l
 | q :: l,p,v,h=>by
  unfold valL at h;split at h
  ·rename_i e
   obtain rfl:=Option.some.inj h;subst e;exact List.mem_cons_self
  ·exact List.mem_cons_of_mem _ (jh1 h)
theorem jkO:∀ {l:List Pair} {p v:ByteArray},(l.Pairwise fun p q=>Lt p.l q.l)→(p,v)∈l→valL l p=some v
 | q :: l,p,v,hl,h=>by
  rw[List.pairwise_cons]at hl;unfold valL;rcases List.mem_cons.1 h with h | h
  ·subst h;rw[if_pos rfl]
  ·rw[if_neg (fun e=>by have:=hl.1 _ h;rw[show q.l=p.data.toList from congrArg (fun x:ByteArray=>x.data.toList) e]at this;exact lt_irrefl _ this),jkO hl.2 h]
theorem jh2{l:List Pair}{p:ByteArray}(h:∀ q∈l,q.1≠p):valL l p=none:=by
 cases hv:valL l p with
 | none=>rfl
 | some v=>exact absurd rfl (h _ (jh1 hv))
theorem jkP{l m:List Pair}{p q:ByteArray}(hl:l.Pairwise fun p q=>Lt p.l q.l)(hm:m.Pairwise fun p q=>Lt p.l q.l)(h:∀ v,(p,v)∈l↔(q,v)∈m):valL l p=valL m q:=by
 cases hv:valL l p with
 | some v=>exact (jkO hm ((h v).1 (jh1 hv))).symm
 | none =>
  cases hw:valL m q with
  | none=>rfl
  | some v=>rw[jkO hl ((h v).2 (jh1 hw))]at hv;cases hv
theorem jfh(a p:ByteArray):preB a p=true↔∃ r,p.data.toList=a.data.toList++r:=by
 unfold preB;rw[List.isPrefixOf_iff_prefix]
 exact⟨fun ⟨r,h⟩=>⟨r,h.symm⟩,fun ⟨r,h⟩=>⟨r,h.symm⟩⟩
theorem jol(b:ByteArray)(k:Nat):(b.extract k b.size).data.toList=b.data.toList.drop k:=jc9 b k b.size (Nat.le_refl _)
theorem jbb(b:ByteArray):b.data.toList.length=b.size:=rfl
theorem jkJ(k:Nat):∀ l:List Pair,sumL (jax k l)≤sumL l
 | []=>Nat.le_refl _
 | q :: l=>by
  have:=jkJ k l
  show (q.1.extract k q.1.size).size+sumL (jax k l)≤q.1.size+sumL l;rw[jcR];omega
theorem jgB{k:Nat}(hk:0 < k):∀ {l:List Pair},l≠[]→(∀ q∈l,k≤q.1.size)→sumL (jax k l) < sumL l
 | q :: l,_,h=>by
  have:=jkJ k l
  have:=h q List.mem_cons_self
  show (q.1.extract k q.1.size).size+sumL (jax k l) < q.1.size+sumL l;rw[jcR];omega
theorem jhi(g:Pair→Bool):∀ l:List Pair,sumL (l.filter g)≤sumL l
 | []=>Nat.le_refl _
 | q :: l=>by
  have:=jhi g l
  rw[List.filter_cons];show _≤q.1.size+sumL l;split
  ·show q.1.size+sumL _≤_;omega
  ·omega
structure KidP(f:Nat)(l:List Pair)(p:ByteArray)(m:List Pair)(q:ByteArray):Prop where
 rows:jaG f m
 ne:m≠[]
 step:jbD (jay (jad (f+1)) l) p=(refB (jad (f+1) m).text,q)
 less:q.size < p.size
 valid:jaA q=true
 flat:∀ x∈jaF (jad (f+1) m),32≤x.size→x∈jaF (jad (f+1+1) l)
 find:valL m q=valL l p
 sum:sumL m < sumL l
 no:jca (jay (jad (f+1)) l) p=none
theorem jkg{l:List Pair}(h:0 < l.length):l.getD 0 pd∈l:=by rw[List.getD_eq_getElem?_getD,List.getElem?_eq_getElem h];exact List.getElem_mem _
theorem jiB{l:List Pair}:((l.getD 0 pd).1.extract 0 (comK l)).data.toList=(l.getD 0 pd).l.take (comK l):=by
 rw[ByteArray.data_extract,Array.toList_extract,List.extract_eq_take_drop];simp
theorem jdO{f:Nat}{l:List Pair}(h:jaG f l)(h2:2≤l.length):((l.getD 0 pd).1.extract 0 (comK l)).size=comK l:=by
 have:=(jbF h h2 _ (jkg (by omega))).2
 rw[ByteArray.size_extract];omega
theorem jgb{f:Nat}{l:List Pair}{p:ByteArray}{m:List Pair}{q:ByteArray}(h:jaG (f+1) l)(hp:jaA p=true)(hg:goL l p=some (m,q)):KidP f l p m q:=by
 unfold goL at hg
 by_cases h1:l.length≤1
 ·rw[if_pos h1]at hg;cases hg
 rw[if_neg h1]at hg;have h2:2≤l.length:=by omega
 have hcom:=jbF h h2
 by_cases hk:0 < comK l
 ·rw[if_pos hk]at hg
  by_cases hpre:preB ((l.getD 0 pd).1.extract 0 (comK l)) p=true
  case neg=>rw[if_neg hpre]at hg;cases hg
  rw[if_pos hpre]at hg
  obtain⟨rfl,rfl⟩:=Prod.mk.inj (Option.some.inj hg)
  have hok:jaG f (jax (comK l) l):=(jcA (comK l) h (fun p hp q hq=>(hcom p hp).1.trans (hcom q hq).1.symm) (fun p hp=>(hcom p hp).2)).mono (by omega);have hne:jax (comK l) l≠[]:=fun e=>by have:=jaP (comK l) l;rw[e]at this;simp at this;omega
  have eB:jaE (jad (f+1)) l=jbW (jad (f+1) (jax (comK l) l)):=by unfold jaE;rw[if_neg (by omega),if_pos hk]
  have eN:jay (jad (f+1)) l=⟨2,(l.getD 0 pd).1.extract 0 (comK l),⟨#[]⟩,refB (jad (f+1) (jax (comK l) l)).text :: jat 15⟩:=by unfold jay;rw[if_neg (by omega),if_neg (by omega),if_pos hk]
  obtain⟨r,hr⟩:=(jfh _ _).1 hpre
  have hps:comK l≤p.size:=by
   rw[←jbb p,hr,List.length_append,jbb,jdO h h2];omega
  refine⟨hok,hne,?_,by rw[jcR];omega,jdk hp _ _,jka hne hok (by rw[eB];exact fun _ hh=>hh),?_,jgB hk (fun e=>by rw[e]at h2;simp at h2) (fun q hq=>(hcom q hq).2),by rw[eN];rfl⟩
  ·rw[eN]
   unfold jbD;rw[if_neg (show ¬(2:Nat)=3 by decide),if_pos rfl,if_pos hpre];show (_,p.extract ((l.getD 0 pd).1.extract 0 (comK l)).size p.size)=_;rw[jdO h h2];rfl
  ·refine jkP hok.rise h.rise fun v=>⟨fun hm=>?_,fun hm=>?_⟩
   ·obtain⟨x,hx,e⟩:=List.mem_map.1 hm
    obtain⟨e1,e2⟩:=Prod.mk.inj e
    have:x=(p,v):=by
     refine Prod.ext (jcx ?_) e2;have e3:x.1.data.toList.drop (comK l)=p.data.toList.drop (comK l):=by rw[←jol,e1,jol]
     have e4:x.1.data.toList.take (comK l)=p.data.toList.take (comK l):=by
      rw[show x.1.data.toList=x.l from rfl,(hcom x hx).1, ←jiB,hr,List.take_append_of_le_length (by rw[jbb,jdO h h2];exact Nat.le_refl _),List.take_of_length_le (by rw[jbb,jdO h h2];exact Nat.le_refl _)]
     show x.1.data.toList=p.data.toList;rw[←List.take_append_drop (comK l) x.1.data.toList,e3,e4,List.take_append_drop]
    rw[←this];exact hx
   ·exact List.mem_map.2 ⟨_,hm,rfl⟩
 ·rw[if_neg hk]at hg
  cases hpl:p.data.toList with
  | nil=>rw[hpl]at hg;cases hg
  | cons x r =>
   rw[hpl]at hg
   by_cases hc:(cutL x.toNat l).length=0
   ·have hg:(if (cutL x.toNat l).length=0 then none else some (jax 1 (cutL x.toNat l),p.extract 1 p.size))=some (m,q):=hg
    rw[if_pos hc]at hg;cases hg
   have hg:(if (cutL x.toNat l).length=0 then none else some (jax 1 (cutL x.toNat l),p.extract 1 p.size))=some (m,q):=hg;rw[if_neg hc]at hg
   obtain⟨rfl,rfl⟩:=Prod.mk.inj (Option.some.inj hg)
   have hok:jaG f (jax 1 (cutL x.toNat l)):=jei x.toNat h;have hne:jax 1 (cutL x.toNat l)≠[]:=fun e=>by have:=jaP 1 (cutL x.toNat l);rw[e]at this;simp at this;exact hc this.symm
   have hx:x.toNat < 16:=jde (p:=(p,p)) hp hpl;have eB:jaE (jad (f+1)) l=(List.range 16).flatMap fun i=>if (cutL i l).length=0 then []else jbW (jad (f+1) (jax 1 (cutL i l))):=by unfold jaE;rw[if_neg (by omega),if_neg hk]
   obtain⟨rs,hrs⟩:∃ rs,rs=(List.range 16).map fun i=>if (cutL i l).length=0 then (⟨#[]⟩:ByteArray)else refB (jad (f+1) (jax 1 (cutL i l))).text:=⟨_,rfl⟩
   obtain⟨va,hva⟩:∃ va,va=if (l.getD 0 pd).1.size=0 then (l.getD 0 pd).2 else ⟨#[]⟩:=⟨_,rfl⟩
   have eN:jay (jad (f+1)) l=⟨3,⟨#[]⟩,va,rs⟩:=by rw[hrs,hva];unfold jay;rw[if_neg (by omega),if_neg (by omega),if_neg hk]
   have hget:rs.getD x.toNat ⟨#[]⟩=refB (jad (f+1) (jax 1 (cutL x.toNat l))).text:=by rw[hrs,jg3 _ hx,if_neg hc]
   clear hrs hva;have hps:1≤p.size:=by rw[←jbb p,hpl];simp
   have hall:∀ q∈cutL x.toNat l,1≤q.1.size:=fun q hq=>by
    obtain⟨_,a,r,e,_⟩:=jdp hq
    rw[←jbb,show q.1.data.toList=a :: r from e];simp
   have hsum:sumL (jax 1 (cutL x.toNat l)) < sumL l:=Nat.lt_of_lt_of_le (jgB (Nat.zero_lt_one) (fun e=>hc (by rw[e];rfl)) hall) (jhi _ _)
   refine⟨hok,hne,?_,by rw[jcR];omega,jdk hp _ _,jka hne hok (fun y hy=>?_),?_,hsum,?_⟩
   ·rw[eN]
    unfold jbD;rw[if_pos rfl,hpl];show (if (rs.getD x.toNat ⟨#[]⟩).size=0 then _ else (rs.getD x.toNat ⟨#[]⟩,_))=_;rw[hget,if_neg (jjJ hok hne)]
   ·rw[eB]
    exact List.mem_flatMap.2 ⟨x.toNat,List.mem_range.2 hx,by rw[if_neg hc];exact hy⟩
   ·refine jkP hok.rise h.rise fun v=>⟨fun hm=>?_,fun hm=>?_⟩
    ·obtain⟨y,hy,e⟩:=List.mem_map.1 hm
     obtain⟨hyl,a,r',e3,e4⟩:=jdp hy
     obtain⟨e1,e2⟩:=Prod.mk.inj e
     have:y=(p,v):=by
      refine Prod.ext (jcx ?_) e2;have e5:y.1.data.toList.drop 1=p.data.toList.drop 1:=by rw[←jol,e1,jol]
      have e3:y.1.data.toList=a :: r':=e3;show y.1.data.toList=p.data.toList;rw[e3,hpl]at e5 ⊢;simp at e5;rw[e5,UInt8.toNat_inj.1 e4]
     rw[←this];exact hyl
    ·refine List.mem_map.2 ⟨(p,v),?_,rfl⟩
     refine List.mem_filter.2 ⟨hm,?_⟩;unfold jdR;show (match p.data.toList with | []=>false | a :: _=>a.toNat == x.toNat)=true;rw[hpl];simp
   ·rw[eN]
    unfold jca;rw[if_neg (show ¬(3:Nat)=1 by decide),if_pos rfl,if_neg (fun e=>by have:=e.1;omega)]
theorem jmD{f:Nat}{l:List Pair}{p:ByteArray}(h:jaG f l)(hp:jaA p=true)(hg:goL l p=none):jbD (jay (jad f) l) p=(⟨#[]⟩,p)∧jca (jay (jad f) l) p=valL l p:=by
 by_cases h0:l.length=0
 ·have e:jay (jad f) l=jav:=by unfold jay;rw[if_pos h0]
  rw[e,List.eq_nil_of_length_eq_zero h0]
  exact⟨rfl,rfl⟩
 by_cases h1:l.length=1
 ·have e:jay (jad f) l=⟨1,(l.getD 0 pd).1,(l.getD 0 pd).2,jat 16⟩:=by unfold jay;rw[if_neg h0,if_pos h1]
  rw[e]
  obtain⟨q,rfl⟩:=List.length_eq_one_iff.1 h1
  exact⟨rfl,by unfold jca valL valL;rfl⟩
 have h2:2≤l.length:=by omega
 have hcom:=jbF h h2;unfold goL at hg;rw[if_neg (by omega)]at hg
 by_cases hk:0 < comK l
 ·rw[if_pos hk]at hg
  have e:jay (jad f) l=⟨2,(l.getD 0 pd).1.extract 0 (comK l),⟨#[]⟩,refB (jad f (jax (comK l) l)).text :: jat 15⟩:=by unfold jay;rw[if_neg h0,if_neg h1,if_pos hk]
  have hpre:¬ preB ((l.getD 0 pd).1.extract 0 (comK l)) p=true:=fun hh=>by rw[if_pos hh]at hg;cases hg
  rw[e]
  refine⟨?_,?_⟩
  ·unfold jbD
   rw[if_neg (show ¬(2:Nat)=3 by decide),if_pos rfl,if_neg hpre]
  ·refine (Eq.trans ?_ (jh2 fun q hq e=>?_).symm)
   ·rfl
   ·refine hpre ((jfh _ _).2 ⟨p.data.toList.drop (comK l),?_⟩)
    rw[jiB, ←(hcom q hq).1,show q.l=p.data.toList from congrArg (fun x:ByteArray=>x.data.toList) e,List.take_append_drop]
 ·rw[if_neg hk]at hg
  obtain⟨rs,hrs⟩:∃ rs,rs=(List.range 16).map fun i=>if (cutL i l).length=0 then (⟨#[]⟩:ByteArray)else refB (jad f (jax 1 (cutL i l))).text:=⟨_,rfl⟩
  have e:jay (jad f) l=⟨3,⟨#[]⟩,if (l.getD 0 pd).1.size=0 then (l.getD 0 pd).2 else ⟨#[]⟩,rs⟩:=by rw[hrs];unfold jay;rw[if_neg h0,if_neg h1,if_neg hk]
  have hget:∀ i,i < 16→(cutL i l).length=0→rs.getD i ⟨#[]⟩=⟨#[]⟩:=fun i hi hc=>by rw[hrs,jg3 _ hi,if_pos hc]
  clear hrs;rw[e];cases hpl:p.data.toList with
  | nil =>
   have hps:p.size=0:=by rw[←jbb p,hpl];rfl
   refine⟨?_,?_⟩
   ·unfold jbD
    rw[if_pos rfl,hpl]
   ·unfold jca
    rw[if_neg (show ¬(3:Nat)=1 by decide),if_pos rfl];have hpe:p=⟨#[]⟩:=jcx (by rw[hpl]);have hm:=jkg (l:=l) (by omega)
    obtain⟨_,_,_,s4,_⟩:=h.size _ hm
    by_cases hz:(l.getD 0 pd).1.size=0
    ·simp only[hz,if_true]
     rw[if_pos ⟨hps,by omega⟩];refine (jkO h.rise ?_).symm;have hz0:(l.getD 0 pd).1.data.toList=[]:=List.eq_nil_of_length_eq_zero hz
     have:(p,(l.getD 0 pd).2)=l.getD 0 pd:=Prod.ext (by
      show p=(l.getD 0 pd).1;exact jcx (by rw[hpl,hz0])) rfl
     rw[this];exact hm
    ·simp only[if_neg hz]
     rw[if_neg (fun e=>e.2 rfl)];refine (jh2 fun q hq e=>?_).symm
     obtain⟨i,hi⟩:=List.getElem?_of_mem hq
     cases i with
     | zero =>
      have:l.getD 0 pd=q:=by rw[List.getD_eq_getElem?_getD,hi];rfl
      rw[this,e]at hz;exact hz hps
     | succ i =>
      obtain⟨a,ha⟩:∃ a,l[0]?=some a:=⟨_,List.getElem?_eq_getElem (by omega)⟩
      have:=jb3 h.rise (by omega) ha hi
      rw[show q.l=[]from(congrArg (fun x:ByteArray=>x.data.toList) e).trans hpl]at this;exact jbc _ this
  | cons x r =>
   rw[hpl]at hg;have hg:(if (cutL x.toNat l).length=0 then none else some (jax 1 (cutL x.toNat l),p.extract 1 p.size))=none:=hg;have hc:(cutL x.toNat l).length=0:=by
    by_cases hc:(cutL x.toNat l).length=0
    ·exact hc
    ·rw[if_neg hc]at hg;cases hg
   have hx:x.toNat < 16:=jde (p:=(p,p)) hp hpl;have hps:1≤p.size:=by rw[←jbb p,hpl];simp
   refine⟨?_,?_⟩
   ·unfold jbD
    rw[if_pos rfl,hpl];show (if (rs.getD x.toNat ⟨#[]⟩).size=0 then _ else _)=_;rw[hget _ hx hc,if_pos (show (⟨#[]⟩:ByteArray).size=0 from rfl)]
   ·unfold jca
    rw[if_neg (show ¬(3:Nat)=1 by decide),if_pos rfl,if_neg (fun e=>by have:=e.1;omega)];refine (jh2 fun q hq e=>?_).symm;have hin:q∈cutL x.toNat l:=List.mem_filter.2 ⟨hq,by
     unfold jdR;rw[show q.1.data.toList=x :: r from(congrArg (fun x:ByteArray=>x.data.toList) e).trans hpl];simp⟩
    rw[List.eq_nil_of_length_eq_zero hc]at hin;cases hin
theorem jn1(t:ByteArray):(bigs t).length≤1:=by unfold bigs;split <;> simp
theorem jn2{t x:ByteArray}(h:x∈bigs t):x=t∧32≤x.size:=by
 unfold bigs at h;split at h
 ·cases h
 ·rw[List.mem_singleton]at h;subst h;exact⟨rfl,by omega⟩
theorem jcV{f:Nat}{l:List Pair}{p:ByteArray}(hg:goL l p=none):wayL (f+1) l p=[]:=by rw[wayL,hg]
theorem jeb{f:Nat}{l m:List Pair}{p q:ByteArray}(hg:goL l p=some (m,q)):wayL (f+1) l p=bigs (jad (f+1) m).text++wayL f m q:=by rw[wayL,hg]
theorem jkT{l:List Pair}{p:ByteArray}(h:jaG 0 l):goL l p=none:=by unfold goL;rw[if_pos (jeW h)]
theorem jjQ:∀ (f:Nat) (l:List Pair) (p:ByteArray),(wayL f l p).length≤f
 | 0,_,_=>Nat.le_refl _
 | f+1,l,p=>by
  cases hg:goL l p with
  | none=>rw[jcV hg];simp
  | some mq =>
   obtain⟨m,q⟩:=mq
   rw[jeb hg,List.length_append]
   have:=jn1 (jad (f+1) m).text
   have:=jjQ f m q
   omega
structure jsq(f:Nat)(l:List Pair)(t:ByteArray)(g:Nat)(m:List Pair):Prop where
 lt:g < f
 rows:jaG g m
 ne:m≠[]
 text:t=(jad (g+1) m).text
 big:32≤t.size
 sum:sumL m < sumL l
 flat:∀ x∈jaF (jad (g+1) m),32≤x.size→x∈jaF (jad (f+1) l)
theorem jpt:∀ (f:Nat) (l:List Pair) (p:ByteArray),jaG f l→jaA p=true→∀ t∈wayL f l p,∃ g m,jsq f l t g m
 | 0,_,_,_,_,t,ht=>by cases ht
 | f+1,l,p,h,hp,t,ht=>by
  cases hg:goL l p with
  | none=>rw[jcV hg]at ht;cases ht
  | some mq =>
   obtain⟨m,q⟩:=mq
   rw[jeb hg]at ht;have hK:=jgb h hp hg;rcases List.mem_append.1 ht with ht | ht
   ·obtain⟨rfl,h32⟩:=jn2 ht
    exact⟨f,m,⟨Nat.lt_succ_self _,hK.rows,hK.ne,rfl,h32,hK.sum,hK.flat⟩⟩
   ·obtain⟨g,n,hW⟩:=jpt f m q hK.rows hK.valid t ht
    exact⟨g,n,⟨Nat.lt_succ_of_lt hW.lt,hW.rows,hW.ne,hW.text,hW.big,Nat.lt_trans hW.sum hK.sum,fun x hx h32=>hK.flat x (hW.flat x hx h32) h32⟩⟩
noncomputable def getN(t:ByteArray):Option jac:=open Classical in if ∃ n,jbN t n then some (nodeOf t)else none
theorem jmB{t:ByteArray}{n:jac}(w:World)(h:jbN t n):getN t=some n:=by
 unfold getN;rw[if_pos ⟨n,h⟩,jdd w (jcc h) h]
theorem jp4{t:ByteArray}(h:¬ ∃ n,jbN t n):getN t=none:=by unfold getN;rw[if_neg h]
noncomputable def runN:Nat→List ByteArray→jac→ByteArray→List (jac × ByteArray) × List ByteArray × Bool
 | 0,ts,n,p=>([(n,p)],ts,true)
 | f+1,ts,n,p =>
  if (jbD n p).1.size=0 then ([(n,p)],ts,true)
  else if (jbD n p).1.size < 32 then ((n,p) ::(runN f ts (nodeOf (jbD n p).1) (jbD n p).2).1,(runN f ts (nodeOf (jbD n p).1) (jbD n p).2).2)
  else match ts with
   | []=>([(n,p)],[],false)
   | t :: ts'=>if jam (shaB t)=(jbD n p).1 then match getN t with
     | some m=>((n,p) ::(runN f ts' m (jbD n p).2).1,(runN f ts' m (jbD n p).2).2)
     | none=>([(n,p)],t :: ts',false)
    else ([(n,p)],t :: ts',false)
theorem jdT(f:Nat)(ts:List ByteArray)(n:jac)(p:ByteArray):runN (f+1) ts n p =
  (if (jbD n p).1.size=0 then ([(n,p)],ts,true)
  else if (jbD n p).1.size < 32 then ((n,p) ::(runN f ts (nodeOf (jbD n p).1) (jbD n p).2).1,(runN f ts (nodeOf (jbD n p).1) (jbD n p).2).2)
  else match ts with
   | []=>([(n,p)],[],false)
   | t :: ts'=>if jam (shaB t)=(jbD n p).1 then match getN t with
     | some m=>((n,p) ::(runN f ts' m (jbD n p).2).1,(runN f ts' m (jbD n p).2).2)
     | none=>([(n,p)],t :: ts',false)
    else ([(n,p)],t :: ts',false)):=rfl
noncomputable def proveN(root p:ByteArray):List ByteArray→List (jac × ByteArray) × List ByteArray × Bool
 | []=>([],[],false)
 | t :: ts=>if shaB t=root then match getN t with
   | some n=>runN p.size ts n p
   | none=>([],t :: ts,false)
  else ([],t :: ts,false)
def jcy(vs:List (jac × ByteArray)):Option ByteArray:=match vs.getLast? with | some (n,p)=>jca n p | none=>none
theorem jli(v x:jac × ByteArray)(vs:List (jac × ByteArray)):jcy (v :: x :: vs)=jcy (x :: vs):=by unfold jcy;rw[List.getLast?_cons_cons]
theorem jo8(f:Nat)(l:List Pair)(p:ByteArray):∃ vs,visL f l p=(jay (jad f) l,p) :: vs:=by
 cases f with
 | zero=>exact⟨_,rfl⟩
 | succ f=>exact⟨_,by rw[visL]⟩
theorem jqA(w:World):∀ (f:Nat) (l:List Pair) (p:ByteArray) (k:Nat) (ts:List ByteArray),jaG f l→jaA p=true→p.size≤k→runN k (wayL f l p++ts) (jay (jad f) l) p=(visL f l p,ts,true)∧jcy (visL f l p)=valL l p:=by
 have stop:∀ (f:Nat) (l:List Pair) (p:ByteArray) (k:Nat) (ts:List ByteArray),jaG f l→jaA p=true→goL l p=none→runN k ts (jay (jad f) l) p=([(jay (jad f) l,p)],ts,true)∧jca (jay (jad f) l) p=valL l p:=fun f l p k ts h hp hg=>by
  obtain⟨h1,h2⟩:=jmD h hp hg
  refine⟨?_,h2⟩
  cases k with
  | zero=>rfl
  | succ k=>rw[jdT,h1,if_pos (show (⟨#[]⟩:ByteArray).size=0 from rfl)]
 intro f;induction f with
 | zero =>
  intro l p k ts h hp hk
  obtain⟨h1,h2⟩:=stop 0 l p k ts h hp (jkT h)
  exact⟨h1,h2⟩
 | succ f ih =>
  intro l p k ts h hp hk;cases hg:goL l p with
  | none =>
   obtain⟨h1,h2⟩:=stop (f+1) l p k ts h hp hg
   have e:visL (f+1) l p=[(jay (jad (f+1)) l,p)]:=by rw[visL,hg]
   rw[jcV hg,e]
   exact⟨h1,h2⟩
  | some mq =>
   obtain⟨m,q⟩:=mq
   have hK:=jgb h hp hg;have e:visL (f+1) l p=(jay (jad (f+1)) l,p) :: visL f m q:=by rw[visL,hg]
   obtain⟨k,rfl⟩:∃ j,k=j+1:=⟨k - 1,by have:=hK.less;omega⟩
   have hpos:=jjJ hK.rows hK.ne
   obtain⟨i1,i2⟩:=ih m q k ts hK.rows hK.valid (by have:=hK.less;omega)
   obtain⟨vs,hvs⟩:=jo8 f m q
   have hst:=(good f m hK.rows).2.1 hK.ne
   refine⟨?_,?_⟩
   ·rw[jeb hg,e,jdT,hK.step,if_neg hpos]
    by_cases hs:(jad (f+1) m).text.size < 32
    ·have hb:bigs (jad (f+1) m).text=[]:=by unfold bigs;rw[if_pos hs]
     rw[hb,List.nil_append];show (if (refB (jad (f+1) m).text).size < 32 then _ else _)=_;rw[jhe hs,if_pos hs];show ((_,_) ::(runN k (wayL f m q++ts) (nodeOf (jad (f+1) m).text) q).1,(runN k (wayL f m q++ts) (nodeOf (jad (f+1) m).text) q).2)=_;have hIs:jbN (jad (f+1) m).text (jay (jad f) m):=⟨rfl,f,hst.good⟩;rw[jdd w (jcc hIs) hIs,i1]
    ·have hb:bigs (jad (f+1) m).text=[(jad (f+1) m).text]:=by unfold bigs;rw[if_neg hs]
     rw[hb];show (if (refB (jad (f+1) m).text).size < 32 then _ else _)=_;rw[if_neg (by rw[jqp hs];omega),jhQ hs];show (if jam (shaB (jad (f+1) m).text)=jam (shaB (jad (f+1) m).text)then match getN (jad (f+1) m).text with
       | some x=>(_ ::(runN k (wayL f m q++ts) x q).1,(runN k (wayL f m q++ts) x q).2)
       | none=>_
      else _)=_
     have hIs:jbN (jad (f+1) m).text (jay (jad f) m):=⟨rfl,f,hst.good⟩;rw[if_pos rfl,jmB w hIs];show (_ ::(runN k (wayL f m q++ts) (jay (jad f) m) q).1,(runN k (wayL f m q++ts) (jay (jad f) m) q).2)=_;rw[i1]
   ·rw[e,hvs,jli, ←hvs,i2,hK.find]
theorem jm8(w:World)(f:Nat)(l:List Pair)(p:ByteArray)(h:jaG f l)(hp:jaA p=true):proveN (shaB (jad (f+1) l).text) p ((jad (f+1) l).text :: wayL f l p)=(visL f l p,[],true)∧jcy (visL f l p)=valL l p:=by
 obtain⟨h1,h2⟩:=jqA w f l p p.size [] h hp (Nat.le_refl _)
 rw[List.append_nil]at h1
 refine⟨?_,h2⟩
 unfold proveN;have hIs:jbN (jad (f+1) l).text (jay (jad f) l):=⟨rfl,f,(good f l h).1⟩;show (if shaB (jad (f+1) l).text=shaB (jad (f+1) l).text then match getN (jad (f+1) l).text with
   | some n=>runN p.size (wayL f l p) n p
   | none=>_
  else _)=_
 rw[if_pos rfl,jmB w hIs];exact h1
theorem jo7{l:List Pair}(k:ByteArray):valL (ja3 l) (jbe k)=valL l k:=by
 have inj:∀ {a b:ByteArray},jbe a=jbe b→a=b:=fun {a b} e=>jcx (jks (by
  have:=congrArg (fun x:ByteArray=>x.data.toList) e
  simpa [jbe]using this))
 induction l with
 | nil=>rfl
 | cons q l ih =>
  show (if jbe q.1=jbe k then some q.2 else valL (ja3 l) (jbe k))=if q.1=k then some q.2 else valL l k
  by_cases e:q.1=k
  ·rw[if_pos (by rw[e]),if_pos e]
  ·rw[if_neg (fun h=>e (inj h)),if_neg e,ih]
def jpH(k:Nat)(pa:ByteArray)(rs:List ByteArray)(p r q:ByteArray):Prop:=
 (k=2∧preB pa p=true∧rs[0]?=some r∧q=p.extract pa.size p.size∧pa.size≤p.size) ∨
 (k=3∧∃ x t,p.data.toList=x :: t∧rs[x.toNat]?=some r∧q=p.extract 1 p.size)
def jrc(k:Nat)(pa va:ByteArray)(rs:List ByteArray)(p:ByteArray):Prop:=
 k=0∨(k=1∧pa≠p)∨(k=2∧preB pa p=false)∨(k=3∧p=⟨#[]⟩∧va=⟨#[]⟩)∨(k=3∧∃ x t,p.data.toList=x :: t∧rs[x.toNat]?=some ⟨#[]⟩)
def jrb(k:Nat)(pa va:ByteArray)(p u:ByteArray):Prop:=(k=1∧pa=p∧va=u)∨(k=3∧p=⟨#[]⟩∧va=u∧va.size≠0)
theorem jjA{rs:List ByteArray}{i:Nat}(h:i < rs.length):rs[i]?=some (rs.getD i ⟨#[]⟩):=by
 rw[List.getD_eq_getElem?_getD,List.getElem?_eq_getElem h];rfl
theorem jh0{d:Nat}{k:Nat}{pa va:ByteArray}{rs:List ByteArray}(hg:jbj (InlD d) ⟨k,pa,va,rs⟩){p r q:ByteArray}(hp:jaA p=true)(hs:jbD ⟨k,pa,va,rs⟩ p=(r,q))(hr:r.size≠0):jpH k pa rs p r q:=by
 have h1:=hg.one (inlP d);have hl:rs.length=16:=h1.refs;unfold jbD at hs
 by_cases h3:k=3
 ·subst h3
  rw[if_pos rfl]at hs;cases hpl:p.data.toList with
  | nil=>rw[hpl]at hs;exact absurd (congrArg ByteArray.size (Prod.mk.inj hs).1.symm) hr
  | cons x t =>
   rw[hpl]at hs;have hs:(if (rs.getD x.toNat ⟨#[]⟩).size=0 then (⟨#[]⟩,p)else (rs.getD x.toNat ⟨#[]⟩,p.extract 1 p.size))=(r,q):=hs
   by_cases h0:(rs.getD x.toNat ⟨#[]⟩).size=0
   ·rw[if_pos h0]at hs;exact absurd (congrArg ByteArray.size (Prod.mk.inj hs).1.symm) hr
   ·rw[if_neg h0]at hs
    obtain⟨rfl,rfl⟩:=Prod.mk.inj hs
    exact .inr ⟨rfl,x,t,hpl,jjA (by rw[hl];exact jde (p:=(p,p)) hp hpl),rfl⟩
 ·rw[if_neg (show ¬(jac.mk k pa va rs).kind=3 from h3)]at hs
  by_cases h2:k=2
  ·subst h2
   rw[if_pos rfl]at hs
   by_cases hpre:preB pa p=true
   ·rw[if_pos (show preB (jac.mk 2 pa va rs).path p=true from hpre)]at hs
    obtain⟨rfl,rfl⟩:=Prod.mk.inj hs
    refine .inl ⟨rfl,hpre,jjA (by rw[hl];omega),rfl,?_⟩
    obtain⟨s,hs⟩:=(jfh _ _).1 hpre
    rw[←jbb p,hs,List.length_append,jbb];omega
   ·rw[if_neg (show ¬ preB (jac.mk 2 pa va rs).path p=true from hpre)]at hs;exact absurd (congrArg ByteArray.size (Prod.mk.inj hs).1.symm) hr
  ·rw[if_neg (show ¬(jac.mk k pa va rs).kind=2 from h2)]at hs;exact absurd (congrArg ByteArray.size (Prod.mk.inj hs).1.symm) hr
theorem jnx{d:Nat}{k:Nat}{pa va:ByteArray}{rs:List ByteArray}(hg:jbj (InlD d) ⟨k,pa,va,rs⟩){p q:ByteArray}(hp:jaA p=true)(hs:jbD ⟨k,pa,va,rs⟩ p=(⟨#[]⟩,q))(hc:jca ⟨k,pa,va,rs⟩ p=none):jrc k pa va rs p:=by
 have h1:=hg.one (inlP d);have hl:rs.length=16:=h1.refs;have hk:k≤3:=h1.kind;unfold jbD at hs;unfold jca at hc
 by_cases h3:k=3
 ·subst h3
  rw[if_pos rfl]at hs;rw[if_neg (show ¬(3:Nat)=1 by decide),if_pos rfl]at hc;cases hpl:p.data.toList with
  | nil =>
   have hp0:p.size=0:=by rw[←jbb p,hpl];rfl
   refine .inr (.inr (.inr (.inl ⟨rfl,jbE hp0,jbE ?_⟩)))
   by_cases hv:va.size=0
   ·exact hv
   ·have hc:(if p.size=0∧va.size≠0 then some va else none)=none:=hc
    rw[if_pos ⟨hp0,hv⟩]at hc;cases hc
  | cons x t =>
   rw[hpl]at hs;have hs:(if (rs.getD x.toNat ⟨#[]⟩).size=0 then (⟨#[]⟩,p)else (rs.getD x.toNat ⟨#[]⟩,p.extract 1 p.size))=(⟨#[]⟩,q):=hs;have h0:(rs.getD x.toNat ⟨#[]⟩).size=0:=by
    by_cases h0:(rs.getD x.toNat ⟨#[]⟩).size=0
    ·exact h0
    ·rw[if_neg h0]at hs;exact congrArg ByteArray.size (Prod.mk.inj hs).1
   exact .inr (.inr (.inr (.inr ⟨rfl,x,t,hpl,by rw[jjA (by rw[hl];exact jde (p:=(p,p)) hp hpl),jbE h0]⟩)))
 ·rw[if_neg (show ¬(jac.mk k pa va rs).kind=3 from h3)]at hs
  by_cases h2:k=2
  ·subst h2
   rw[if_pos rfl]at hs
   by_cases hpre:preB pa p=true
   ·rw[if_pos (show preB (jac.mk 2 pa va rs).path p=true from hpre)]at hs
    have e:=(Prod.mk.inj hs).1;cases hg with
    | ext p r a1 a2 a3=>exact absurd (congrArg ByteArray.size e) a2
   ·exact .inr (.inr (.inl ⟨rfl,by simpa using hpre⟩))
  ·by_cases h1:k=1
   ·subst h1
    rw[if_pos rfl]at hc
    by_cases he:pa=p
    ·have hc:(if pa=p then some va else none)=none:=hc
     rw[if_pos he]at hc;cases hc
    ·exact .inr (.inl ⟨rfl,he⟩)
   ·exact .inl (by omega)
theorem jnv{k:Nat}{pa va:ByteArray}{rs:List ByteArray}{p u:ByteArray}(hc:jca ⟨k,pa,va,rs⟩ p=some u):jrb k pa va p u:=by
 unfold jca at hc
 by_cases h1:k=1
 ·subst h1
  rw[if_pos rfl]at hc;have hc:(if pa=p then some va else none)=some u:=hc
  by_cases he:pa=p
  ·rw[if_pos he]at hc;exact .inl ⟨rfl,he,Option.some.inj hc⟩
  ·rw[if_neg he]at hc;cases hc
 ·rw[if_neg (show ¬(jac.mk k pa va rs).kind=1 from h1)]at hc
  by_cases h3:k=3
  ·subst h3
   rw[if_pos rfl]at hc;have hc:(if p.size=0∧va.size≠0 then some va else none)=some u:=hc
   by_cases he:p.size=0∧va.size≠0
   ·rw[if_pos he]at hc;exact .inr ⟨rfl,jbE he.1,Option.some.inj hc,he.2⟩
   ·rw[if_neg he]at hc;cases hc
  ·rw[if_neg (show ¬(jac.mk k pa va rs).kind=3 from h3)]at hc;cases hc
theorem joG{a p:ByteArray}(h:preB a p=true):a.size≤p.size:=by
 obtain⟨s,hs⟩:=(jfh _ _).1 h
 rw[←jbb p,hs,List.length_append,jbb];omega
theorem jeH{p:ByteArray}{x:UInt8}{t:List UInt8}(h:p.data.toList=x :: t):∃ h0:0 < p.size,p[0]=x:=by
 obtain⟨⟨l⟩⟩:=p
 have h:l=x :: t:=h;subst h
 exact⟨Nat.succ_pos _,rfl⟩
end
end Go.Proofs.YtcpnjmcipainpaaGreatDoor
