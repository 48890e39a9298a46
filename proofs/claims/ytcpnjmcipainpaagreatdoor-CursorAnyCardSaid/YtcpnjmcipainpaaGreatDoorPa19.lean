/- Parts of the proof, one behind the other: CurPl, CurB. Each is under no condition but those that it states. -/
import Derived.Test.YtcpnjmcipainpaaGreatDoorPa18
namespace Go.Proofs.YtcpnjmcipainpaaGreatDoor
set_option linter.unusedSimpArgs false
set_option linter.unusedVariables false
set_option maxRecDepth 100000
set_option maxHeartbeats 16000000
section
open Go Go.RowKit
def jit(fr:ByteArray)(n:jac)(p:ByteArray)(k:Nat):List Pl5:=(List.range k).reverse.flatMap fun i=>jbs fr (p++nib1 i) (n.refs.getD i ⟨#[]⟩)
def layP(fr:ByteArray)(n:jac)(p:ByteArray):List Pl5:=
 if n.kind=1 then jbv fr (p++n.path) n.value
 else if n.kind=2 then jbs fr (p++n.path) (n.refs.getD 0 ⟨#[]⟩)
 else if n.kind=3 then jit fr n p 16++jbv fr p n.value
 else []
def sumF(g:Nat→Nat):Nat→Nat
 | 0=>0
 | n+1=>sumF g n+g n
def cntT:Nat→List Pair→Nat
 | 0,_=>1
 | f+1,l=>1+(if l.length≤1 then 0 else if 0 < comK l then cntT f (jax (comK l) l)else sumF (fun i=>if (cutL i l).length=0 then 0 else cntT f (jax 1 (cutL i l))) 16)
theorem jjC(g:Nat→Nat)(l:List Pair)(h0:∀ i,(cutL i l).length=0→g i=0)(hg:∀ i,(cutL i l).length≠0→g i+2≤3 * (cutL i l).length):∀ n,sumF g n+2 * partsN l n≤3 * jci l n
 | 0=>by simp[sumF,jci,partsN]
 | n+1=>by
  have ih:=jjC g l h0 hg n;rw[sumF,jci,partsN]
  by_cases hz:(cutL n l).length=0
  ·rw[if_pos hz,h0 n hz];omega
  ·have:=hg n hz
   rw[if_neg hz];omega
structure CntP(c:Nat)(l:List Pair):Prop where
 all:c+2≤3 * l.length
 two:2≤l.length→comK l=0→c+3≤3 * l.length
theorem jqn:∀ (f:Nat) (l:List Pair),ja3 f l→l≠[]→CntP (cntT f l) l:=by
 intro f;induction f with
 | zero =>
  intro l h hn;have h0:l.length≠0:=fun e=>hn (List.eq_nil_of_length_eq_zero e);have hl:=jdK h
  exact⟨by show 1+2≤_;omega,fun h2=>by omega⟩
 | succ f ih =>
  intro l h hn;have h0:l.length≠0:=fun e=>hn (List.eq_nil_of_length_eq_zero e)
  by_cases h1:l.length=1
  ·have e:cntT (f+1) l=1:=by unfold cntT;rw[if_pos (by omega)]
   exact⟨by omega,fun h2=>by omega⟩
  have h2:2≤l.length:=by omega
  have hcom:=jbZ h h2
  by_cases hk:0 < comK l
  ·have hok:ja3 f (jax (comK l) l):=(jcv (comK l) h (fun p hp q hq=>(hcom p hp).1.trans (hcom q hq).1.symm) (fun p hp=>(hcom p hp).2)).mono (by omega)
   have hne:jax (comK l) l≠[]:=fun e=>by have:=jaC (comK l) l;rw[e]at this;simp at this;omega
   have hlen:=(ih _ hok hne).two (by rw[jaC];omega) (je4 (by omega));rw[jaC]at hlen;have e:cntT (f+1) l=1+cntT f (jax (comK l) l):=by rw[cntT,if_neg (by omega),if_pos hk]
   exact⟨by omega,fun _ hz=>by omega⟩
  ·have hkid:∀ i,(cutL i l).length≠0→jax 1 (cutL i l)≠[]:=fun i hi e=>by have:=jaC 1 (cutL i l);rw[e]at this;simp at this;omega
   obtain⟨a,ha⟩:∃ a,l[0]?=some a:=⟨_,List.getElem?_eq_getElem (by omega)⟩
   obtain⟨b,hb⟩:∃ b,l[l.length - 1]?=some b:=⟨_,List.getElem?_eq_getElem (by omega)⟩
   have ga:l.getD 0 pd=a:=by rw[List.getD_eq_getElem?_getD,ha];rfl
   have gb:l.getD (l.length - 1) pd=b:=by rw[List.getD_eq_getElem?_getD,hb];rfl
   have ham:=List.mem_of_getElem? ha;have hbm:=List.mem_of_getElem? hb;have hlt:=jb4 h.rise (by omega) ha hb
   obtain⟨g,hgd⟩:∃ g,g=fun i=>if (cutL i l).length=0 then 0 else cntT f (jax 1 (cutL i l)):=⟨_,rfl⟩
   have e:cntT (f+1) l=1+sumF g 16:=by rw[cntT,if_neg (by omega),if_neg hk,hgd]
   have hlen:sumF g 16+4≤3 * l.length:=by
    have hks:=jjC g l (fun i hi=>by rw[hgd];simp only[hi,if_true]) (fun i hi=>by
     have:=(ih _ (jdR i h) (hkid i hi)).all
     rw[jaC]at this;rw[hgd];simp only[if_neg hi];exact this) 16
    have hkc:jbb a.l b.l=0:=by
     have:comK l=jbb a.l b.l:=by unfold comK jcc;rw[ga,gb]
     omega
    cases hbl:b.l with
    | nil=>rw[hbl]at hlt;exact absurd hlt (jaQ _)
    | cons y t =>
     have hy:=jeJ (h.size b hbm).2.2.1 hbl;have cb:=jfd hbm hbl;cases hal:a.l with
     | nil =>
      have:=jhu ⟨a,ham,hal⟩ 16
      have:=jfD cb hy
      omega
     | cons x r =>
      have hx:=jeJ (h.size a ham).2.2.1 hal;have ca:=jfd ham hal;have hxy:x≠y:=by
       intro e;rw[hal,hbl,e]at hkc;simp[jbb]at hkc
      have hne:x.toNat≠y.toNat:=fun e=>hxy (UInt8.toNat_inj.1 e)
      have:=jdp l 16
      have:2≤partsN l 16:=by
       rcases Nat.lt_or_ge x.toNat y.toNat with e | e
       ·exact jef ca cb e hy
       ·exact jef cb ca (by omega) hx
      omega
   exact⟨by omega,fun _ _=>by omega⟩
theorem jmq{α:Type}{R:α→α→Prop}(hi:∀ x,¬ R x x)(ht:∀ x y,R x y→¬ R y x):∀ {a b:List α},a.Pairwise R→b.Pairwise R→(∀ x,x∈a↔x∈b)→a=b
 | [],[],_,_,_=>rfl
 | [],y :: b,_,_,h=>absurd ((h y).2 List.mem_cons_self) (by simp)
 | x :: a,[],_,_,h=>absurd ((h x).1 List.mem_cons_self) (by simp)
 | x :: a,y :: b,ha,hb,h=>by
  rw[List.pairwise_cons]at ha hb;have e:x=y:=by
   rcases List.mem_cons.1 ((h x).1 List.mem_cons_self)with e | h1
   ·exact e
   rcases List.mem_cons.1 ((h y).2 List.mem_cons_self)with e | h2
   ·exact e.symm
   exact absurd (ha.1 y h2) (ht _ _ (hb.1 x h1))
  subst e;rw[jmq hi ht ha.2 hb.2 fun z=>?_];constructor
  ·intro hz
   rcases List.mem_cons.1 ((h z).1 (List.mem_cons_of_mem _ hz))with e | h1
   ·subst e;exact absurd (ha.1 z hz) (hi z)
   ·exact h1
  ·intro hz
   rcases List.mem_cons.1 ((h z).2 (List.mem_cons_of_mem _ hz))with e | h1
   ·subst e;exact absurd (hb.1 z hz) (hi z)
   ·exact h1
def joC(l:List Pair):List Pair:=l.filter fun q=>q.1.size=0
theorem jmx(p:Pair):p.1.size=0↔p.l=[]:=by
 show p.1.data.toList.length=0↔_;exact List.length_eq_zero_iff
theorem jlX(x y:List UInt8)(h:Lt x y):¬ Lt y x:=fun k=>lt_irrefl _ (jcX _ _ _ h k)
theorem jkA{f:Nat}{l:List Pair}(h:ja3 f l):l=joC l++(List.range 16).flatMap fun i=>cutL i l:=by
 refine jmq (R:=fun p q:Pair=>Lt p.l q.l) (fun x=>lt_irrefl _) (fun x y=>jlX _ _) h.rise ?_ fun p=>?_
 ·rw[List.pairwise_append]
  refine⟨h.rise.filter _,?_,fun p hp q hq=>?_⟩
  ·have:∀ n,((List.range n).flatMap fun i=>cutL i l).Pairwise fun p q:Pair=>Lt p.l q.l:=fun n=>by
    induction n with
    | zero=>simp
    | succ n ih =>
     rw[List.range_succ,List.flatMap_append,List.pairwise_append]
     refine⟨ih,?_,fun p hp q hq=>?_⟩
     ·simpa using (jlq n h).rise
     ·obtain⟨i,hi,hp⟩:=List.mem_flatMap.1 hp
      simp only[List.flatMap_cons,List.flatMap_nil,List.append_nil]at hq
      obtain⟨_,a,r,e1,e2⟩:=jbU hp
      obtain⟨_,b,t,e3,e4⟩:=jbU hq
      rw[e1,e3]
      have:=List.mem_range.1 hi
      exact ja0.2 (.inl (UInt8.lt_iff_toNat_lt.2 (by omega)))
   exact this 16
  ·obtain⟨_,hz⟩:=List.mem_filter.1 hp
   obtain⟨i,_,hq⟩:=List.mem_flatMap.1 hq
   obtain⟨_,b,t,e3,_⟩:=jbU hq
   rw[(jmx p).1 (by simpa using hz),e3];exact jl6
 ·rw[List.mem_append]
  constructor
  ·intro hp
   cases hl:p.l with
   | nil=>exact .inl (List.mem_filter.2 ⟨hp,by simpa using (jmx p).2 hl⟩)
   | cons x r =>
    have hx:=jeJ (h.size p hp).2.2.1 hl;exact .inr (List.mem_flatMap.2 ⟨x.toNat,List.mem_range.2 hx,jls hp hl⟩)
  ·rintro (hp | hp)
   ·exact (List.mem_filter.1 hp).1
   ·obtain⟨i,_,hp⟩:=List.mem_flatMap.1 hp
    exact (jbU hp).1
theorem jj6{f:Nat}{l:List Pair}(h:ja3 f l)(hn:l≠[]):joC l=if (l.getD 0 pd).1.size=0 then [l.getD 0 pd]else []:=by
 cases l with
 | nil=>exact absurd rfl hn
 | cons p r =>
  have hr:∀ q∈r,¬ q.1.size=0:=fun q hq h0=>by
   have:=(List.pairwise_cons.1 h.rise).1 q hq
   rw[(jmx q).1 h0]at this;exact jaQ _ this
  have he:r.filter (fun q:Pair=>q.1.size=0)=[]:=by
   rw[List.filter_eq_nil_iff];intro q hq;simpa using hr q hq
  show (p :: r).filter _=if p.1.size=0 then [p]else []
  rw[List.filter_cons,he]
  by_cases h0:p.1.size=0
  ·rw[if_pos h0,if_pos (by simpa using h0)]
  ·rw[if_neg h0,if_neg (by simpa using h0)]
def absF(fr p:ByteArray)(l:List Pair):List Pair:=(l.map fun q=>(p++q.1,q.2)).filter fun q => !ja9 q.1 fr
theorem jiQ(fr p:ByteArray)(a b:List Pair):absF fr p (a++b)=absF fr p a++absF fr p b:=by unfold absF;rw[List.map_append,List.filter_append]
structure jil(Hs:ByteArray→Prop)(p:ByteArray)(f:Nat)(l:List Pair):Prop where
 rows:ja3 f l
 ne:l≠[]
 has:∀ x∈jaD (jad (f+1) l),32≤x.size→Hs x
 key:∀ q∈l,jck (p++q.1)=true∧(p++q.1).size≤12
def Den(Hs:ByteArray→Prop)(fr:ByteArray)(t:Pl5)(R:List Pair)(N:Nat):Prop:=
 (t.value.size≠0∧jck t.path=true∧t.path.size≤12∧ja9 t.path fr=false∧R=[(t.path,t.value)]∧N=0) ∨
 (t.value=⟨#[]⟩∧∃ f l,jil Hs t.path f l∧t.ref=refB (jad (f+1) l).text∧R=absF fr t.path l∧N=cntT f l)
def jcr(Hs:ByteArray→Prop)(fr:ByteArray):List Pl5→List Pair→Nat→Prop
 | [],R,N=>R=[]∧N=0
 | t :: ts,R,N=>∃ R1 R2 N1 N2,R=R1++R2∧N=N1+N2∧Den Hs fr t R1 N1∧jcr Hs fr ts R2 N2
theorem jcr.app{Hs:ByteArray→Prop}{fr:ByteArray}:∀ {a b:List Pl5} {R1 R2:List Pair} {N1 N2:Nat},jcr Hs fr a R1 N1→jcr Hs fr b R2 N2→jcr Hs fr (a++b) (R1++R2) (N1+N2)
 | [],b,R1,R2,N1,N2,h,k=>by
  obtain⟨rfl,rfl⟩:=h
  rw[Nat.zero_add];exact k
 | t :: a,b,R1,R2,N1,N2,h,k=>by
  obtain⟨Ra,Rb,Na,Nb,rfl,rfl,h1,h2⟩:=h
  exact⟨Ra,Rb++R2,Na,Nb+N2,List.append_assoc _ _ _,Nat.add_assoc _ _ _,h1,h2.app k⟩
theorem jcr.one{Hs:ByteArray→Prop}{fr:ByteArray}{t:Pl5}{R:List Pair}{N:Nat}(h:Den Hs fr t R N):jcr Hs fr [t] R N:=⟨R,[],N,0,by simp,by simp,h,rfl,rfl⟩
theorem joG:∀ {a b:List UInt8} (q:List UInt8),Lt a b→a.isPrefixOf b=false→Lt (a++q) b
 | [],b,q,_,h=>by cases b <;> simp at h
 | x :: a,[],q,h,_=>absurd h (jaQ _)
 | x :: a,y :: b,q,h,hp=>by
  rw[List.cons_append];rcases ja0.1 h with h1 |⟨h1,h2⟩
  ·exact ja0.2 (.inl h1)
  ·subst h1
   refine ja0.2 (.inr ⟨rfl,joG q h2 ?_⟩);simpa using hp
theorem jcb(a b:ByteArray):(a++b).data.toList=a.data.toList++b.data.toList:=by rw[ByteArray.data_append,Array.toList_append]
theorem jkU{fr p:ByteArray}(l:List Pair)(h1:ja9 p fr=true)(h2:preB p fr=false):absF fr p l=[]:=by
 unfold absF;rw[List.filter_eq_nil_iff];intro q hq
 obtain⟨x,_,rfl⟩:=List.mem_map.1 hq
 have:ja9 (p++x.1) fr=true:=by
  rw[jbK,jcb];exact joG _ ((jbK _ _).1 h1) h2
 simp[this]
theorem jhd{Hs:ByteArray→Prop}(fr:ByteArray){p:ByteArray}{f:Nat}{l:List Pair}(h:jil Hs p f l):∃ N,N≤cntT f l∧jcr Hs fr (jbs fr p (refB (jad (f+1) l).text)) (absF fr p l) N:=by
 unfold jbs
 by_cases hc:ja9 p fr=true∧preB p fr=false
 ·rw[if_pos (.inr hc),jkU l hc.1 hc.2]
  exact⟨0,Nat.zero_le _,rfl,rfl⟩
 ·rw[if_neg (fun e=>e.elim (jpF h.rows h.ne) hc)]
  exact⟨_,Nat.le_refl _,jcr.one (.inr ⟨rfl,f,l,h,rfl,rfl,rfl⟩)⟩
theorem jhz{Hs:ByteArray→Prop}(fr p v:ByteArray)(hv:v.size≠0)(hk:jck p=true)(hs:p.size≤12):jcr Hs fr (jbv fr p v) ([(p,v)].filter fun q => !ja9 q.1 fr) 0:=by
 unfold jbv;cases hl:ja9 p fr with
 | true=>rw[if_pos (.inr rfl)];simp only[List.filter_cons,hl];exact⟨rfl,rfl⟩
 | false =>
  rw[if_neg (fun e=>e.elim hv (by simp)),if_pos hk];simp only[List.filter_cons,hl,Bool.not_false,if_true,List.filter_nil];exact jcr.one (.inl ⟨hv,hk,hs,hl,rfl,rfl⟩)
theorem jju{α:Type}(g:Nat→List α)(hg:∀ i,(g i).reverse=g i):∀ l:List Nat,(l.reverse.flatMap g).reverse=l.flatMap g
 | []=>rfl
 | x :: l=>by
  rw[List.reverse_cons,List.flatMap_append,List.reverse_append,jju g hg l,List.flatMap_cons];simp[hg]
theorem jhf(fr p r:ByteArray):(jbs fr p r).reverse=jbs fr p r:=by unfold jbs;split <;> rfl
theorem jhB(fr p r:ByteArray):(jbv fr p r).reverse=jbv fr p r:=by
 unfold jbv;split
 ·rfl
 ·split <;> rfl
theorem jqG{x:UInt8}{i:Nat}(h:x.toNat=i):UInt8.ofNat i=x:=by subst h;exact UInt8.ofNat_toNat
theorem jk7{p:ByteArray}{i k:Nat}{q:Pair}{x:UInt8}{r:List UInt8}(h:q.l=x :: r)(hx:x.toNat=i):p++q.1=(p++nib1 i)++q.1.extract 1 q.1.size:=by
 refine jk8 ?_;rw[jcb,jcb,jcb,jcx _ _ _ (Nat.le_refl _)];have h:q.1.data.toList=x :: r:=h;rw[h];unfold nib1;rw[jqG hx];simp
theorem jo4{p:ByteArray}{k:Nat}{q:Pair}{a:ByteArray}(h:q.l.take k=a.data.toList):p++q.1=(p++a)++q.1.extract k q.1.size:=by
 refine jk8 ?_;rw[jcb,jcb,jcb,jcx _ _ _ (Nat.le_refl _), ←h,List.append_assoc];show _++q.l=_++(q.l.take k++q.l.drop k);rw[List.take_append_drop]
theorem jg9(fr p a:ByteArray)(k:Nat)(l:List Pair)(h:∀ q∈l,p++q.1=(p++a)++q.1.extract k q.1.size):absF fr p l=absF fr (p++a) (jax k l):=by
 unfold absF jax;rw[List.map_map];rw[List.map_congr_left fun q hq=>by show (p++q.1,q.2)=((p++a)++q.1.extract k q.1.size,q.2);rw[h q hq]];rfl
theorem jnm{Hs:ByteArray→Prop}(fr p:ByteArray)(f:Nat)(l:List Pair)(n:jac)
  (hn:∀ i,i < 16→n.refs.getD i ⟨#[]⟩=if (cutL i l).length=0 then ⟨#[]⟩else refB (jad (f+1) (jax 1 (cutL i l))).text)
  (hr:∀ i,(cutL i l).length≠0→jil Hs (p++nib1 i) f (jax 1 (cutL i l))) :
  ∀ k,k≤16→∃ N,N≤sumF (fun i=>if (cutL i l).length=0 then 0 else cntT f (jax 1 (cutL i l))) k∧jcr Hs fr ((List.range k).flatMap fun i=>jbs fr (p++nib1 i) (n.refs.getD i ⟨#[]⟩)) (absF fr p ((List.range k).flatMap fun i=>cutL i l)) N:=by
 intro k;induction k with
 | zero=>intro _;exact⟨0,Nat.zero_le _,rfl,rfl⟩
 | succ k ih =>
  intro hk
  obtain⟨N,h1,h2⟩:=ih (by omega)
  rw[List.range_succ,List.flatMap_append,List.flatMap_append,jiQ,sumF];simp only[List.flatMap_cons,List.flatMap_nil,List.append_nil];rw[hn k (by omega)]
  by_cases h0:(cutL k l).length=0
  ·refine⟨N+0,by rw[if_pos h0];omega,h2.app ?_⟩
   rw[if_pos h0,List.eq_nil_of_length_eq_zero h0];unfold jbs;rw[if_pos (.inl rfl)]
   exact⟨rfl,rfl⟩
  ·obtain⟨M,h3,h4⟩:=jhd fr (hr k h0)
   refine⟨N+M,by rw[if_neg h0];omega,h2.app ?_⟩
   rw[if_neg h0,jg9 fr p (nib1 k) 1 (cutL k l) fun q hq=>?_]
   ·exact h4
   ·obtain⟨_,x,r,e1,e2⟩:=jbU hq
    exact jk7 (k:=0) e1 e2
theorem jlS{Hs:ByteArray→Prop}(fr:ByteArray){p:ByteArray}:∀ {f:Nat} {l:List Pair},jil Hs p f l→∃ N,N+1≤cntT f l∧jcr Hs fr (layP fr (jaJ (jad f) l) p).reverse (absF fr p l) N:=by
 intro f l h;have h0:l.length≠0:=fun e=>h.ne (List.eq_nil_of_length_eq_zero e)
 by_cases h1:l.length=1
 ·obtain⟨q,rfl⟩:=List.length_eq_one_iff.1 h1
  have eN:jaJ (jad f) [q]=⟨1,q.1,q.2,jau 16⟩:=rfl;have hq:=h.rows.size q List.mem_cons_self;have hk:=h.key q List.mem_cons_self;rw[eN];unfold layP;rw[if_pos rfl,jhB]
  refine⟨0,?_,jhz fr (p++q.1) q.2 (by omega) hk.1 hk.2⟩
  cases f with
  | zero=>exact Nat.le_refl _
  | succ f=>rw[cntT];omega
 have h2:2≤l.length:=by omega
 cases f with
 | zero=>have:=jdK h.rows;omega
 | succ f =>
  have hcom:=jbZ h.rows h2
  by_cases hk:0 < comK l
  ·have hok:ja3 f (jax (comK l) l):=(jcv (comK l) h.rows (fun p hp q hq=>(hcom p hp).1.trans (hcom q hq).1.symm) (fun p hp=>(hcom p hp).2)).mono (by omega)
   have hne:jax (comK l) l≠[]:=fun e=>by have:=jaC (comK l) l;rw[e]at this;simp at this;omega
   have eB:jaB (jad (f+1)) l=jbV (jad (f+1) (jax (comK l) l)):=by
    unfold jaB;rw[if_neg (by omega),if_pos hk]
   have eN:jaJ (jad (f+1)) l=⟨2,(l.getD 0 pd).1.extract 0 (comK l),⟨#[]⟩,refB (jad (f+1) (jax (comK l) l)).text :: jau 15⟩:=by unfold jaJ;rw[if_neg h0,if_neg h1,if_pos hk]
   have ea:((l.getD 0 pd).1.extract 0 (comK l)).data.toList=(l.getD 0 pd).l.take (comK l):=by
    rw[ByteArray.data_extract,Array.toList_extract,List.extract_eq_take_drop];simp
   have happ:∀ q∈l,p++q.1=(p++(l.getD 0 pd).1.extract 0 (comK l))++q.1.extract (comK l) q.1.size:=fun q hq=>jo4 (by rw[ea];exact (hcom q hq).1);have hR:jil Hs (p++(l.getD 0 pd).1.extract 0 (comK l)) f (jax (comK l) l):=by
    refine⟨hok,hne,fun x hx h32=>h.has x (ji4 hne hok (by rw[eB];exact fun _ hh=>hh) x hx h32) h32,fun q' hq'=>?_⟩
    obtain⟨q,hq,rfl⟩:=List.mem_map.1 hq'
    rw[←happ q hq];exact h.key q hq
   obtain⟨N,i1,i2⟩:=jhd fr hR
   refine⟨N,by rw[cntT,if_neg (by omega),if_pos hk];omega,?_⟩
   rw[eN];unfold layP;rw[if_neg (show ¬((2:Nat)=1) by decide),if_pos rfl,jhf,jg9 fr p _ (comK l) l happ];exact i2
  ·obtain⟨rs,hrs⟩:∃ rs,rs=(List.range 16).map fun i=>if (cutL i l).length=0 then (⟨#[]⟩:ByteArray)else refB (jad (f+1) (jax 1 (cutL i l))).text:=⟨_,rfl⟩
   have eN:jaJ (jad (f+1)) l=⟨3,⟨#[]⟩,if (l.getD 0 pd).1.size=0 then (l.getD 0 pd).2 else ⟨#[]⟩,rs⟩:=by unfold jaJ;rw[if_neg h0,if_neg h1,if_neg hk,hrs]
   have hkid:∀ i,(cutL i l).length≠0→jax 1 (cutL i l)≠[]:=fun i hi e=>by have:=jaC 1 (cutL i l);rw[e]at this;simp at this;omega
   have hR:∀ i,(cutL i l).length≠0→jil Hs (p++nib1 i) f (jax 1 (cutL i l)):=fun i hi=>by
    refine⟨jdR i h.rows,hkid i hi,fun x hx h32=>h.has x (ji4 (hkid i hi) (jdR i h.rows) ?_ x hx h32) h32,fun q' hq'=>?_⟩
    ·obtain⟨q,hq⟩:∃ q,q∈cutL i l:=by
      cases hc:cutL i l with
      | nil=>rw[hc]at hi;exact absurd rfl hi
      | cons q r=>exact⟨q,List.mem_cons_self⟩
     obtain⟨hq1,x,r,e1,e2⟩:=jbU hq
     have hx:=jeJ (h.rows.size q hq1).2.2.1 e1;intro T hT;unfold jaB;rw[if_neg (by omega),if_neg hk];refine List.mem_flatMap.2 ⟨i,List.mem_range.2 (by omega),?_⟩;rw[if_neg hi];exact hT
    ·obtain⟨q,hq,rfl⟩:=List.mem_map.1 hq'
     obtain⟨hq1,x,r,e1,e2⟩:=jbU hq
     rw[←jk7 (p:=p) (k:=0) e1 e2];exact h.key q hq1
   obtain⟨N,i1,i2⟩:=jnm fr p f l ⟨3,⟨#[]⟩,if (l.getD 0 pd).1.size=0 then (l.getD 0 pd).2 else ⟨#[]⟩,rs⟩ (fun i hi=>by show rs.getD i ⟨#[]⟩=_;rw[hrs,jkg _ hi]) hR 16 (Nat.le_refl _)
   refine⟨0+N,by rw[cntT,if_neg (by omega),if_neg hk];omega,?_⟩
   rw[eN];unfold layP;rw[if_neg (show ¬((3:Nat)=1) by decide),if_neg (show ¬((3:Nat)=2) by decide),if_pos rfl,List.reverse_append,jhB];unfold jit;rw[jju _ (fun i=>jhf _ _ _)]
   conv=>arg 4;rw[jkA h.rows,jiQ]
   refine jcr.app ?_ i2;rw[jj6 h.rows h.ne]
   by_cases hz:(l.getD 0 pd).1.size=0
   ·simp only[if_pos hz]
    have hm:l.getD 0 pd∈l:=by
     rw[List.getD_eq_getElem?_getD,List.getElem?_eq_getElem (by omega)];exact List.getElem_mem _
    have hq:=h.rows.size _ hm;have hkk:=h.key _ hm;have e:p++(l.getD 0 pd).1=p:=by rw[jbS hz];exact ByteArray.append_empty
    rw[e]at hkk
    have:=jhz (Hs:=Hs) fr p (l.getD 0 pd).2 (by omega) hkk.1 hkk.2
    unfold absF;simp only[List.map_cons,List.map_nil,e];exact this
   ·simp only[if_neg hz]
    unfold jbv;rw[if_pos (.inl rfl)]
    exact⟨rfl,rfl⟩
end
section
open Go Go.RowKit
attribute [local go_sem] Oper.semAt_some
theorem jaP.blk{c s:Nat}{fr:ByteArray}{W W':World}{v v':Value}{ps:List Pl5}{lk:Int}(h:jaP c s fr W v W' v' ps lk){b:Nat}{o:Obj}(hB:Blk W b o)(h1:b≠c)(h2:v.ownBlock≠some b):Blk W' b o:=hB.keeps h.kp (fun e=>e.elim h1 h2)
def revJ(j:Nat):List Nat:=(List.range 16).reverse.take j
theorem jmk{j:Nat}(h:j < 16):revJ (j+1)=revJ j++[15 - j]:=by
 unfold revJ
 have:(List.range 16).reverse[j]?=some (15 - j):=by
  rw[List.getElem?_reverse (by simpa using h),List.length_range,List.getElem?_range (by omega)]
 rw[List.take_add_one,this];rfl
def jfh(fr:ByteArray)(n:jac)(p:ByteArray)(j:Nat):List Pl5:=(revJ j).flatMap fun i=>jbs fr (p++nib1 i) (n.refs.getD i ⟨#[]⟩)
theorem jj5(fr:ByteArray)(n:jac)(p:ByteArray){j:Nat}(h:j < 16):jfh fr n p (j+1)=jfh fr n p j++jbs fr (p++nib1 (15 - j)) (n.refs.getD (15 - j) ⟨#[]⟩):=by
 unfold jfh;rw[jmk h,List.flatMap_append];simp
theorem jhy(fr:ByteArray)(n:jac)(p:ByteArray):jfh fr n p 16=jit fr n p 16:=rfl
theorem jhe(fr p r:ByteArray):(jbs fr p r).length≤1:=by unfold jbs;split <;> simp
theorem jhA(fr p r:ByteArray):(jbv fr p r).length≤1:=by
 unfold jbv;split
 ·simp
 ·split <;> simp
theorem ji6{α β:Type}(g:α→List β)(hg:∀ a,(g a).length≤1):∀ l:List α,(l.flatMap g).length≤l.length
 | []=>by simp
 | x :: l=>by
  have:=ji6 g hg l
  have:=hg x
  rw[List.flatMap_cons,List.length_append,List.length_cons];omega
theorem jfi(fr:ByteArray)(n:jac)(p:ByteArray)(j:Nat):(jfh fr n p j).length≤16:=by
 have h1:=ji6 (fun i=>jbs fr (p++nib1 i) (n.refs.getD i ⟨#[]⟩)) (fun i=>jhe _ _ _) (revJ j);have h2:(revJ j).length≤16:=by unfold revJ;rw[List.length_take];simp;omega
 unfold jfh;omega
theorem jfz(fr:ByteArray)(n:jac)(p:ByteArray):(layP fr n p).length≤17:=by
 unfold layP;split
 ·have:=jhA fr (p++n.path) n.value;omega
 ·split
  ·have:=jhe fr (p++n.path) (n.refs.getD 0 ⟨#[]⟩);omega
  ·split
   ·have h1:=jfi fr n p 16
    rw[jhy]at h1
    have:=jhA fr p n.value
    rw[List.length_append];omega
   ·simp
theorem jnJ(W:World)(c s:Nat)(fr:ByteArray)(v:Value)(ps:List Pl5)(lk:Int)(h:jaS W c s fr v ps lk)(hps:ps.length≤900000)(pa va:ByteArray)(rs:List ByteArray)(hr:rs.length=16)(p:ByteArray)(hp:p.size+pa.size≤900000) :
  Calls Tryz.prog 98 #[.pointer (some ⟨c,0,none⟩),(jac.mk 1 pa va rs).V,.string p] W (jcs c s fr W v (ps++jbv fr (p++pa) va) lk):=by
 have hl:(jac.cells ⟨1,pa,va,rs⟩).length=19:=jac.cells_len _ hr;have HL:=Hd hl;have H:=Hd h;clear hl h;unfold jac.V;have e0:(jac.cells ⟨1,pa,va,rs⟩)[0]?=some (.int .i64 1):=rfl;have e1:(jac.cells ⟨1,pa,va,rs⟩)[1]?=some (.string pa):=rfl;have e2:(jac.cells ⟨1,pa,va,rs⟩)[2]?=some (.string va):=rfl
 obtain⟨qs,hqs⟩:∃ qs,qs=ps++jbv fr (p++pa) va:=⟨_,rfl⟩
 have HQ:=Hd hqs;rw[←hqs];clear hqs;go_enter Tryz.func98,Tryz.ntmps98;go_wp2_with fail
 have hE:Ext W (W.alloc (.cells (jac.cells ⟨1,pa,va,rs⟩).toArray 144)):=(ExtR W).alloc _;refine (jly _ c s fr v ps lk (H.o.ext hE) (by omega) (p++pa) va (by rw[ByteArray.size_append];omega)).mono ?_;rw[←HQ.o];rintro e w1 ⟨rfl,v1,hT⟩;have HT:=Hd (jaP.ahead hE hT);clear hT hE;go_wp2_with fail
 refine bodyPost_end (results_none rfl _ _ _) rfl ?_
 exact⟨rfl,v1,HT.o⟩
theorem jps(W:World)(c s:Nat)(fr:ByteArray)(v:Value)(ps:List Pl5)(lk:Int)(h:jaS W c s fr v ps lk)(hps:ps.length≤900000)(hf:fr.size≤1000000)(pa va r:ByteArray)(rs:List ByteArray)(hr:(r :: rs).length=16)(p:ByteArray)(hp:p.size+pa.size≤900000) :
  Calls Tryz.prog 98 #[.pointer (some ⟨c,0,none⟩),(jac.mk 2 pa va (r :: rs)).V,.string p] W (jcs c s fr W v (ps++jbs fr (p++pa) r) lk):=by
 have hl:(jac.cells ⟨2,pa,va,r :: rs⟩).length=19:=jac.cells_len _ hr;have HL:=Hd hl;have H:=Hd h;clear hl h;unfold jac.V;have e0:(jac.cells ⟨2,pa,va,r :: rs⟩)[0]?=some (.int .i64 2):=rfl;have e1:(jac.cells ⟨2,pa,va,r :: rs⟩)[1]?=some (.string pa):=rfl;have e3:(jac.cells ⟨2,pa,va,r :: rs⟩)[3]?=some (.string r):=rfl
 obtain⟨qs,hqs⟩:∃ qs,qs=ps++jbs fr (p++pa) r:=⟨_,rfl⟩
 have HQ:=Hd hqs;rw[←hqs];clear hqs;go_enter Tryz.func98,Tryz.ntmps98;go_wp2_with fail
 have hE:Ext W (W.alloc (.cells (jac.cells ⟨2,pa,va,r :: rs⟩).toArray 144)):=(ExtR W).alloc _;refine (jhc _ c s fr v ps lk (H.o.ext hE) (by omega) (p++pa) r (by rw[ByteArray.size_append];omega) hf).mono ?_;rw[←HQ.o];rintro e w1 ⟨rfl,v1,hT⟩;have HT:=Hd (jaP.ahead hE hT);clear hT hE;go_wp2_with fail
 refine bodyPost_end (results_none rfl _ _ _) rfl ?_
 exact⟨rfl,v1,HT.o⟩
theorem jgD{F:BSet}{w2 w3:World}{m:Nat}{a:Act}{o:Oper}(ho:execOp a.eval o=(do pure (.value (←convert 92 9 (.slice (some ⟨w2.heap.size,0,none⟩) 1 1)))))
  (h:jae F (w2.alloc (.cells #[.int .u8 (m:Int)] 5)) w3) (hF:¬ F w2.heap.size) (hm:m < 16):(execOp a.eval o).run Tryz.prog w3=.ok (.value (.string (nib1 m))) w3:=by
 have hB:=(Blk.new w2 (.cells #[.int .u8 (m:Int)] 5)).keeps h hF;have hbm:(m:Int)=((UInt8.ofNat m).toNat:Int):=by rw[jmK m (by omega)]
 have hO:w3.ownsRow 0 5 1 (.slice (some ⟨w2.heap.size,0,none⟩) 1 1) 1 (jay [UInt8.ofNat m]):=
  ⟨rfl,.inr ⟨_,1,_,rfl,Nat.zero_le _,hB,Nat.le_refl _,by unfold maxLen;omega,rfl,by rw[hbm];rfl⟩⟩
 have hc:=jbo w3 Tryz.uBytes Tryz.uU8 Tryz.uStr hO;rw[ho,Sem.run_bind,hc];rfl
def jq8(c s:Nat)(fr:ByteArray)(W1:World)(v:Value)(ps:List Pl5)(lk:Int)(n:jac)(p:ByteArray)(iv:Value)(wr:World):Prop:=∃ j:Nat,j≤16∧iv=.int .i64 (15 - (j:Int))∧∃ v',jaP c s fr W1 v wr v' (ps++jfh fr n p j) lk
theorem Tryz.enterAheadCur:∀ args w,(callFunc 148 args).run Tryz.prog w=.ok (.enter 148 args) w:=fun _ _=>by kernel_rfl
theorem jkj(W:World)(c s:Nat)(fr:ByteArray)(v:Value)(ps:List Pl5)(lk:Int)(h:jaS W c s fr v ps lk)(hps:ps.length≤900000)(hf:fr.size≤1000000)(pa va:ByteArray)(rs:List ByteArray)(hr:rs.length=16)(p:ByteArray)(hp:p.size+pa.size≤900000) :
  Calls Tryz.prog 98 #[.pointer (some ⟨c,0,none⟩),(jac.mk 3 pa va rs).V,.string p] W (jcs c s fr W v (ps++(jit fr ⟨3,pa,va,rs⟩ p 16++jbv fr p va)) lk):=by
 have hl:(jac.cells ⟨3,pa,va,rs⟩).length=19:=jac.cells_len _ hr;have HL:=Hd hl;have HR:=Hd hr;have H:=Hd h;clear hl h hr;unfold jac.V;have e0:(jac.cells ⟨3,pa,va,rs⟩)[0]?=some (.int .i64 3):=rfl;have e2:(jac.cells ⟨3,pa,va,rs⟩)[2]?=some (.string va):=rfl
 obtain⟨qs,hqs⟩:∃ qs,qs=ps++(jit fr ⟨3,pa,va,rs⟩ p 16++jbv fr p va):=⟨_,rfl⟩
 have HQ:=Hd hqs;rw[←hqs];clear hqs;go_enter Tryz.func98,Tryz.ntmps98;go_wp2_with fail
 have hE:Ext W (W.alloc (.cells (jac.cells ⟨3,pa,va,rs⟩).toArray 144)):=(ExtR W).alloc _;have hB:=Blk.new W (.cells (jac.cells ⟨3,pa,va,rs⟩).toArray 144)
 obtain⟨W1,hW1⟩:∃ W1,W1=W.alloc (.cells (jac.cells ⟨3,pa,va,rs⟩).toArray 144):=⟨_,rfl⟩
 rw[←hW1]at hE hB ⊢;have hne:v.ownBlock≠some W.heap.size:=fun e=>by have:=jee H.o.row e;omega
 have hnc:W.heap.size≠c:=by have:=H.o.cur.lt;omega
 have HE:=Hd hE;have HB:=Hd hB;have HN:=Hd (And.intro hne hnc);have HZ:=Hd (show W1.heap.size=W.heap.size+1 by rw[hW1];simp);clear hW1 hE hB hne hnc;go_loopw [6] (fun iv wr=>jq8 c s fr W1 v ps lk ⟨3,pa,va,rs⟩ p iv wr) (fun iv _=>(intOf iv+1).toNat)
 case atStart=>exact⟨0,by omega,rfl,v,by rw[show jfh fr ⟨3,pa,va,rs⟩ p 0=[]from rfl,List.append_nil];exact jaP.refl (H.o.ext HE.o)⟩
 case round =>
  obtain⟨j,hj,rfl,v',hT⟩:=hrel
  have HT:=Hd hT;have HNB:=Hd (hT.blk HB.o HN.o.2 HN.o.1);clear hT
  by_cases hlt:j < 16
  ·obtain⟨m,hm⟩:∃ m,m=15 - j:=⟨_,rfl⟩
   have hmi:(15:Int) - (j:Int)=(m:Int):=by omega
   have hm16:m < 16:=by omega
   rw[hmi];have b1:(0:Int)≤(m:Int):=by omega
   have b2:¬(m:Int) < 0:=by omega
   have b3:(m:Int) < 16:=by omega
   have b4:(m:Int).toNat=m:=by omega
   have HM:=Hd (And.intro hm hmi)
   obtain⟨r,hr⟩:∃ r,rs[m]?=some r:=⟨_,List.getElem?_eq_getElem (by rw[HR.o];exact hm16)⟩
   have HRM:=Hd hr;have Q3:=Hd (HNB.o.cellL (i:=3+m) (v:=.string r) (by
    show (_ :: _ :: _ :: rs.map Value.string)[3+m]?=_;rw[show 3+m=m+1+1+1 by omega];simp[HRM.o]))
   have NB:Hid (v'.ownBlock≠some wr.heap.size∧wr.heap.size≠c):=Hd ⟨fun e=>by have:=jee HT.o.at'.row e;omega,by have:=HT.o.at'.cur.lt;omega⟩;have b5:¬(9223372036854775807 < p.size+(nib1 m).size):=by show ¬(_ < p.size+1);omega
   have NV:=Hd (show ¬(W.heap.size=c∨v'.ownBlock=some W.heap.size)from fun e=>by
    rcases e with e | e
    ·exact HN.o.2 e
    ·rcases HT.o.new with h1 | h1
     ·exact HN.o.1 (h1 ▸ e)
     ·have:=h1 _ e;have:=HZ.o;omega)
   clear hm hmi hr;go_wp2_with fail
   refine jbR [0,1,2,3,7,8,9,10,4,5,6,11] [4,11] Ext (jae (fun b=>b=c∨v'.ownBlock=some b)) ExtR ExtT (fun x y z h k=>jae.trans h k) (fun x y h=>h.mono (fun _ _ h=>h.elim)) (by kernel_rfl) (by kernel_rfl) (by kernel_rfl) ?_;iterate 7 (refine ja5 _ rfl (by kernel_rfl) rfl rfl (fun K hK=>?_);go_big_quiet_op;refine hK _ ?_;clear hK K)
   refine jb3 ⟨W.heap.size,3+m,none⟩ _ rfl (by kernel_rfl) rfl rfl (fun w2 h2=>jaa Tryz.uStr rfl (jaY (jab (by exact Q3.o) (jav _)) h2 NV.o)) ?_;simp only[Act.put,sA,sB,sC];refine jbz _ rfl (by kernel_rfl) rfl (fun w2 he K hK=>?_);have HX2:=Hd (show Ext wr w2 from(jav _).trans he);clear he;go_simp;refine hK _ _ ((jae.refl _ w2).alloc _) ?_;clear hK K;refine jeX _ (.string (nib1 m)) rfl (by kernel_rfl) rfl (fun w3 h3=>jgD (by kernel_rfl) h3 (fun e=>e.elim (fun e=>by have:=(HT.o.at'.cur).lt;have:=HX2.o.size;omega) (fun e=>by have:=jee HT.o.at'.row e;have:=HX2.o.size;omega)) hm16) ?_;simp only[Act.put,sA,sB,sC];refine ja5 _ rfl (by kernel_rfl) rfl rfl (fun K hK=>?_);go_big_quiet_op;refine hK _ ?_;clear hK K;refine jbz _ rfl (by kernel_rfl) rfl (fun w4 he K hK=>?_);have HX4:=Hd (show Ext wr w4 from(HX2.o.alloc _).trans he);clear he;refine jdD (jaw Tryz.enterAheadCur (by kernel_rfl)) ((jhc w4 c s fr v' _ lk (HT.o.at'.ext HX4.o) (by have:=jfi fr ⟨3,pa,va,rs⟩ p j;rw[List.length_append];omega) (p++nib1 m) r (by rw[ByteArray.size_append];show p.size+1≤_;omega) hf).mono ?_);rintro e w5 ⟨rfl,v5,hT5⟩;have hq:ps++jfh fr ⟨3,pa,va,rs⟩ p j++jbs fr (p++nib1 m) r=ps++jfh fr ⟨3,pa,va,rs⟩ p (j+1):=by
    rw[jj5 fr _ p hlt,List.append_assoc, ←HM.o.1]
    have:(jac.mk 3 pa va rs).refs.getD m ⟨#[]⟩=r:=by show rs.getD m ⟨#[]⟩=r;rw[List.getD_eq_getElem?_getD,HRM.o];rfl
    rw[this]
   rw[hq]at hT5;have HT5:=Hd hT5
   refine⟨_,rfl,hK _ _ hT5.kp ?_⟩
   clear hK K hT5 hq;simp only[Act.put,sA,sB,sC];refine jed (by kernel_rfl) (fun w6 he=>?_);have HT6:=Hd (HT.o.trans ((jaP.ahead HX4.o HT5.o).ext he));clear he;go_wp2_with fail
   go_roundw
   case rel=>exact⟨j+1,by omega,by have:=HM.o.2;have:=HM.o.1;simp;omega,v5,HT6.o⟩
   case measure=>simp[intOf]
  ·obtain rfl:j=16:=by omega
   have b1:(15:Int) - ((16:Nat):Int) = -1:=by omega
   rw[b1];have q2:=HNB.o.cellL (i:=2) (v:=.string va) e2;go_wp2_with fail
   refine (jly wr c s fr v' _ lk HT.o.at' (by have:=jfi fr ⟨3,pa,va,rs⟩ p 16;rw[List.length_append];omega) p va (by omega)).mono ?_;rintro e w1 ⟨rfl,v1,hT⟩;have hq:ps++jfh fr ⟨3,pa,va,rs⟩ p 16++jbv fr p va=qs:=by rw[HQ.o,jhy,List.append_assoc]
   rw[hq]at hT;have HT2:=Hd (jaP.ahead HE.o (HT.o.trans hT));clear hT hq;go_wp2_with fail
   refine bodyPost_end (results_none rfl _ _ _) rfl ?_
   exact⟨rfl,v1,HT2.o⟩
theorem jnK(W:World)(c s:Nat)(fr:ByteArray)(v:Value)(ps:List Pl5)(lk:Int)(h:jaS W c s fr v ps lk)(pa va:ByteArray)(rs:List ByteArray)(hr:rs.length=16)(p:ByteArray) :
  Calls Tryz.prog 98 #[.pointer (some ⟨c,0,none⟩),(jac.mk 0 pa va rs).V,.string p] W (jcs c s fr W v ps lk):=by
 have hl:(jac.cells ⟨0,pa,va,rs⟩).length=19:=jac.cells_len _ hr;have HL:=Hd hl;have H:=Hd h;clear hl h;unfold jac.V;have e0:(jac.cells ⟨0,pa,va,rs⟩)[0]?=some (.int .i64 0):=rfl;go_enter Tryz.func98,Tryz.ntmps98;go_wp2_with fail
 refine bodyPost_end (results_none rfl _ _ _) rfl ?_
 exact⟨rfl,v,(jaP.refl H.o).ext ((ExtR W).alloc _)⟩
theorem jqB(W:World)(c s:Nat)(fr:ByteArray)(v:Value)(ps:List Pl5)(lk:Int)(h:jaS W c s fr v ps lk)(hps:ps.length≤900000)(hf:fr.size≤1000000)(n:jac)(hk:n.kind≤3)(hr:n.refs.length=16)(p:ByteArray)(hp:p.size+n.path.size≤900000) :
  Calls Tryz.prog 98 #[.pointer (some ⟨c,0,none⟩),n.V,.string p] W (jcs c s fr W v (ps++layP fr n p) lk):=by
 obtain⟨k,pa,va,rs⟩:=n
 have hk:k≤3:=hk;have hr:rs.length=16:=hr;rcases Nat.lt_or_ge 0 k with h0 | h0
 ·rcases Nat.lt_or_ge 1 k with h1 | h1
  ·rcases Nat.lt_or_ge 2 k with h2 | h2
   ·obtain rfl:k=3:=by omega
    have e:layP fr ⟨3,pa,va,rs⟩ p=jit fr ⟨3,pa,va,rs⟩ p 16++jbv fr p va:=by
     unfold layP;rw[if_neg (show ¬((3:Nat)=1) by decide),if_neg (show ¬((3:Nat)=2) by decide),if_pos rfl]
    rw[e];exact jkj W c s fr v ps lk h hps hf pa va rs hr p hp
   ·obtain rfl:k=2:=by omega
    cases rs with
    | nil=>simp at hr
    | cons r rs =>
     have e:layP fr ⟨2,pa,va,r :: rs⟩ p=jbs fr (p++pa) r:=by
      unfold layP;rw[if_neg (show ¬((2:Nat)=1) by decide),if_pos rfl];rfl
     rw[e];exact jps W c s fr v ps lk h hps hf pa va r rs hr p hp
  ·obtain rfl:k=1:=by omega
   have e:layP fr ⟨1,pa,va,rs⟩ p=jbv fr (p++pa) va:=by unfold layP;rw[if_pos rfl]
   rw[e];exact jnJ W c s fr v ps lk h hps pa va rs hr p hp
 ·obtain rfl:k=0:=by omega
  have e:layP fr ⟨0,pa,va,rs⟩ p=[]:=by
   unfold layP;rw[if_neg (show ¬((0:Nat)=1) by decide),if_neg (show ¬((0:Nat)=2) by decide),if_neg (show ¬((0:Nat)=3) by decide)]
  rw[e,List.append_nil];exact jnK W c s fr v ps lk h pa va rs hr p
end
end Go.Proofs.YtcpnjmcipainpaaGreatDoor
