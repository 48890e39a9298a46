/- Lemmas; each is under no condition but those that it states. -/
import Derived.Test.YtmobgkphhbmhbaaGreatDoorPe30
namespace Go.Proofs.YtmobgkphhbmhbaaGreatDoor
set_option linter.unusedSimpArgs false
set_option linter.unusedVariables false
set_option maxRecDepth 100000
set_option maxHeartbeats 16000000
open Go Go.RowKit
section
attribute [local go_sem] Oper.semAt_some
def jcs(S:vT):vM:=S.flatMap fun y=>y.2.2.refs
structure Cnt(S:vT):Prop where
 used:∀ x∈S,x.2.2.used=(cK (jcs S) x.1:Int)
 shut:∀ r∈jcs S,r.data.toList∈S.map (·.1)
 held:∀ x∈S,0<=x.2.2.held
 r16:∀ x∈S,x.2.2.refs.length<=16
def jb1(S:vT):Int:=(S.map fun x=>x.2.2.held).sum
theorem Cnt.none:Cnt []:=⟨by simp,by simp[jcs],by simp,by simp⟩
theorem jl3{S:vT}(h:∀ x∈S,x.2.2.refs.length<=16):(jcs S).length<=16 * S.length:=by
 induction S with
 | nil=>simp[jcs]
 | cons x r ih =>
  have q:=ih fun y o=>h y (bD _ o);have z:=h x bF;have e:jcs (x :: r)=x.2.2.refs++jcs r:=by simp[jcs]
  rw[e,bG,bQ];omega
theorem jtr(T:vM)(k:Key):cK T k<=T.length:=by
 unfold cK;have:=jB (a:=k) (l:=T.map (·.data.toList));rwa [bZ]at this
theorem jxQ{T:vM}{k:Key}(h:0 < cK T k):∃ r∈T,r.data.toList=k:=by
 unfold cK at h
 obtain⟨r,o,e⟩:=bC.1 (fZ.1 h)
 exact⟨r,o,e⟩
theorem Cnt.bd{S:vT}(h:Cnt S)(hl:S.length<=1000):∀ x∈S,0<=x.2.2.used/\x.2.2.used<=16000:=fun x e=>by
 have o:=h.used x e;have q:=jtr (jcs S) x.1;have z:=jl3 h.r16;omega
def jdj(T:vM)(x:Nd5):Nd5:=(x.1,x.2.1,⟨x.2.2.text,x.2.2.refs,x.2.2.used - (cK T x.1:Int),x.2.2.held⟩)
def decU(k:Key)(L:vT):vT:=L.map fun x=>if x.1=k then (x.1,x.2.1,putF 2 (x.2.2.used - 1) x.2.2)else x
theorem jrA(S:vT):S.map (jdj [])=S:=by
 have:(jdj []:Nd5->Nd5)=id:=funext fun x=>by
  unfold jdj cK;simp
 rw[this,iK]
theorem jpz(T:vM)(r:vB)(S:vT):S.map (jdj (T++[r]))=decU r.data.toList (S.map (jdj T)):=by
 unfold decU;rw[cT];refine cS fun x _=>?_;simp only[Function.comp];have o:cK (T++[r]) x.1=cK T x.1+(if x.1=r.data.toList then 1 else 0):=by
  rw[jnw]
  congr 1
  have:=jhQ r [] x.1
  rw[this];simp[cK]
 by_cases e:x.1=r.data.toList
 ·rw[if_pos e]at o
  rw[if_pos (show (jdj T x).1=r.data.toList from e)];unfold jdj putF;simp only[if_true];rw[o];refine congrArg (fun z=>(x.1,x.2.1,z)) ?_
  congr 1
  push_cast
  omega
 ·rw[if_neg e]at o
  rw[if_neg (show ¬(jdj T x).1=r.data.toList from e)];unfold jdj;rw[o];simp
theorem jg5(T:vM)(S:vT):(S.map (jdj T)).map (·.1)=S.map (·.1):=by rw[cT];rfl
theorem jjm(T:vM)(S:vT):jcs (S.map (jdj T))=jcs S:=by
 unfold jcs;rw[List.flatMap_map];rfl
theorem juK{W:vW}{bm:Nat}{L:vT}(h:jcG W bm L){k:Key}{y:Nd5}(hy:atL L k=some y):L.map (setB 2 y.2.1 (y.2.2.used - 1))=decU k L:=by
 obtain⟨H,J,_,z⟩:=h.mp
 have o:=z.keys;rw[cT]at o;have o:(L.map (·.1)).Nodup:=o;unfold decU;refine cS (fun x q=>?_);unfold setB
 by_cases e:x.2.1=y.2.1
 ·have:x=y:=jaQ h.blks q (jaF hy).1 e
  subst this;rw[if_pos rfl,if_pos (jaF hy).2]
 ·rw[if_neg e,if_neg]
  intro E
  have:x=y:=jaQ o q (jaF hy).1 (E.trans (jaF hy).2.symm)
  subst this;exact e rfl
theorem jtA{S:vT}(hn:(S.map (·.1)).Nodup){y:Nd5}(hy:y∈S)(k:Key):cK (jcs S) k=cK y.2.2.refs k+cK (jcs (delL S y.1)) k:=by
 induction S with
 | nil=>cases hy
 | cons x r ih =>
  rw[bJ,cZ]at hn;have e:jcs (x :: r)=x.2.2.refs++jcs r:=by simp[jcs]
  rw[e,jnw];rcases bK.1 hy with rfl | hy
  ·have:delL (y :: r) y.1=r:=by
    unfold delL;rw[iO (by simp),gU];intro z q
    have:y.1≠z.1:=fun e=>hn.1 (bC.2 ⟨z,q,e.symm⟩)
    simpa using this
   rw[this]
  ·have o:y.1≠x.1:=fun e=>hn.1 (bC.2 ⟨y,hy,e⟩)
   have:delL (x :: r) y.1=x :: delL r y.1:=by unfold delL;rw[iN (by simpa using o)]
   rw[this,ih hn.2 hy];have E:jcs (x :: delL r y.1)=x.2.2.refs++jcs (delL r y.1):=by simp[jcs]
   rw[E,jnw];omega
theorem jfo(T:vM)(S:vT)(k:Key):delL (S.map (jdj T)) k=(delL S k).map (jdj T):=by
 unfold delL;rw[iV];rfl
theorem jew{S:vT}{k:Key}{x:Nd5}:x∈delL S k↔x∈S/\x.1≠k:=by
 unfold delL;rw[cH];simp only[gM,decide_eq_false_iff_not]
 exact⟨fun h=>⟨h.1,fun e=>h.2 e.symm⟩,fun h=>⟨h.1,fun e=>h.2 e.symm⟩⟩
theorem jvV{S:vT}(hn:(S.map (·.1)).Nodup)(h:Cnt S){y:Nd5}(hy:y∈S)(h0:y.2.2.used=0):Cnt (delL (S.map (jdj y.2.2.refs)) y.1):=by
 rw[jfo];have J:cK (jcs S) y.1=0:=by have:=h.used y hy;omega
 refine⟨fun x q=>?_,fun r H=>?_,fun x q=>?_,fun x q=>?_⟩
 ·obtain⟨z,o,rfl⟩:=bC.1 q
  have O:=h.used z (jew.1 o).1;have Q:=jtA hn hy z.1;show z.2.2.used - (cK y.2.2.refs z.1:Int)=(cK (jcs ((delL S y.1).map (jdj y.2.2.refs))) z.1:Int);rw[jjm];omega
 ·rw[jjm]at H
  rw[jg5];have E:r∈jcs S:=by
   obtain⟨z,o,H⟩:=cI.1 H
   exact cI.2 ⟨z,(jew.1 o).1,H⟩
  obtain⟨z,o,e⟩:=bC.1 (h.shut r E)
  refine bC.2 ⟨z,jew.2 ⟨o,fun K=>?_⟩,e⟩
  have:=jqA E
  rw[<-e,K]at this;omega
 ·obtain⟨z,o,rfl⟩:=bC.1 q
  exact h.held z (jew.1 o).1
 ·obtain⟨z,o,rfl⟩:=bC.1 q
  exact h.r16 z (jew.1 o).1
theorem jps(T:vM)(S:vT):jb1 (S.map (jdj T))=jb1 S:=by
 unfold jb1;rw[cT];rfl
theorem jri{S:vT}(hn:(S.map (·.1)).Nodup){y:Nd5}(hy:y∈S):jb1 S=y.2.2.held+jb1 (delL S y.1):=by
 induction S with
 | nil=>cases hy
 | cons x r ih =>
  rw[bJ,cZ]at hn;have e:∀ (a:Nd5) b,jb1 (a :: b)=a.2.2.held+jb1 b:=fun a b=>by unfold jb1;rw[bJ,List.sum_cons]
  rw[e];rcases bK.1 hy with rfl | hy
  ·have:delL (y :: r) y.1=r:=by
    unfold delL;rw[iO (by simp),gU];intro z q
    have:y.1≠z.1:=fun e=>hn.1 (bC.2 ⟨z,q,e.symm⟩)
    simpa using this
   rw[this]
  ·have o:y.1≠x.1:=fun e=>hn.1 (bC.2 ⟨y,hy,e⟩)
   have:delL (x :: r) y.1=x :: delL r y.1:=by unfold delL;rw[iN (by simpa using o)]
   rw[this,e,ih hn.2 hy];omega
theorem jrj{S:vT}(hn:(S.map (·.1)).Nodup)(hb:(S.map (·.2.1)).Nodup){y:Nd5}(hy:y∈S)(v:Int):jb1 (S.map (setB 3 y.2.1 v))=jb1 S+v - y.2.2.held:=by
 have e:∀ (a:Nd5) b,jb1 (a :: b)=a.2.2.held+jb1 b:=fun a b=>by unfold jb1;rw[bJ,List.sum_cons]
 clear hn;induction S with
 | nil=>cases hy
 | cons x r ih =>
  rw[bJ,cZ]at hb;rw[bJ,e,e];rcases bK.1 hy with rfl | hy
  ·have o:(setB 3 y.2.1 v y).2.2.held=v:=by unfold setB putF;simp
   have E:r.map (setB 3 y.2.1 v)=r:=by
    conv=>rhs;rw[<-iK r]
    refine cS fun z H=>?_;unfold setB;rw[if_neg (fun e=>hb.1 (bC.2 ⟨z,H,e⟩))];rfl
   rw[o,E];omega
  ·have q:¬ x.2.1=y.2.1:=fun e=>hb.1 (bC.2 ⟨y,hy,e.symm⟩)
   have o:setB 3 y.2.1 v x=x:=by unfold setB;rw[if_neg q]
   rw[o,ih hb.2 hy];omega
theorem jjE(c:Nat)(v:Int)(S:vT):(S.map (setB 3 c v)).map (·.1)=S.map (·.1):=by
 rw[cT];refine cS fun x _=>?_;simp only[Function.comp,setB];split <;> rfl
theorem jcZ(c:Nat)(v:Int)(x:Nd5):(setB 3 c v x).2.2.used=x.2.2.used/\(setB 3 c v x).2.2.refs=x.2.2.refs/\(setB 3 c v x).1=x.1/\(setB 3 c v x).2.2.text=x.2.2.text/\(setB 3 c v x).2.1=x.2.1:=by
 unfold setB putF;split <;> simp
theorem jjF(c:Nat)(v:Int)(S:vT):jcs (S.map (setB 3 c v))=jcs S:=by
 unfold jcs;rw[List.flatMap_map]
 have:(fun x=>(setB 3 c v x).2.2.refs)=fun x:Nd5=>x.2.2.refs:=funext fun x=>(jcZ c v x).2.1
 rw[this]
theorem jvW{S:vT}(h:Cnt S)(c:Nat){v:Int}(hv:0<=v):Cnt (S.map (setB 3 c v)):=by
 refine⟨fun x o=>?_,fun r E=>?_,fun x o=>?_,fun x o=>?_⟩
 ·obtain⟨z,q,rfl⟩:=bC.1 o
  rw[jjF,(jcZ c v z).1,(jcZ c v z).2.2.1];exact h.used z q
 ·rw[jjF]at E;rw[jjE];exact h.shut r E
 ·obtain⟨z,q,rfl⟩:=bC.1 o
  unfold setB putF
  by_cases e:z.2.1=c
  ·rw[if_pos e];exact hv
  ·rw[if_neg e];exact h.held z q
 ·obtain⟨z,q,rfl⟩:=bC.1 o
  rw[(jcZ c v z).2.1];exact h.r16 z q
def jnn(z:Nat)(W:vW)(b:Nat)(it:It):Prop:=b < z/\∃ rv,Blk W b (.cells #[.string it.text,rv,.int .i64 it.used,.int .i64 it.held] 83)/\W.ownsRow 0 9 1 rv it.refs.length (it.refs.map Value.string)/\∀ c,rv.ownBlock=some c->c < z
structure jcp(z:Nat)(W:World)(s bm:Nat)(room:Int)(S:vT):Prop where
 st:jaz W s bm room S
 s0:s < z
 b0:bm < z
 lo:∀ x∈S,jnn z W x.2.1 x.2.2
theorem jaz.low{W:vW}{s bm:Nat}{room:Int}{S:vT}(h:jaz W s bm room S):jcp W.heap.size W s bm room S:=by
 obtain⟨H,J,e,_⟩:=h.mp.mp
 refine⟨h,h.st.lt,e.lt,fun x q=>?_⟩
 obtain⟨z,e,o⟩:=(h.mp.items x q).cells
 exact⟨e.lt,z,e,o,fun c E=>(World.ownsRow.lt o c E).2⟩
theorem jnn.past{z:Nat}{W W':vW}{b:Nat}{it:It}{F:BSet}(h:jnn z W b it)(k:jad F W W')(hF:∀ c,F c->z<=c):jnn z W' b it:=by
 obtain⟨hb,o,q,E,e⟩:=h
 exact⟨hb,o,q.keeps k (fun f=>by have:=hF b f;omega),jaY E k (fun c H f=>by have:=hF c f;have:=e c H;omega),e⟩
theorem jcp.past{z:Nat}{W W':vW}{s bm:Nat}{room:Int}{S:vT}{F:BSet}(h:jcp z W s bm room S)(k:jad F W W')(hF:∀ c,F c->z<=c):jcp z W' s bm room S:=by
 have e:=fun x o=>(h.lo x o).past k hF
 obtain⟨q,E,H,J⟩:=h.st.mp.mp
 refine⟨⟨h.st.st.keeps k (fun f=>by have:=hF s f;have:=h.s0;omega),⟨q,E,H.keeps k (fun f=>by have:=hF bm f;have:=h.b0;omega),J⟩,h.st.mp.blks,fun x o=>?_⟩,h.s0,h.b0,e⟩
 obtain⟨_,K,O,Q,_⟩:=e x o
 exact⟨K,O,Q⟩
theorem jcp.ext{z:Nat}{W W':vW}{s bm:Nat}{room:Int}{S:vT}(h:jcp z W s bm room S)(k:Ext W W'):jcp z W' s bm room S:=h.past k (fun _ f=>f.elim)
theorem jcp.set{z:Nat}{W:vW}{s bm:Nat}{room:Int}{S:vT}(h:jcp z W s bm room S){y:Nd5}(hy:y∈S){f:Nat}(hf:f=2\/f=3)(v:Int):jcp z (W.setCell ⟨y.2.1,f,none⟩ (.int .i64 v)) s bm room (S.map (setB f y.2.1 v)):=by
 have H:=h.st.mp.items y hy
 obtain⟨rv,hb,_⟩:=H.cells
 have q:jad (fun z=>z=y.2.1) W (W.setCell ⟨y.2.1,f,none⟩ (.int .i64 v)):=jad.oneSet W ⟨y.2.1,f,none⟩ _;have hN:jhn W (fun z=>z=y.2.1):=fun z Q fz e X=>by
  have e:z=y.2.1:=e;subst e
  have:=hb.uniq X;injection this with _ h2;exact absurd h2 vI
 refine⟨⟨h.st.st.keeps q (fun e=>?_),h.st.mp.setF H hf v⟩,h.s0,h.b0,fun x Z=>?_⟩
 ·have e:s=y.2.1:=e
  rw[e]at h
  have:=hb.uniq h.st.st;injection this with _ h2;exact absurd h2 vI
 ·obtain⟨u,hu,rfl⟩:=bC.1 Z
  obtain⟨J,o,E,K,O⟩:=h.lo u hu
  unfold setB;split
  ·rename_i e
   refine⟨J,o,?_,?_,O⟩
   ·show Blk _ u.2.1 _
    rw[e]at E ⊢;rcases hf with rfl | rfl
    ·exact E.set_same (i:=2) _
    ·exact E.set_same (i:=3) _
   ·have:=jcP K q hN
    rcases hf with rfl | rfl <;> exact this
  ·rename_i e
   exact⟨J,o,E.keeps q e,jcP K q hN,O⟩
theorem jcp.del{z:Nat}{W:vW}{s bm:Nat}{room:Int}{S:vT}(h:jcp z W s bm room S)(k:vB) :
  ∃ o,(∀ kt r,(Builtin.delete_ #[73,kt] r #[.map (some bm),.string k]).run Tryz.prog W=.ok (.tuple #[]) (W.putObj bm o))/\jcp z (W.putObj bm o) s bm room (delL S k.data.toList):=by
 obtain⟨q,E,O⟩:=h.st.mp.del k
 have H:jad (fun z=>z=bm) W (W.putObj bm q):=jad.onePut W bm q
 refine⟨q,E,⟨h.st.st.keeps H (fun e=>?_),O⟩,h.s0,h.b0,fun x Q=>?_⟩
 ·have e:s=bm:=e
  obtain⟨X,Z,J,_⟩:=h.st.mp.mp
  subst e
  have:=J.uniq h.st.st;cases this
 ·obtain⟨l1,rv,K,l3,l4⟩:=h.lo x (jew.1 Q).1
  refine⟨l1,rv,K.keeps H (fun e=>?_),jcP l3 H h.st.mp.notRow,l4⟩
  have e:x.2.1=bm:=e
  obtain⟨X,Z,J,_⟩:=h.st.mp.mp
  rw[e]at K
  have:=J.uniq K;cases this
theorem jsA{w:vW}{B g n cap:Nat}{T:vM}{t:vB}(h:w.ownsRow B 9 1 (.slice (some ⟨g,0,none⟩) (n+1) cap) (n+1) ((T++[t]).map Value.string)):w.ownsRow B 9 1 (.slice (some ⟨g,0,none⟩) n cap) n (T.map Value.string):=by
 obtain⟨J,⟨o,_⟩ |⟨K,z,q,o,O,Q,h5,X,Z,E⟩⟩:=h
 ·cases o
 ·obtain⟨ha,_,hc⟩:=dY o
  have hg:g=K:=by have:=bV ha;exact congrArg Addr.block this
  subst hg hc;have H:T.length=n:=by simp at J;omega
  refine⟨by simp[H],.inr ⟨g,cap,q,rfl,O,Q,by omega,X,Z,?_⟩⟩
  have e:(T++[t]).map Value.string=T.map Value.string++[.string t]:=by simp
  rw[e]at E
  have:=congrArg (List.take n) E
  rw[List.take_take,iU vO,List.take_left' (by simp[H])]at this;rw[iZ];exact this
def joY(S:vT)(T:vM):Prop:=∀ x∈S,x.2.2.used+x.2.2.held<=0->∃ r∈T,r.data.toList=x.1
def SubS(S0 S:vT):Prop:=∀ x∈S,∃ y∈S0,x.1=y.1/\x.2.1=y.2.1/\x.2.2.text=y.2.2.text/\x.2.2.refs=y.2.2.refs/\x.2.2.held=y.2.2.held
structure DrO(z:Nat)(s bm:Nat)(room:Int)(S0 S:vT)(T:vM)(w3:World)(v:Value)(W:World):Prop where
 st:jcp z W s bm room S
 cnt:Cnt S
 loose:joY S T
 row:W.ownsRow 0 9 1 v T.length (T.map Value.string)
 new:∀ b,v.ownBlock=some b->z<=b
 sub:SubS S0 S
 sum:jb1 S=jb1 S0
 len:S.length<=S0.length
 tl:T.length+16 * S.length<=1+16 * S0.length
 stay:∀ x∈S0,0 < x.2.2.held->x.1∈S.map (·.1)
 kp:jad (fun b=>b=bm\/b∈S0.map (·.2.1)\/z<=b) w3 W
 rk:RK w3 W
def mapSz(W:vW)(bm:Nat):Nat:=match W.heap[bm]? with | some (.map es _)=>es.size | _=>0
theorem jaz.mapSz{W:vW}{s bm:Nat}{room:Int}{S:vT}(h:jaz W s bm room S):mapSz W bm=S.length:=by
 obtain⟨q,z,e,o⟩:=h.mp.mp
 have:=o.lenL
 unfold Go.Proofs.YtmobgkphhbmhbaaGreatDoor.mapSz;rw[show W.heap[bm]?=_ from e];simp[ja2.arr,this]
theorem jlB{S:vT}{T:vM}{t:vB}(h:joY S (T++[t]))(ht:∀ x∈S,x.1=t.data.toList->0 < x.2.2.used+x.2.2.held):joY S T:=fun x q z=>by
 obtain⟨r,o,e⟩:=h x q z
 rcases bO.1 o with o | o
 ·exact⟨r,o,e⟩
 ·have:=ht x q (by rw[<-e,bS.1 o]);omega
theorem jrE{S:vT}{T:vM}{t:vB}(h:joY S (T++[t])){R:vM}{k:Key}(hk:k=t.data.toList):joY (delL (S.map (jdj R)) k) (T++R):=fun x E H=>by
 rw[jfo]at E
 obtain⟨z,q,rfl⟩:=bC.1 E
 have q:=jew.1 q;have H:z.2.2.used - (cK R z.1:Int)+z.2.2.held<=0:=H
 by_cases hc:0 < cK R z.1
 ·obtain⟨r,o,e⟩:=jxQ hc
  exact⟨r,fJ _ o,e⟩
 ·obtain⟨r,o,e⟩:=h z q.1 vO
  rcases bO.1 o with o | o
  ·exact⟨r,cN _ o,e⟩
  ·exact absurd (e.symm.trans (by rw[bS.1 o,hk])) q.2
theorem jwW{S0 S:vT}(h:SubS S0 S)(R:vM)(k:Key):SubS S0 (delL (S.map (jdj R)) k):=fun x e=>by
 rw[jfo]at e
 obtain⟨z,o,rfl⟩:=bC.1 e
 exact h z (jew.1 o).1
theorem jqQ{S:vT}{y:Nd5}(hy:y∈S)(R:vM):(delL (S.map (jdj R)) y.1).length+1<=S.length:=by
 rw[jfo,bZ];unfold delL
 have:=List.length_filter_lt_length_iff_exists (l:=S) (p:=fun x => !decide (y.1=x.1))
 have:=this.2 ⟨y,hy,by simp⟩
 omega
theorem juQ{S0 S:vT}(hn:(S0.map (·.1)).Nodup)(hs:SubS S0 S)(h:∀ x∈S0,0 < x.2.2.held->x.1∈S.map (·.1)){y:Nd5}(hy:y∈S)(h0:y.2.2.held=0)(R:vM):∀ x∈S0,0 < x.2.2.held->x.1∈(delL (S.map (jdj R)) y.1).map (·.1):=fun x q E=>by
 obtain⟨z,H,e⟩:=bC.1 (h x q E)
 rw[jfo,jg5];refine bC.2 ⟨z,jew.2 ⟨H,fun J=>?_⟩,e⟩
 obtain⟨K,o,O,_,_,_,Q⟩:=hs y hy
 have:x=K:=jaQ hn q o (by rw[<-e,J,O])
 subst this;omega
def joW(S:vT):Prop:=∀ x∈S,0 < x.2.2.used+x.2.2.held
structure jvr(w:World)(s bm:Nat)(room:Int)(S S':vT)(y:Nd5)(w':World):Prop where
 st:jaz w' s bm room S'
 cnt:Cnt S'
 full:joW S'
 sum:jb1 S'=jb1 S - 1
 len:S'.length<=S.length
 sub:SubS (S.map (setB 3 y.2.1 (y.2.2.held - 1))) S'
 stay:∀ x∈S.map (setB 3 y.2.1 (y.2.2.held - 1)),0 < x.2.2.held->x.1∈S'.map (·.1)
 kp:jad (fun b=>b=bm\/b∈S.map (·.2.1)) w w'
 rk:RK w w'
def jxi(w:vW)(s bm:Nat)(room:Int)(S:vT)(k:vB)(e:Ending)(w':vW):Prop:=
 (jik (atL S k.data.toList)=0/\e=.returned (.int .i64 4)/\Ext w w')\/∃ S' y,atL S k.data.toList=some y/\0 < y.2.2.held/\e=.returned (.int .i64 0)/\jvr w s bm room S S' y w'
theorem drop_zero(w:vW)(s bm:Nat)(room:Int)(S:vT)(h:jaz w s bm room S)(k:vB)(hy:jik (atL S k.data.toList)=0) :
  vR 37 #[.pointer (some ⟨s,0,none⟩),.string k] w (.int .i64 4):=by
 have q:=jsG w s bm room S k h;rw[hy]at q;have E:Hid (vQ 41 #[.pointer (some ⟨s,0,none⟩),.string k] w fun e w'=>e=.returned (.int .i64 0)/\Ext w w'):=q;clear q h hy;go_enter Tryz.func37,Tryz.ntmps37;go_wp2_with fail
 refine E.o.mono ?_;rintro e w1 ⟨rfl,z⟩;have H:=Hd z;clear z;go_wp2_with fail
 go_ret
 exact⟨rfl,H.o⟩
def jxh(z s bm:Nat)(room:Int)(S0:vT)(w3:vW)(v:vV)(W:vW):Prop:=∃ S T,DrO z s bm room S0 S T w3 v W
structure DrI(z s bm:Nat)(room:Int)(S0 S:vT)(T R:vM)(rv:Value)(w3:World)(j:Nat)(v:Value)(W:World):Prop where
 st:jcp z W s bm room (S.map (jdj (R.take j)))
 row:W.ownsRow 0 9 1 v (T.length+j) ((T++R.take j).map Value.string)
 new:∀ b,v.ownBlock=some b->z<=b
 refs:W.ownsRow 0 9 1 rv R.length (R.map Value.string)
 kp:jad (fun b=>b=bm\/b∈S0.map (·.2.1)\/z<=b) w3 W
 rk:RK w3 W
def jxg(z s bm:Nat)(room:Int)(S0 S:vT)(T R:vM)(rv:vV)(w3:vW)(v iv:vV)(W:vW):Prop:=∃ j:Nat,j<=R.length/\iv=.int .i64 j/\DrI z s bm room S0 S T R rv w3 j v W
theorem jlr{F G:BSet}{a b c:vW}(h:jad F a b)(k:jad G b c)(hG:∀ x,G x->F x):jad F a c:=h.trans (k.mono fun x _ g=>hG x g)
theorem jvT{S:vT}(h:Cnt S){k:Key}(e:¬ 0 < jny (atL S k)):atL S k=none\/∃ y,atL S k=some y/\y.2.2.used=0/\y.2.2.held=0:=by
 cases hy:atL S k with
 | none=>exact .inl rfl
 | some y =>
  right;rw[hy]at e;have o:=h.held y (jaF hy).1;have q:=h.used y (jaF hy).1;have e:¬ 0 < y.2.2.used+y.2.2.held:=e
  exact⟨y,rfl,by omega,by omega⟩
theorem jt9{S:vT}(h:Cnt S)(hl:S.length<=1000){R:vM}(hR:R.length<=16)(j:Nat):∀ x∈S.map (jdj (R.take j)), -16<=x.2.2.used/\x.2.2.used<=16000:=fun x e=>by
 obtain⟨z,o,rfl⟩:=bC.1 e
 have E:=h.bd hl z o;have q:=jtr (R.take j) z.1;rw[dS]at q;show -16<=z.2.2.used - (cK (R.take j) z.1:Int)/\z.2.2.used - (cK (R.take j) z.1:Int)<=16000;omega
theorem jwS{w:vW}{B g n cap:Nat}{T:vM}{t:vB}(h:w.ownsRow B 9 1 (.slice (some ⟨g,0,none⟩) (n+1) cap) (n+1) ((T++[t]).map Value.string)):w.cell? ⟨g,n,none⟩=some (.string t):=by
 have e:T.length=n:=by have:=h.1;simp at this;omega
 have:=World.ownsRow.cells (g:=g) h vF n (.string t) (by rw[bY,cV (by simp[e]),bZ,e,Nat.sub_self];rfl)
 rw[Addr.add_lit,cL]at this;exact this
theorem jyC{w:vW}{B:Nat}{v:vV}{n:Nat}{xs:List vV}(h:w.ownsRow B 9 1 v (n+1) xs):∃ g cap,v=.slice (some ⟨g,0,none⟩) (n+1) cap:=by
 obtain⟨_,⟨_,o⟩ |⟨q,e,z,o,_⟩⟩:=h
 ·omega
 ·exact⟨q,e,o⟩
theorem jwR{w:vW}{B n m:Nat}{a:Option Addr}{cap:Nat}{xs:List vV}(h:w.ownsRow B 9 1 (.slice a (n+1) cap) (n+1) xs)(hm:m=n):m+1<=cap:=by
 subst hm
 obtain⟨_,⟨_,o⟩ |⟨E,q,z,o,_,_,H,_⟩⟩:=h
 ·omega
 ·obtain⟨_,_,e⟩:=dY o;omega
theorem jqm{S:vT}(hn:(S.map (·.1)).Nodup){x:Nd5}{k:Key}(hx:x∈S)(e:x.1=k):atL S k=some x:=by
 obtain⟨y,o⟩:=dB.1 (jdh.2 (bC.2 ⟨x,hx,e⟩))
 rw[o,jvK hn hx e o]
theorem jqY(w:vW)(s bm:Nat)(room:Int)(S:vT)(h:jaz w s bm room S)(b3:Cnt S)(hfl:joW S)(hl:S.length<=1000)(hh:∀ x∈S,x.2.2.held<=1000000)(k:vB)(y:Nd5)(hy:atL S k.data.toList=some y)(h1:0 < y.2.2.held) :
  vQ 37 #[.pointer (some ⟨s,0,none⟩),.string k] w (jxi w s bm room S k):=by
 have HS:=Hd h;have i4:=Hd b3;have g6:=Hd hfl;have HY:=Hd hy;have HH:=Hd hh;have H:=(jaF hy).1;have m0:=b3.bd hl y H;have g0:=hh y H;have hc:=jsG w s bm room S k h;rw[hy]at hc
 obtain⟨yb,J⟩:=vE y.2.1
 obtain⟨hd,b4⟩:=vE y.2.2.held
 have g7:jik (some y)=hd:=b4.symm;rw[g7]at hc;rw[<-b4]at h1 g0;have e4:=Hd J;have d2:=Hd b4;have HC:=Hd hc;have H1:=Hd h1;have m1:(hd == 0)=false:=by simp;omega
 clear h b3 hfl hh hy H hc J b4 g7;go_enter Tryz.func37,Tryz.ntmps37;go_wp2_with fail
 refine HC.o.mono ?_;rintro e w1 ⟨rfl,hE⟩;have h:=HS.o.ext hE;have J:=e4.o;have b4:=d2.o;have hy:=HY.o;have H:=(jaF hy).1;have b9:=h.low.set H (.inr rfl) (hd - 1);rw[<-J]at b9
 obtain⟨z,hz⟩:=vE w1.heap.size
 rw[<-hz]at b9;have HZ:=Hd hz;have hK:jad (fun z=>z=yb) w1 (w1.setCell ⟨yb,3,none⟩ (.int .i64 (hd - 1))):=jad.oneSet w1 ⟨yb,3,none⟩ _;have E:=h.mp.look k false;rw[hy]at E;unfold ptrO at E;simp only[cG,if_false]at E;rw[<-J]at E
 obtain⟨S0,O⟩:=vE (S.map (setB 3 yb (hd - 1)))
 rw[<-O]at b9;have e6:=Hd O
 obtain⟨rv,d3,_⟩:=(h.mp.items y H).cells
 rw[<-J, <-b4]at d3;have qs:=h.st.cell (i:=1) (v:=.map (some bm)) vF;have qh:=d3.cell (i:=3) (v:=.int .i64 hd) vF;have fh:w1.frozen? ⟨yb,3,none⟩=false:=d3.frozen;have g8:Cnt S0:=by rw[O];exact jvW i4.o yb vO
 have g9:S0.length=S.length:=by rw[O,bZ]
 have c2:jb1 S0=jb1 S - 1:=by rw[O,J,jrj h.nd h.mp.blks H];omega
 have c3:(S0.map (·.1)).Nodup:=by rw[O,jjE];exact h.nd
 have c4:joY S0 [k]:=by
  rw[O];intro x hx h0
  obtain⟨u,hu,rfl⟩:=bC.1 hx
  refine⟨k,by simp,?_⟩
  by_cases e:u.2.1=yb
  ·have:u=y:=jaQ h.mp.blks hu H (by rw[e,J])
   rw[(jcZ yb (hd - 1) u).2.2.1,this,(jaF hy).2]
  ·unfold setB at h0
   rw[if_neg e]at h0
   have:=g6.o u hu;omega
 have h3:=Hd b9;have i5:=Hd g8;have g1:=Hd c2;have g2:=Hd c3;have i6:=Hd c4;have e7:=Hd g9;have h4:=Hd (show S0.map (·.2.1)=S.map (·.2.1) by rw[O,joC]);have HK:=Hd (bB hE hK);have i7:=Hd (show yb∈S.map (·.2.1) by rw[J];exact bC.2 ⟨y,H,rfl⟩);have i8 : -9223372036854775808<=hd - 1:=vO
 have i9:hd - 1<=9223372036854775807:=vO
 clear h hy H J b4 b9 hK O d3 HS g8 g9 c2 c3 c4 HC hE g6
 obtain⟨w2,Z⟩:∃ w2,w2=w1.setCell ⟨yb,3,none⟩ (.int .i64 (hd - 1)):=⟨_,rfl⟩
 rw[<-Z]at h3 HK;have j0:=Hd (show w2.heap.size=z by rw[Z,hz];simp);have g3:=Hd (show RK w1 w2 by rw[Z];exact (RK.refl w1).set yb (.inr rfl) _);go_wp2_with fail
 rw[<-Z, <-hz];clear Z qs qh fh E hz
 obtain⟨w3,d4⟩:=vE (w2.alloc (.cells #[.string k] 9))
 rw[<-d4];have h6:ORow 9 1 w2 w3 (.slice (some ⟨w2.heap.size,0,none⟩) 1 1) 1 [.string k]:=by rw[d4];exact ORow.lit #[.string k] (ExtR w2) vI rfl
 have e8:=Hd (show w3.ownsRow 0 9 1 (.slice (some ⟨z,0,none⟩) 1 1) 1 [.string k] by have h:=h6.own;rw[j0.o]at h;exact h);have e9:=Hd (show Ext w2 w3 by rw[d4];exact (ExtR w2).alloc _);clear d4 h6;go_loopw [5] (fun v wr=>jxh z s bm room S0 w1 v wr) (fun v wr=>17 * mapSz wr bm+slN v)
 case atStart =>
  refine⟨S0,[k],h3.o.ext e9.o,i5.o,i6.o,e8.o,fun b hb=>?_,fun x hx=>⟨x,hx,rfl,rfl,rfl,rfl,rfl⟩,rfl,bM _,bM _,fun x hx _=>bC.2 ⟨x,hx,rfl⟩,jlr (F:=fun b=>b=bm\/b∈S0.map (·.2.1)\/z<=b) (HK.o.2.mono fun x _ e=>.inr (.inl (by rw[show x=yb from e,h4.o];exact i7.o))) e9.o (fun x e=>e.elim),g3.o.ext e9.o⟩
  have e:some z=some b:=hb
  have:=bV e;omega
 case round =>
  obtain⟨S1,T,hD⟩:=hrel
  have q:=Hd hD;rcases List.eq_nil_or_concat T with hT |⟨T',t,hT⟩
  ·subst hT
   obtain⟨a,c,rfl⟩:=jaK hD.row
   clear hD;go_wp2_with fail
   go_ret;refine .inr ⟨S1,y,HY.o,by rw[<-d2.o];exact H1.o,rfl,q.o.st.st,q.o.cnt,fun x hx=>?_,?_,?_,?_,?_,?_,?_⟩
   ·by_cases h0:x.2.2.used+x.2.2.held<=0
    ·obtain⟨r,hr,_⟩:=q.o.loose x hx h0
     cases hr
    ·omega
   ·rw[q.o.sum,g1.o]
   ·have:=q.o.len;rw[e7.o]at this;exact this
   ·rw[<-e4.o, <-d2.o, <-e6.o];exact q.o.sub
   ·rw[<-e4.o, <-d2.o, <-e6.o];exact q.o.stay
   ·have hz:=HZ.o
    refine jad.trans' (F:=fun b=>b=bm\/b∈S.map (·.2.1)) (HK.o.1.mono fun _ _ g=>g.elim) q.o.kp (fun x hx e=>?_);rcases e with e | e | e
    ·exact .inl e
    ·rw[h4.o]at e;exact .inr e
    ·have:=HK.o.1.size;omega
   ·exact ((RK.refl w).ext HK.o.1).trans q.o.rk
  ·have hT:T=T'++[t]:=by rw[hT];simp
   subst hT;have K:=hD.row;rw[show (T'++[t]).length=T'.length+1 by simp]at K
   obtain⟨g,cp,rfl⟩:=jyC K
   have q1:=jwS K;have c7:=Hd (jsA K)
   obtain⟨n,hn⟩:=vE T'.length
   rw[<-hn]at c7 q1 ⊢;have Q:=Hd hn;have j1:=hD.len;have h7:=Hd (show S1.length<=1000 by have:=e7.o;omega);have hm:=hD.st.st.mapSz;have f0:=Hd hm;have j2:Hid (z<=g):=hD.new g rfl;have l8:n+1<=cp:=jwR K hn;have HB:=Hd (show ∀ x∈S1, -1000000000<=x.2.2.used/\x.2.2.used<=1000000000 /\ -1000000000<=x.2.2.held/\x.2.2.held<=1000000000 from fun x hx=>by
    have:=hD.cnt.bd h7.o x hx
    have:=hD.cnt.held x hx
    obtain⟨u,hu,_,_,_,_,e5⟩:=hD.sub x hx
    have h5:u.2.2.held<=1000000:=by
     rw[e6.o]at hu
     obtain⟨v,hv,rfl⟩:=bC.1 hu
     have:=HH.o v hv
     unfold setB putF;split
     ·show hd - 1<=1000000;omega
     ·exact this
    omega)
   have b7:=Hd (show n+1+16 * S1.length<=1+16 * S0.length by have h:=hD.tl;rw[bG, <-hn]at h;exact h);have l9:n<=20000:=by have:=b7.o;have:=e7.o;omega
   clear hD K hn j1 hm;go_wp2_with fail
   refine vC (juJ wr s bm room S1 t q.o.st.st HB.o) fun w5 hE=>?_
   obtain⟨cn,b3⟩:=vE (jny (atL S1 t.data.toList))
   rw[<-b3];have c8:=Hd b3;have a0:=q.o.st.ext hE;have a9:=Hd a0;have a7:=Hd (jbh c7.o hE);have f1:=Hd (q.o.kp.trans (hE.mono (fun _ _ g=>g.elim)));have b5:=Hd (q.o.rk.ext hE);have qs:=a0.st.st.cell (i:=1) (v:=.map (some bm)) vF;have E:=a0.st.mp.look t false;simp only[cG,if_false]at E;have c9:=Hd a0.st.mapSz;have b6:=Hd (show ∀ b c m,(Value.slice (some ⟨g,0,none⟩) m c).ownBlock=some b->z<=b from fun b c m hb=>by
    have e:some g=some b:=hb
    have:=bV e;have:=j2.o;omega)
   clear hE b3 a0 q1
   by_cases hp:0 < cn
   ·go_wp2_with fail
    go_roundw
    case rel =>
     refine⟨S1,T',a9.o,q.o.cnt,jlB q.o.loose (fun x hx e=>?_),by rw[<-Q.o];exact a7.o,fun b hb=>b6.o b _ _ hb,q.o.sub,q.o.sum,q.o.len,by have:=b7.o;have:=Q.o;omega,q.o.stay,f1.o,b5.o⟩
     have h1:=c8.o;rw[show atL S1 t.data.toList=some x from jqm q.o.st.st.nd hx e]at h1;have h1:cn=x.2.2.used+x.2.2.held:=h1;omega
    case measure=>rw[c9.o,f0.o];simp[slN]
   have f2:¬ 0 < jny (atL S1 t.data.toList):=by rw[<-c8.o];exact hp
   rcases jvT q.o.cnt f2 with hno |⟨y1,hy1,d5,hh0⟩
   ·rw[hno]at E
    unfold ptrO at E;simp only at E;have j3:=Hd hno;clear f2 hno;go_wp2_with fail
    go_roundw
    case rel =>
     exact⟨S1,T',a9.o,q.o.cnt,jlB q.o.loose (fun x hx e=>absurd e.symm (jhv.1 j3.o x hx)),by rw[<-Q.o];exact a7.o,fun b hb=>b6.o b _ _ hb,q.o.sub,q.o.sum,q.o.len,by have:=b7.o;have:=Q.o;omega,q.o.stay,f1.o,b5.o⟩
    case measure=>rw[c9.o,f0.o];simp[slN]
   ·rw[hy1]at E
    unfold ptrO at E;simp only at E;have a1:=(jaF hy1).1
    obtain⟨_,rv,h8,d6,h9⟩:=a9.o.lo y1 a1
    obtain⟨R,hR⟩:=vE y1.2.2.refs
    rw[<-hR]at d6
    obtain⟨ar,cr,rfl⟩:=jaK d6
    have qr:=h8.cell (i:=1) (v:=.slice ar R.length cr) vF;have a2:=Hd (show R.length<=16 by rw[hR];exact q.o.cnt.r16 y1 a1);have j4:=Hd (show ∀ r∈R,r.data.toList∈S1.map (·.1)from fun r hr=>q.o.cnt.shut r (cI.2 ⟨y1,a1,by rw[<-hR];exact hr⟩));have j5:=Hd (show DrI z s bm room S0 S1 T' R (.slice ar R.length cr) w1 0 (.slice (some ⟨g,0,none⟩) n cp) w5 from⟨by rw[iH,jrA];exact a9.o,by rw[iH,bR,gQ, <-Q.o];exact a7.o,fun b hb=>b6.o b _ _ hb,d6,f1.o,b5.o⟩);have m2:=Hd hy1;have j6:=Hd hR;have j7:=Hd h9;have d7:=Hd (bB a1 (jaF hy1).2);have f3:=Hd (bB d5 hh0)
    obtain⟨m3,d0⟩:=vE y1.2.1
    rw[<-d0]at E qr;clear f2 hy1 d5 hh0 a1 h8 d6 h9 hR d0;go_wp2_with fail
    go_loopw [5,65] (fun v5 iv j8=>jxg z s bm room S0 S1 T' R (.slice ar R.length cr) w1 v5 iv j8) (fun _ iv _=>R.length - (intOf iv).toNat)
    case atStart=>exact⟨0,cC _,rfl,j5.o⟩
    case round =>
     obtain⟨j,hj,rfl,X⟩:=hrel
     have HI:=Hd X
     obtain⟨a5,c5,rfl⟩:=jaK X.row
     by_cases hlt:j < R.length
     ·have b1:(j:Int) < (R.length:Int):=vO
      obtain⟨r,hr⟩:∃ r,R[j]?=some r:=⟨_,bA hlt⟩
      obtain⟨ax,cx,j9,b2⟩:=(jhl X.refs).slice
      obtain⟨ba,oa,k0,m4⟩:=b2 j r hr
      subst k0;cases j9;have k1:=X.st.st.st.cell (i:=1) (v:=.map (some bm)) vF;have a3:=X.st.st.mp.look r false;simp only[cG,if_false]at a3
      obtain⟨x1,d8⟩:=dB.1 (jdh.2 (show r.data.toList∈(S1.map (jdj (R.take j))).map (·.1) by rw[jg5];exact j4.o r (bI hr)))
      rw[d8]at a3;unfold ptrO at a3;simp only at a3;have a4:=(jaF d8).1;have k2:=jt9 q.o.cnt h7.o a2.o j x1 a4
      obtain⟨rx,d9,_⟩:=(X.st.st.mp.items x1 a4).cells
      have c0:=X.st.set a4 (.inl rfl) (x1.2.2.used - 1);rw[juK X.st.st.mp d8, <-jpz]at c0;have b8:jad (fun z=>z=x1.2.1) wr (wr.setCell ⟨x1.2.1,2,none⟩ (.int .i64 (x1.2.2.used - 1))):=jad.oneSet wr ⟨x1.2.1,2,none⟩ _;have f4:jhn wr (fun z=>z=x1.2.1):=fun z m5 fz e hz=>by
       have e:z=x1.2.1:=e;subst e
       have:=d9.uniq hz;injection this with _ h2;exact absurd h2 vI
      have f5:=Hd (jcP X.row b8 f4);have f6:=Hd (jcP X.refs b8 f4);have i1:=Hd (show x1.2.1∈S0.map (·.2.1)from by
       obtain⟨u,hu,e⟩:=bC.1 a4
       obtain⟨u0,d5,_,e2,_⟩:=q.o.sub u hu
       exact bC.2 ⟨u0,d5,by rw[<-e];exact e2.symm⟩)
      have qx:=d9.cell (i:=2) (v:=.int .i64 x1.2.2.used) vF;have fx:wr.frozen? ⟨x1.2.1,2,none⟩=false:=d9.frozen
      obtain⟨u,hu⟩:=vE x1.2.2.used
      obtain⟨xb,i2⟩:=vE x1.2.1
      rw[<-hu]at k2 c0 qx f5 f6 b8;rw[<-i2]at a3 qx fx c0 f5 f6 b8 i1;have k3:=Hd b8;have k4:=Hd (show jcp z (wr.setCell ⟨xb,2,none⟩ (.int .i64 (u - 1))) s bm room (S1.map (jdj (R.take (j+1)))) by rw[cB,hr];exact c0);have k5:=Hd (show T'++R.take (j+1)=(T'++R.take j)++[r] by rw[cB,hr, <-bX];rfl);have f7:=ja3 (Blk.new (wr.setCell ⟨xb,2,none⟩ (.int .i64 (u - 1))) (.cells #[.string r] 9));rw[fU]at f7;have k6:=Hd f7;have i8 : -9223372036854775808<=u - 1:=vO
      have i9:u - 1<=9223372036854775807:=vO
      have k7:T'.length+j+1<=maxLen:=by have:=b7.o;have:=Q.o;have:=a2.o;unfold maxLen;omega
      have k8:(T'.length+j+1) * 16<=140737488355328:=by have:=b7.o;have:=Q.o;have:=a2.o;omega
      clear X hr b2 d8 a4 d9 c0 b8 f4 hu i2 f7 E qr qs
      obtain⟨i0,hi,k9,l0,l1⟩:=info_parts Tryz.infoStr
      go_wp2_with (at_builtin;refine jcn _ rfl (.tmp 84) (.tmp 86) 22 rfl 9 i0 _ 1 16 Tryz.uStrs hi k9 l0 l1 rfl vI (.slice a5 (T'.length+j) c5) (T'.length+j) _ rfl (jbh f5.o ((ExtR _).alloc _)) ⟨wr.heap.size,0,none⟩ 1 1 [.string r] rfl rfl k6.o (by simp[Value.oneCell']) k7 k8 ?_;intro v' w6 r1 r2 r3;have l2:=Hd r1;have e0:=Hd r2;have e8:=Hd r3;obtain⟨a6,c6,rfl⟩:=jaK r1;clear r1 r2 r3)
      go_roundw
      case rel =>
       have m6:z<=wr.heap.size:=by have:=HI.o.kp.size;have:=HZ.o;omega
       have e3:=(ExtR (wr.setCell ⟨xb,2,none⟩ (.int .i64 (u - 1)))).alloc (.cells #[.string r] 9)
       refine⟨j+1,by omega,by go_num,(k4.o.ext e3).past e0.o (fun c hc=>HI.o.new c hc),?_,fun b hb=>?_,jaY (jbh f6.o e3) e0.o (fun c hc f=>by have:=j7.o c hc;have:=HI.o.new c f;omega),?_,((HI.o.rk.set xb (.inl rfl) _).ext e3).keeps e0.o (fun c hc=>by have:=HI.o.new c hc;have:=HZ.o;omega)⟩
       ·have h:=l2.o
        rw[k5.o,bY];exact h
       ·rcases e8.o with h | h
        ·exact HI.o.new b (h ▸ hb)
        ·have:=h b hb
         rw[bN,fU]at this;omega
       ·refine jlr (jlr (jlr HI.o.kp k3.o (fun x e=>.inr (.inl ?_))) e3 (fun x e=>e.elim)) e0.o (fun x e=>.inr (.inr (HI.o.new x e)))
        rw[show x=xb from e];exact i1.o
      case measure=>exact vJ
     ·have l3:j=R.length:=vO
      subst l3;have c1:=X.st;rw[cF]at c1;have a8:=X.row;rw[cF]at a8
      obtain⟨ob,m7,f8⟩:=c1.del t
      have k1:=c1.st.st.cell (i:=1) (v:=.map (some bm)) vF;have e1:jad (fun z=>z=bm) wr (wr.putObj bm ob):=jad.onePut wr bm ob;have i3:=Hd f8;have l4:=Hd (jaY a8 e1 (fun b hb e=>by have:=X.new b hb;have:=c1.b0;have e:b=bm:=e;omega));have l5:=Hd X.new;have l6:=Hd (jlr X.kp e1 (fun x e=>.inl e))
      obtain⟨m8,m9,d1,_⟩:=f8.st.mp.mp
      have g4:=Hd (X.rk.put e1 d1);clear d1;clear c1 a8 f8 e1 X HI E qr qs;go_wp2_with fail
      go_roundw
      case rel =>
       have H:=d7.o.1;have hk:=d7.o.2;have f9:=jqQ H R;rw[hk]at f9;have n0:=q.o.len;have n1:=b7.o;have l7:=Q.o;have g5:=a2.o
       refine⟨delL (S1.map (jdj R)) t.data.toList,T'++R,i3.o,?_,jrE q.o.loose rfl,by rw[bG];exact l4.o,l5.o,jwW q.o.sub R _,?_,by omega,by rw[bG];omega,?_,l6.o,g4.o⟩
       ·have:=jvV q.o.st.st.nd q.o.cnt H f3.o.1
        rw[hk, <-j6.o]at this;exact this
       ·rw[jfo,jps, <-q.o.sum,jri q.o.st.st.nd H,hk,f3.o.2];omega
       ·have:=juQ g2.o q.o.sub q.o.stay H f3.o.2 R
        rw[hk]at this;exact this
      case measure =>
       have f9:=jqQ d7.o.1 R;rw[d7.o.2]at f9;have g5:=a2.o;have l7:=Q.o;rw[i3.o.st.mapSz,f0.o];simp only[slN];omega
theorem jtH(w:vW)(s bm:Nat)(room:Int)(S:vT)(h:jaz w s bm room S)(hcn:Cnt S)(hfl:joW S)(hl:S.length<=1000)(hh:∀ x∈S,x.2.2.held<=1000000)(k:vB) :
  vQ 37 #[.pointer (some ⟨s,0,none⟩),.string k] w (jxi w s bm room S k):=by
 by_cases o:jik (atL S k.data.toList)=0
 ·exact (drop_zero w s bm room S h k o).mono fun e w' ⟨q,z⟩=>.inl ⟨o,q,z⟩
 ·cases hy:atL S k.data.toList with
  | none=>rw[hy]at o;exact absurd rfl o
  | some y =>
   rw[hy]at o;have o:¬ y.2.2.held=0:=o
   have:=hcn.held y (jaF hy).1
   exact jqY w s bm room S h hcn hfl hl hh k y hy vO
end
theorem jkQ{S G:vT}{M:vM}{top:vB}:jcs (addS S G M top)=jcs S++(frK S M).flatMap (jb4 G):=by
 rw[jdg];have h:=jqs ((frK S M).flatMap (jb4 G)) (shaB top) (S++jcQ G (frK S M));unfold jcs;rw[h,dK, <-jjt]
theorem jd5{S G:vT}{M:vM}{top:vB}:(addS S G M top).map (·.1)=(S++jcQ G (frK S M)).map (·.1):=by rw[jdg,jqr]
theorem jvU{S G:vT}{L M:vM}{top:vB}(hc:Cnt S)(hG:G.map kvI=readG L)(hf:Fair G)(hP:jfG S G (shaB top) M (frK S M).length):Cnt (addS S G M top):=by
 have H:∀ r∈(frK S M).flatMap (jb4 G),r∈M:=fun r q=>by
  have:=hP.is
  rw[cF]at this;rw[this];exact bD _ q
 refine⟨fun x E=>?_,fun r q=>?_,fun x E=>?_,fun x E=>?_⟩
 ·rw[jkQ,jnw]
  rw[jdg]at E
  obtain⟨z,o,rfl⟩:=bC.1 E
  show z.2.2.used+((cK ((frK S M).flatMap (jb4 G)) z.1:Nat):Int)=((cK (jcs S) z.1+cK ((frK S M).flatMap (jb4 G)) z.1:Nat):Int);rcases bO.1 o with o | o
  ·have:=hc.used z o;omega
  ·obtain⟨J,f,K,O⟩:=jbZ o
   obtain⟨t,Q,_,e⟩:=jc2 hG J
   have h0:cK (jcs S) z.1=0:=jvR fun r q X=>by
    have:=hc.shut r q
    rw[X,O, <-jdh,(jfV.1 K).2]at this;cases this
   have Z:z.2.2.used=0:=by rw[e];rfl
   omega
 ·rw[jd5]
  rw[jkQ]at q;rcases bO.1 q with q | q
  ·rw[bY];exact cN _ (hc.shut r q)
  ·exact jdh.1 (jiC hP (H r q))
 ·rw[jdg]at E
  obtain⟨z,o,rfl⟩:=bC.1 E
  show 0<=z.2.2.held+((cK [shaB top] z.1:Nat):Int);rcases bO.1 o with o | o
  ·have:=hc.held z o;omega
  ·obtain⟨t,Q,_,e⟩:=jc2 hG (jbZ o).1
   have Z:z.2.2.held=0:=by rw[e];rfl
   omega
 ·rw[jdg]at E
  obtain⟨z,o,rfl⟩:=bC.1 E
  show z.2.2.refs.length<=16;rcases bO.1 o with o | o
  ·exact hc.r16 z o
  ·exact hf.refs z (jbZ o).1
theorem jtU{S G:vT}{L M:vM}{top:vB}(hc:Cnt S)(hfl:joW S)(hG:G.map kvI=readG L)(hP:jfG S G (shaB top) M (frK S M).length):joW (addS S G M top):=fun x H=>by
 rw[jdg]at H
 obtain⟨z,o,rfl⟩:=bC.1 H
 show 0 < z.2.2.used+((cK ((frK S M).flatMap (jb4 G)) z.1:Nat):Int)+(z.2.2.held+((cK [shaB top] z.1:Nat):Int));rcases bO.1 o with o | o
 ·have:=hfl z o;omega
 ·obtain⟨q,f,E,J⟩:=jbZ o
  obtain⟨t,O,_,e⟩:=jc2 hG q
  have Q:z.2.2.used=0:=by rw[e];rfl
  have X:z.2.2.held=0:=by rw[e];rfl
  have K:=(jfV.1 E).1
  have:=hP.is
  rw[cF]at this;rw[this]at K;rcases bK.1 K with h | h
  ·have:1<=cK [shaB top] z.1:=by rw[J,h];exact jqA (by simp)
   omega
  ·have:1<=cK ((frK S M).flatMap (jb4 G)) z.1:=by rw[J];exact jqA h
   omega
theorem juR(T:vM)(r:vB)(S:vT):jb1 (S.map (jkV T r))=jb1 S+((S.map (·.1)).count r.data.toList:Int):=by
 induction S with
 | nil=>simp[jb1]
 | cons x l ih =>
  have e:∀ (a:Nd5) b,jb1 (a :: b)=a.2.2.held+jb1 b:=fun a b=>by unfold jb1;rw[bJ,List.sum_cons]
  rw[bJ,e,e,ih,bJ,List.count_cons];have o:(jkV T r x).2.2.held=x.2.2.held+((cK [r] x.1:Nat):Int):=rfl;have q:cK [r] x.1=if x.1=r.data.toList then 1 else 0:=by
   have:=jhQ r [] x.1
   rw[this];simp[cK]
  rw[o,q]
  by_cases hx:x.1=r.data.toList
  ·rw[if_pos hx,if_pos (by simp[hx])];push_cast;omega
  ·rw[if_neg hx,if_neg (by simpa using hx)];push_cast;omega
theorem jwY(A B:vT):jb1 (A++B)=jb1 A+jb1 B:=by unfold jb1;rw[bY,List.sum_append]
theorem joG:∀ {B:vT},(∀ x∈B,x.2.2.held=0)->jb1 B=0
 | [],_=>rfl
 | x :: r,h=>by
  have e:jb1 (x :: r)=x.2.2.held+jb1 r:=by unfold jb1;rw[bJ,List.sum_cons]
  rw[e,h x bF,joG fun y o=>h y (bD _ o)];rfl
theorem jk2:∀ {l:List Key},l.Nodup->∀ {k:Key},k∈l->l.count k=1
 | [],_,_,o=>by cases o
 | x :: r,h,k,o=>by
  rw[cZ]at h;rw[List.count_cons]
  by_cases e:x=k
  ·subst e
   rw[List.count_eq_zero_of_not_mem h.1];simp
  ·have o:k∈r:=(bK.1 o).resolve_left fun q=>e q.symm
   rw[jk2 h.2 o];simp[e]
theorem jwX{S G:vT}{L M:vM}{top:vB}(hn:((addS S G M top).map (·.1)).Nodup)(hG:G.map kvI=readG L)(hP:jfG S G (shaB top) M (frK S M).length):jb1 (addS S G M top)=jb1 S+1:=by
 have o:(shaB top).data.toList∈(S++jcQ G (frK S M)).map (·.1):=jdh.1 (jiC hP (by rw[hP.is];exact bF));rw[jd5]at hn;rw[jdg,juR,jwY,joG (B:=jcQ G (frK S M)) (fun x q=>by
  obtain⟨t,z,_,e⟩:=jc2 hG (jbZ q).1
  rw[e];rfl),jk2 hn o]
 omega
theorem jry{S G:vT}{M:vM}{top:vB}:(addS S G M top).length<=S.length+(frK S M).length:=by
 rw[jdg,bZ,bG]
 have:(jcQ G (frK S M)).length<=(frK S M).length:=iL _ _
 omega
theorem jtY{S G:vT}{L M:vM}{top:vB}{n:Int}(h:∀ x∈S,x.2.2.held<=n)(h0:0<=n)(hG:G.map kvI=readG L):∀ x∈addS S G M top,x.2.2.held<=n+1:=fun x q=>by
 rw[jdg]at q
 obtain⟨z,o,rfl⟩:=bC.1 q
 show z.2.2.held+((cK [shaB top] z.1:Nat):Int)<=n+1;have E:=jtr [shaB top] z.1;rw[iX]at E;rcases bO.1 o with o | o
 ·have:=h z o;omega
 ·obtain⟨t,H,_,e⟩:=jc2 hG (jbZ o).1
  have J:z.2.2.held=0:=by rw[e];rfl
  omega
end Go.Proofs.YtmobgkphhbmhbaaGreatDoor
