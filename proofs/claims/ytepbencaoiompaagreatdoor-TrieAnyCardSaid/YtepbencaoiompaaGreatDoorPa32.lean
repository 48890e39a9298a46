/- Lemmas; each is under no condition but those that it states. -/
import Derived.Test.YtepbencaoiompaaGreatDoorPa31
namespace Go.Proofs.YtepbencaoiompaaGreatDoor
set_option linter.unusedSimpArgs false
set_option linter.unusedVariables false
set_option maxRecDepth 100000
set_option maxHeartbeats 16000000
section
open Go Go.RowKit
structure Kp(U:vM)(S:vT):Prop where
 is:∀ x∈S,∃ t∈U,x.1=ky t/\x.2.2.text=t/\x.2.2.refs=jaK (nodeOf t)
 cnt:Cnt S
 full:jxG S
theorem Kp.none(U:vM):Kp U []:=⟨by simp,Cnt.none,fun x e=>by cases e⟩
theorem Kp.mono{U V:vM}{S:vT}(h:Kp U S)(hs:∀ t∈U,t∈V):Kp V S:=
 ⟨fun x o=>by obtain⟨t,q,e⟩:=h.is x o;exact⟨t,hs t q,e⟩,h.cnt,h.full⟩
theorem Kp.text{U:vM}{S:vT}(hU:InjL U)(h:Kp U S){t:vB}(ht:t∈U)(hk:ky t∈S.map (·.1)):∃ x,atL S (ky t)=some x/\x∈S/\x.2.2.text=t/\x.2.2.refs=jaK (nodeOf t):=by
 obtain⟨x,o⟩:=dV.1 (jeX.2 hk)
 obtain⟨q,z⟩:=jaU o
 obtain⟨A,e,E,H,J⟩:=h.is x q
 have:A=t:=jAA hU e ht (E.symm.trans z)
 subst this
 exact⟨x,o,q,H,J⟩
theorem Kp.shut{U:vM}{S:vT}(hU:InjL U)(h:Kp U S){t:vB}(ht:t∈U)(hk:ky t∈S.map (·.1)){r:vB}(hr:r∈jaK (nodeOf t)):r.data.toList∈S.map (·.1):=by
 obtain⟨x,_,e,_,o⟩:=h.text hU ht hk
 exact h.cnt.shut r (cP.2 ⟨x,e,by rw[o];exact hr⟩)
def juP(U:vM):Prop:=∀ t∈U,∃ n,jbc t n
theorem Kp.bd{U:vM}{S:vT}(h:Kp U S)(hl:S.length<=5000):∀ x∈S,0<=x.2.2.used/\x.2.2.used<=1000000000:=fun x e=>by
 have o:=h.cnt.used x e;have q:=jx6 (jgn S) x.1;have z:=jne h.cnt.r16;omega
theorem jpT(w:vW){U:vM}(hU:InjL U){S:vT}(h:Kp U S){m:vL}(hm:jaD m=0)(hs:∀ t∈jbr m,t∈U)(e:ky (jay m).text∈S.map (·.1)):∀ t∈jbr m,ky t∈S.map (·.1):=
 jwC w hm (fun k=>k.data.toList∈S.map (fun x:Nd5=>x.1)) (fun t o q r e=>h.shut hU (hs t o) q e) e
theorem Kp.has(w:vW){U:vM}(hU:InjL U){S:vT}(h:Kp U S){m:vL}(hm:jaD m=0)(hs:∀ t∈jbr m,t∈U)(hr:ky (jay m).text∈S.map (·.1)):HasM S m:=
 ⟨hm,fun t e=>by
  have e:=(jaQ (jau (jay m)) t).2 e
  obtain⟨x,o,_,q,_⟩:=h.text hU (hs t e) (jpT w hU h hm hs hr t e)
  exact⟨x,o,q⟩⟩
theorem Kp.nodes{U:vM}{S:vT}(h:Kp U S)(hN:∀ t∈U,∃ n,jbc t n):∀ x∈S,∃ n,jbc x.2.2.text n:=fun x o=>by
 obtain⟨t,q,_,e,_⟩:=h.is x o
 rw[e];exact hN t q
theorem jdh{m:vL}(hm:jaD m=0):juP (jbr m):=fun t e=>by
 obtain⟨n,o,_⟩:=(jjg hm).node t e
 exact⟨n,o⟩
structure Part(S:vT)(m:vL)(L:vM):Prop where
 ok:jaD m=0
 head:L[0]?=some (jay m).text
 sub:∀ t∈L,t∈jbr m
 all:∀ t∈jbr m,t∈L\/ky t∈S.map (·.1)
theorem jpI(S:vT){m:vL}(hm:jaD m=0):Part S m (jbr m):=⟨hm,(jjg hm).head,fun _ h=>h,fun _ h=>.inl h⟩
theorem Part.refs(w:vW){S:vT}{m:vL}{L:vM}(h:Part S m L){G:vT}(hG:G.map kvI=readG L){x r:vB}(o:r∈jcp G x):has2 S G r:=by
 unfold jcp at o;cases ha:atL G x.data.toList with
 | none=>rw[ha]at o;cases o
 | some y =>
  rw[ha]at o
  obtain⟨t,E,_,e⟩:=jcL hG (jaU ha).1
  have o:r∈y.2.2.refs:=o;rw[e]at o
  obtain⟨n,A,q⟩:=(jjg h.ok).node t (h.sub t E)
  have o:r∈jaK (nodeOf t):=o;rw[jdR w (jb3 A) A]at o
  obtain⟨H,z,e⟩:=q r o
  subst e;rcases h.all H z with h1 | h1
  ·exact .inr (jmx hG h1)
  ·exact .inl (jeX.2 h1)
theorem Part.why(w:vW){S:vT}{m:vL}{L:vM}(h:Part S m L){room k:Int}(hk:jw0 False room S L k):k=3/\room < (S.length:Int)+(L.length:Int):=by
 rcases hk with⟨_,e⟩ |⟨_,G,hG,x,r,hr,hno⟩ |⟨rfl,top,G,M,_,hG,hP,hroom⟩
 ·exact e.elim
 ·exact absurd (h.refs w hG hr) hno
 ·have e:=jh7 (S:=S) (M:=M) (fun x o=>hP.at' o)
  have q:=(jfv L).2.2;rw[<-hG,cB]at q
  exact⟨rfl,by omega⟩
theorem jmA(f:Nd5->Nd5)(hf:∀ x,(f x).1=x.1):∀ (L:vT) (k:Key),atL (L.map f) k=(atL L k).map f
 | [],k=>rfl
 | x :: L,k=>by
  unfold atL;rw[bV,fT,fT,hf];cases e:decide (k=x.1)with
  | true=>rfl
  | false=>exact jmA f hf L k
theorem jl7(r:vB)(k:Key):cK [r] k=if k=r.data.toList then 1 else 0:=by
 have:=jkF r [] k
 rw[this];unfold cK;simp
structure AddK(w:World)(U:vM)(S:vT)(m:vL)(L:vM)(S':vT):Prop where
 kp:Kp U S'
 key:∀ k,k∈S'.map (·.1)↔k∈S.map (·.1)\/∃ t∈jbr m,k=ky t
 held:∀ k,jn8 (atL S' k)=jn8 (atL S k)+if k=ky (jay m).text then 1 else 0
 sum:jfe S'=jfe S+1
 len:S'.length<=S.length+L.length
 blk:∀ x∈S',x.2.1∈S.map (·.2.1)\/w.heap.size<=x.2.1
 bd:∀ n:Int,0<=n->(∀ x∈S,x.2.2.held<=n)->∀ x∈S',x.2.2.held<=n+1
theorem Part.add(w:vW){U:vM}(hU:InjL U){S:vT}(hK:Kp U S){m:vL}{L:vM}(h:Part S m L)(hs:∀ t∈jbr m,t∈U)(hl:L.length<=1000){s bm:Nat}{room:Int}{G:vT}{M:vM}{e:Ending}{w':vW}(hA:AddY w s bm room S L (jay m).text G M e w') :
  AddK w U S m L (addS S G M (jay m).text):=by
 have K:=hA.path;have J:=hA.given;have hF:=jhq J hA.nodes hl;have a2:((addS S G M (jay m).text).map (·.1)).Nodup:=hA.st.nd;have o:∀ x∈jc9 G (frK S M),x∈G/\(∃ t∈L,x.1=ky t/\x.2.2=itOf t)/\atL S x.1=none:=fun x q=>by
  obtain⟨X,z,E,e⟩:=jbT q
  exact⟨X,jcL J X,by rw[e];exact (jgi.1 E).2⟩
 have a3:∀ x∈S++jc9 G (frK S M),∃ t∈U,x.1=ky t/\x.2.2.text=t/\x.2.2.refs=jaK (nodeOf t):=fun x q=>by
  rcases bT.1 q with q | q
  ·exact hK.is x q
  ·obtain⟨t,O,e1,e2⟩:=(o x q).2.1
   exact⟨t,hs t (h.sub t O),e1,by rw[e2];rfl,by rw[e2];rfl⟩
 have Z:Kp U (addS S G M (jay m).text):=by
  refine⟨fun x' a0=>?_,jsf hK.cnt J hF K,jvE hK.cnt hK.full J K⟩
  rw[jcO]at a0
  obtain⟨x,q,rfl⟩:=bI.1 a0
  exact a3 x q
 have A:ky (jay m).text∈(addS S G M (jay m).text).map (·.1):=by
  rw[jet];exact jeX.1 (ji9 K (by rw[K.is];exact bD))
 have a1:∀ k,atL (addS S G M (jay m).text) k=(atL (S++jc9 G (frK S M)) k).map (jl0 ((frK S M).flatMap (jcp G)) (shaB (jay m).text)):=fun k=>by
  rw[jcO];exact jmA (jl0 ((frK S M).flatMap (jcp G)) (shaB (jay m).text)) (fun _=>rfl) _ k
 refine⟨Z,fun k=>?_,fun k=>?_,jzb a2 J K,?_,fun x q=>?_,fun n hn hb=>jk1 hb hn J⟩
 ·constructor
  ·intro H
   rw[jet,bZ,bT]at H;rcases H with H | H
   ·exact .inl H
   ·obtain⟨x,q,rfl⟩:=bI.1 H
    obtain⟨t,O,e1,_⟩:=(o x q).2.1
    exact .inr ⟨t,h.sub t O,e1⟩
  ·rintro (H |⟨t,O,rfl⟩)
   ·rw[jet,bZ,bT];exact .inl H
   ·exact jpT w hU Z h.ok hs A t O
 ·rw[a1]
  have E:(if k=ky (jay m).text then (1:Int)else 0)=((cK [shaB (jay m).text] k:Nat):Int):=by
   rw[jl7];unfold ky;split <;> rfl
  rw[E];unfold atL;rw[List.find?_append];cases hS:List.find? (fun x=>decide (k=x.1)) S with
  | some y =>
   have a4:=(jaU (L:=S) (k:=k) hS).2;show y.2.2.held+((cK [shaB (jay m).text] y.1:Nat):Int)=y.2.2.held+_;rw[a4]
  | none =>
   cases hP2:List.find? (fun x=>decide (k=x.1)) (jc9 G (frK S M))with
   | some y =>
    have hy:=jaU (L:=jc9 G (frK S M)) (k:=k) hP2
    obtain⟨t,O,e1,e2⟩:=(o y hy.1).2.1
    show y.2.2.held+((cK [shaB (jay m).text] y.1:Nat):Int)=0+_;rw[hy.2,e2];rfl
   | none =>
    show (0:Int)=0+_;rw[jl7]
    have:k≠(shaB (jay m).text).data.toList:=fun e=>by
     have X:=a1 k;have Q:=jeX.2 A;unfold ky at Q;rw[<-e,X]at Q;unfold atL at Q;rw[List.find?_append,hS,hP2]at Q;cases Q
    rw[if_neg this];rfl
 ·have X:=joj (S:=S) (G:=G) (M:=M) (top:=(jay m).text)
  have Q:=jh7 (S:=S) (M:=M) (fun x q=>K.at' q);have h3:=(jfv L).2.2;rw[<-J,cB]at h3;omega
 ·rw[jcO]at q
  obtain⟨z,E,rfl⟩:=bI.1 q
  rcases bT.1 E with E | E
  ·exact .inl (bI.2 ⟨z,E,rfl⟩)
  ·exact .inr (hA.news z (o z E).1)
end
section
open Go Go.RowKit
section
variable {w:vW} {s bm:Nat} {room:Int} {S:vT} {L:vM} {top:vB} {G:vT} {M:vM} {e:Ending} {w':vW}
theorem AddY.nodesS(h:AddY w s bm room S L top G M e w')(hN:∀ x∈S,∃ n,jbc x.2.2.text n):∀ x∈addS S G M top,∃ n,jbc x.2.2.text n:=fun x q=>by
 rw[jcO]at q
 obtain⟨z,o,rfl⟩:=bI.1 q
 rcases bT.1 o with o | o
 ·exact hN z o
 ·obtain⟨t,A,_,e⟩:=jcL h.given (jbT o).1
  obtain⟨n,E⟩:=h.nodes t A
  refine⟨n,?_⟩
  show jbc z.2.2.text n;rw[e];exact E
end
end
end Go.Proofs.YtepbencaoiompaaGreatDoor
