/- Lemmas; each is under no condition but those that it states. -/
import Derived.Test.YtcpnjmcipainpaaGreatDoorPr37
namespace Go.Proofs.YtcpnjmcipainpaaGreatDoor
set_option linter.unusedSimpArgs false
set_option linter.unusedVariables false
set_option maxRecDepth 100000
set_option maxHeartbeats 16000000
open Go Go.RowKit
structure Kp(U:List vB)(S:List Nd5):Prop where
 is:∀ x∈S,∃ t∈U,x.1=ky t/\x.2.2.text=t/\x.2.2.refs=jaU (nodeOf t)
 cnt:Cnt S
 full:juE S
theorem Kp.none(U:List vB):Kp U []:=⟨by simp,Cnt.none,fun x hx=>by cases hx⟩
theorem Kp.text{U:List vB}{S:List Nd5}(hU:InjL U)(h:Kp U S){t:vB}(ht:t∈U)(hk:ky t∈S.map (·.1)):∃ x,atL S (ky t)=some x/\x∈S/\x.2.2.text=t/\x.2.2.refs=jaU (nodeOf t):=by
 obtain⟨x,hx⟩:=Option.isSome_iff_exists.1 (jes.2 hk)
 obtain⟨x1,x2⟩:=ja6 hx
 obtain⟨t',ht',e1,e2,e3⟩:=h.is x x1
 have:t'=t:=jxu hU ht' ht (e1.symm.trans x2)
 subst this
 exact⟨x,hx,x1,e2,e3⟩
theorem Kp.shut{U:List vB}{S:List Nd5}(hU:InjL U)(h:Kp U S){t:vB}(ht:t∈U)(hk:ky t∈S.map (·.1)){r:vB}(hr:r∈jaU (nodeOf t)):r.data.toList∈S.map (·.1):=by
 obtain⟨x,_,x1,_,x3⟩:=h.text hU ht hk
 exact h.cnt.shut r (List.mem_flatMap.2 ⟨x,x1,by rw[x3];exact hr⟩)
def jwE(U:List vB):Prop:=∀ t∈U,∃ n,jbK t n
theorem Kp.bd{U:List vB}{S:List Nd5}(h:Kp U S)(hl:S.length<=5000):∀ x∈S,0<=x.2.2.used/\x.2.2.used<=1000000000:=fun x hx=>by
 have h1:=h.cnt.used x hx;have h2:=jw3 (jga S) x.1;have h3:=jrt h.cnt.r16;omega
theorem jnL(w:World){U:List vB}(hU:InjL U){S:List Nd5}(h:Kp U S){m:List Pair}(hm:jaG m=0)(hs:∀ t∈jbz m,t∈U)(hr:ky (jaL m).text∈S.map (·.1)):∀ t∈jbz m,ky t∈S.map (·.1):=
 jtM w hm (fun k=>k.data.toList∈S.map (fun x:Nd5=>x.1)) (fun t ht hk r hr=>h.shut hU (hs t ht) hk hr) hr
theorem Kp.has(w:World){U:List vB}(hU:InjL U){S:List Nd5}(h:Kp U S){m:List Pair}(hm:jaG m=0)(hs:∀ t∈jbz m,t∈U)(hr:ky (jaL m).text∈S.map (·.1)):HasM S m:=
 ⟨hm,fun t ht=>by
  have ht:=(ja9 (jaF (jaL m)) t).2 ht
  obtain⟨x,x1,_,x3,_⟩:=h.text hU (hs t ht) (jnL w hU h hm hs hr t ht)
  exact⟨x,x1,x3⟩⟩
theorem Kp.nodes{U:List vB}{S:List Nd5}(h:Kp U S)(hN:∀ t∈U,∃ n,jbK t n):∀ x∈S,∃ n,jbK x.2.2.text n:=fun x hx=>by
 obtain⟨t,ht,_,e,_⟩:=h.is x hx
 rw[e];exact hN t ht
theorem jdD{m:List Pair}(hm:jaG m=0):jwE (jbz m):=fun t ht=>by
 obtain⟨n,hn,_⟩:=(jkb hm).node t ht
 exact⟨n,hn⟩
structure Part(S:List Nd5)(m:List Pair)(L:List vB):Prop where
 ok:jaG m=0
 head:L[0]?=some (jaL m).text
 sub:∀ t∈L,t∈jbz m
 all:∀ t∈jbz m,t∈L\/ky t∈S.map (·.1)
theorem jnA(S:List Nd5){m:List Pair}(hm:jaG m=0):Part S m (jbz m):=⟨hm,(jkb hm).head,fun _ h=>h,fun _ h=>.inl h⟩
theorem Part.refs(w:World){S:List Nd5}{m:List Pair}{L:List vB}(h:Part S m L){G:List Nd5}(hG:G.map kvI=readG L){x r:vB}(hr:r∈jb3 G x):has2 S G r:=by
 unfold jb3 at hr;cases ha:atL G x.data.toList with
 | none=>rw[ha]at hr;cases hr
 | some y =>
  rw[ha]at hr
  obtain⟨t,ht,_,e⟩:=jcV hG (ja6 ha).1
  have hr:r∈y.2.2.refs:=hr;rw[e]at hr
  obtain⟨n,hn,hall⟩:=(jkb h.ok).node t (h.sub t ht)
  have hr:r∈jaU (nodeOf t):=hr;rw[jdm w (jb9 hn) hn]at hr
  obtain⟨t',ht',e⟩:=hall r hr
  subst e;rcases h.all t' ht' with h1 | h1
  ·exact .inr (jkU hG h1)
  ·exact .inl (jes.2 h1)
theorem Part.why(w:World){S:List Nd5}{m:List Pair}{L:List vB}(h:Part S m L){room k:Int}(hk:juc False room S L k):k=3/\room < (S.length:Int)+(L.length:Int):=by
 rcases hk with⟨_,h1⟩ |⟨_,G,hG,x,r,hr,hno⟩ |⟨rfl,top,G,M,_,hG,hP,hroom⟩
 ·exact h1.elim
 ·exact absurd (h.refs w hG hr) hno
 ·have h1:=jg9 (S:=S) (M:=M) (fun x hx=>hP.at' hx)
  have h2:=(jeY L).2.2;rw[<-hG,List.length_map]at h2
  exact⟨rfl,by omega⟩
theorem jkY(f:Nd5->Nd5)(hf:∀ x,(f x).1=x.1):∀ (L:List Nd5) (k:Key),atL (L.map f) k=(atL L k).map f
 | [],k=>rfl
 | x :: L,k=>by
  unfold atL;rw[List.map_cons,List.find?_cons,List.find?_cons,hf];cases e:decide (k=x.1)with
  | true=>rfl
  | false=>exact jkY f hf L k
theorem jkD(r:vB)(k:Key):cK [r] k=if k=r.data.toList then 1 else 0:=by
 have:=jjn r [] k
 rw[this];unfold cK;simp
structure AddK(w:World)(U:List vB)(S:List Nd5)(m:List Pair)(L:List vB)(S':List Nd5):Prop where
 kp:Kp U S'
 key:∀ k,k∈S'.map (·.1)↔k∈S.map (·.1)\/∃ t∈jbz m,k=ky t
 held:∀ k,jmo (atL S' k)=jmo (atL S k)+if k=ky (jaL m).text then 1 else 0
 sum:jeH S'=jeH S+1
 len:S'.length<=S.length+L.length
 blk:∀ x∈S',x.2.1∈S.map (·.2.1)\/w.heap.size<=x.2.1
 bd:∀ n:Int,0<=n->(∀ x∈S,x.2.2.held<=n)->∀ x∈S',x.2.2.held<=n+1
theorem Part.add(w:World){U:List vB}(hU:InjL U){S:List Nd5}(hK:Kp U S){m:List Pair}{L:List vB}(h:Part S m L)(hs:∀ t∈jbz m,t∈U)(hl:L.length<=1000){s bm:Nat}{room:Int}{G:List Nd5}{M:List vB}{e:Ending}{w':World}(hA:AddY w s bm room S L (jaL m).text G M e w') :
  AddK w U S m L (addS S G M (jaL m).text):=by
 have hP:=hA.path;have hG:=hA.given;have hF:=jiR hG hA.nodes hl;have hnd:((addS S G M (jaL m).text).map (·.1)).Nodup:=hA.st.nd;have hpick:∀ x∈jcN G (frK S M),x∈G/\(∃ t∈L,x.1=ky t/\x.2.2=itOf t)/\atL S x.1=none:=fun x hx=>by
  obtain⟨h1,z,hz,e⟩:=jbW hx
  exact⟨h1,jcV hG h1,by rw[e];exact (jfD.1 hz).2⟩
 have his:∀ x∈S++jcN G (frK S M),∃ t∈U,x.1=ky t/\x.2.2.text=t/\x.2.2.refs=jaU (nodeOf t):=fun x hx=>by
  rcases List.mem_append.1 hx with hx | hx
  ·exact hK.is x hx
  ·obtain⟨t,ht,e1,e2⟩:=(hpick x hx).2.1
   exact⟨t,hs t (h.sub t ht),e1,by rw[e2];rfl,by rw[e2];rfl⟩
 have hkp:Kp U (addS S G M (jaL m).text):=by
  refine⟨fun x' hx'=>?_,ju6 hK.cnt hG hF hP,jsX hK.cnt hK.full hG hP⟩
  rw[jda]at hx'
  obtain⟨x,hx,rfl⟩:=List.mem_map.1 hx'
  exact his x hx
 have hroot:ky (jaL m).text∈(addS S G M (jaL m).text).map (·.1):=by
  rw[jdV];exact jes.1 (jih hP (by rw[hP.is];exact List.mem_cons_self))
 have hat:∀ k,atL (addS S G M (jaL m).text) k=(atL (S++jcN G (frK S M)) k).map (jky ((frK S M).flatMap (jb3 G)) (shaB (jaL m).text)):=fun k=>by
  rw[jda];exact jkY (jky ((frK S M).flatMap (jb3 G)) (shaB (jaL m).text)) (fun _=>rfl) _ k
 refine⟨hkp,fun k=>?_,fun k=>?_,jv8 hnd hG hP,?_,fun x hx=>?_,fun n hn hb=>js3 hb hn hG⟩
 ·constructor
  ·intro hk
   rw[jdV,List.map_append,List.mem_append]at hk;rcases hk with hk | hk
   ·exact .inl hk
   ·obtain⟨x,hx,rfl⟩:=List.mem_map.1 hk
    obtain⟨t,ht,e1,_⟩:=(hpick x hx).2.1
    exact .inr ⟨t,h.sub t ht,e1⟩
  ·rintro (hk |⟨t,ht,rfl⟩)
   ·rw[jdV,List.map_append,List.mem_append];exact .inl hk
   ·exact jnL w hU hkp h.ok hs hroot t ht
 ·rw[hat]
  have hz:(if k=ky (jaL m).text then (1:Int)else 0)=((cK [shaB (jaL m).text] k:Nat):Int):=by
   rw[jkD];unfold ky;split <;> rfl
  rw[hz];unfold atL;rw[List.find?_append];cases hS:List.find? (fun x=>decide (k=x.1)) S with
  | some y =>
   have hk1:=(ja6 (L:=S) (k:=k) hS).2;show y.2.2.held+((cK [shaB (jaL m).text] y.1:Nat):Int)=y.2.2.held+_;rw[hk1]
  | none =>
   cases hP2:List.find? (fun x=>decide (k=x.1)) (jcN G (frK S M))with
   | some y =>
    have hy:=ja6 (L:=jcN G (frK S M)) (k:=k) hP2
    obtain⟨t,ht,e1,e2⟩:=(hpick y hy.1).2.1
    show y.2.2.held+((cK [shaB (jaL m).text] y.1:Nat):Int)=0+_;rw[hy.2,e2];rfl
   | none =>
    show (0:Int)=0+_;rw[jkD]
    have:k≠(shaB (jaL m).text).data.toList:=fun e=>by
     have h1:=hat k;have h2:=jes.2 hroot;unfold ky at h2;rw[<-e,h1]at h2;unfold atL at h2;rw[List.find?_append,hS,hP2]at h2;cases h2
    rw[if_neg this];rfl
 ·have h1:=jqx (S:=S) (G:=G) (M:=M) (top:=(jaL m).text)
  have h2:=jg9 (S:=S) (M:=M) (fun x hx=>hP.at' hx);have h3:=(jeY L).2.2;rw[<-hG,List.length_map]at h3;omega
 ·rw[jda]at hx
  obtain⟨z,hz,rfl⟩:=List.mem_map.1 hx
  rcases List.mem_append.1 hz with hz | hz
  ·exact .inl (List.mem_map.2 ⟨z,hz,rfl⟩)
  ·exact .inr (hA.news z (hpick z hz).1)
end Go.Proofs.YtcpnjmcipainpaaGreatDoor
