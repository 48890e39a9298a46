/- Parts of the proof, one behind the other: KeepA. Each is under no condition but those that it states. -/
import Derived.Test.YtpaacnhboilkkaaGreatDoorPt41
import Derived.Test.YtpaacnhboilkkaaGreatDoorPt34
namespace Go.Proofs.YtpaacnhboilkkaaGreatDoor
set_option linter.unusedSimpArgs false
set_option linter.unusedVariables false
set_option maxRecDepth 100000
set_option maxHeartbeats 16000000
section
open Go Go.RowKit
structure Kp(U:List ByteArray)(S:List Nd5):Prop where
 is:∀ x∈S,∃ t∈U,x.1=ky t∧x.2.2.text=t∧x.2.2.refs=hashesT (nodeOf t)
 cnt:Cnt S
 full:FullS S
theorem Kp.none(U:List ByteArray):Kp U []:=⟨by simp,Cnt.none,fun x hx=>by cases hx⟩
theorem Kp.text{U:List ByteArray}{S:List Nd5}(hU:InjL U)(h:Kp U S){t:ByteArray}(ht:t∈U)(hk:ky t∈S.map (·.1)):∃ x,atL S (ky t)=some x∧x∈S∧x.2.2.text=t∧x.2.2.refs=hashesT (nodeOf t):=by
 obtain⟨x,hx⟩:=Option.isSome_iff_exists.1 (has_iff.2 hk)
 obtain⟨x1,x2⟩:=atL_mem hx
 obtain⟨t',ht',e1,e2,e3⟩:=h.is x x1
 have:t'=t:=ky_inj hU ht' ht (e1.symm.trans x2)
 subst this
 exact⟨x,hx,x1,e2,e3⟩
theorem Kp.shut{U:List ByteArray}{S:List Nd5}(hU:InjL U)(h:Kp U S){t:ByteArray}(ht:t∈U)(hk:ky t∈S.map (·.1)){r:ByteArray}(hr:r∈hashesT (nodeOf t)):r.data.toList∈S.map (·.1):=by
 obtain⟨x,_,x1,_,x3⟩:=h.text hU ht hk
 exact h.cnt.shut r (List.mem_flatMap.2 ⟨x,x1,by rw[x3];exact hr⟩)
def NodeL(U:List ByteArray):Prop:=∀ t∈U,∃ n,IsNode t n
theorem Kp.bd{U:List ByteArray}{S:List Nd5}(h:Kp U S)(hl:S.length≤5000):∀ x∈S,0≤x.2.2.used∧x.2.2.used≤1000000000:=fun x hx=>by
 have h1:=h.cnt.used x hx
 have h2:=cK_le (refsS S) x.1
 have h3:=refsS_len h.cnt.r16
 omega
theorem root_has(w:World){U:List ByteArray}(hU:InjL U){S:List Nd5}(h:Kp U S){m:List Pair}(hm:checkN m=0)(hs:∀ t∈textsL m,t∈U)(hr:ky (trieT m).text∈S.map (·.1)):∀ t∈textsL m,ky t∈S.map (·.1):=
 root_all w hm (fun k=>k.data.toList∈S.map (fun x:Nd5=>x.1)) (fun t ht hk r hr=>h.shut hU (hs t ht) hk hr) hr
theorem Kp.has(w:World){U:List ByteArray}(hU:InjL U){S:List Nd5}(h:Kp U S){m:List Pair}(hm:checkN m=0)(hs:∀ t∈textsL m,t∈U)(hr:ky (trieT m).text∈S.map (·.1)):HasM S m:=
 ⟨hm,fun t ht=>by
  have ht:=(firsts_mem (flatT (trieT m)) t).2 ht
  obtain⟨x,x1,_,x3,_⟩:=h.text hU (hs t ht) (root_has w hU h hm hs hr t ht)
  exact⟨x,x1,x3⟩⟩
theorem Kp.nodes{U:List ByteArray}{S:List Nd5}(h:Kp U S)(hN:∀ t∈U,∃ n,IsNode t n):∀ x∈S,∃ n,IsNode x.2.2.text n:=fun x hx=>by
 obtain⟨t,ht,_,e,_⟩:=h.is x hx
 rw[e];exact hN t ht
theorem texts_nodes{m:List Pair}(hm:checkN m=0):NodeL (textsL m):=fun t ht=>by
 obtain⟨n,hn,_⟩:=(texts hm).node t ht
 exact⟨n,hn⟩
structure Part(S:List Nd5)(m:List Pair)(L:List ByteArray):Prop where
 ok:checkN m=0
 head:L[0]?=some (trieT m).text
 sub:∀ t∈L,t∈textsL m
 all:∀ t∈textsL m,t∈L∨ky t∈S.map (·.1)
theorem part_all(S:List Nd5){m:List Pair}(hm:checkN m=0):Part S m (textsL m):=⟨hm,(texts hm).head,fun _ h=>h,fun _ h=>.inl h⟩
theorem Part.refs(w:World){S:List Nd5}{m:List Pair}{L:List ByteArray}(h:Part S m L){G:List Nd5}(hG:G.map kvI=readG L){x r:ByteArray}(hr:r∈refsO G x):has2 S G r:=by
 unfold refsO at hr
 cases ha:atL G x.data.toList with
 | none=>rw[ha]at hr;cases hr
 | some y =>
  rw[ha]at hr
  obtain⟨t,ht,_,e⟩:=given_is hG (atL_mem ha).1
  have hr:r∈y.2.2.refs:=hr
  rw[e]at hr
  obtain⟨n,hn,hall⟩:=(texts h.ok).node t (h.sub t ht)
  have hr:r∈hashesT (nodeOf t):=hr
  rw[isNode_inj w (nodeOf_is hn) hn]at hr
  obtain⟨t',ht',e⟩:=hall r hr
  subst e
  rcases h.all t' ht' with h1 | h1
  ·exact .inr (given_has hG h1)
  ·exact .inl (has_iff.2 h1)
theorem Part.why(w:World){S:List Nd5}{m:List Pair}{L:List ByteArray}(h:Part S m L){room k:Int}(hk:AddWhy False room S L k):k=3∧room < (S.length:Int)+(L.length:Int):=by
 rcases hk with⟨_,h1⟩ |⟨_,G,hG,x,r,hr,hno⟩ |⟨rfl,top,G,M,_,hG,hP,hroom⟩
 ·exact h1.elim
 ·exact absurd (h.refs w hG hr) hno
 ·have h1:=frK_len2 (S:=S) (M:=M) (fun x hx=>hP.at' hx)
  have h2:=(readG_all L).2.2
  rw[←hG,List.length_map]at h2
  exact⟨rfl,by omega⟩
theorem heldO_map(f:Nd5→Nd5)(hf:∀ x,(f x).1=x.1):∀ (L:List Nd5) (k:Key),atL (L.map f) k=(atL L k).map f
 | [],k=>rfl
 | x :: L,k=>by
  unfold atL
  rw[List.map_cons,List.find?_cons,List.find?_cons,hf]
  cases e:decide (k=x.1)with
  | true=>rfl
  | false=>exact heldO_map f hf L k
theorem cK_single(r:ByteArray)(k:Key):cK [r] k=if k=r.data.toList then 1 else 0:=by
 have:=cK_cons r [] k
 rw[this];unfold cK;simp
structure AddK(w:World)(U:List ByteArray)(S:List Nd5)(m:List Pair)(L:List ByteArray)(S':List Nd5):Prop where
 kp:Kp U S'
 key:∀ k,k∈S'.map (·.1)↔k∈S.map (·.1)∨∃ t∈textsL m,k=ky t
 held:∀ k,heldO (atL S' k)=heldO (atL S k)+if k=ky (trieT m).text then 1 else 0
 sum:heldS S'=heldS S+1
 len:S'.length≤S.length+L.length
 blk:∀ x∈S',x.2.1∈S.map (·.2.1)∨w.heap.size≤x.2.1
 bd:∀ n:Int,0≤n→(∀ x∈S,x.2.2.held≤n)→∀ x∈S',x.2.2.held≤n+1
theorem Part.add(w:World){U:List ByteArray}(hU:InjL U){S:List Nd5}(hK:Kp U S){m:List Pair}{L:List ByteArray}(h:Part S m L)(hs:∀ t∈textsL m,t∈U)(hl:L.length≤1000){s bm:Nat}{room:Int}{G:List Nd5}{M:List ByteArray}{e:Ending}{w':World}(hA:AddY w s bm room S L (trieT m).text G M e w') :
  AddK w U S m L (addS S G M (trieT m).text):=by
 have hP:=hA.path
 have hG:=hA.given
 have hF:=given_fair hG hA.nodes hl
 have hnd:((addS S G M (trieT m).text).map (·.1)).Nodup:=hA.st.nd
 have hpick:∀ x∈picks G (frK S M),x∈G∧(∃ t∈L,x.1=ky t∧x.2.2=itOf t)∧atL S x.1=none:=fun x hx=>by
  obtain⟨h1,z,hz,e⟩:=picks_mem hx
  exact⟨h1,given_is hG h1,by rw[e];exact (frK_mem.1 hz).2⟩
 have his:∀ x∈S++picks G (frK S M),∃ t∈U,x.1=ky t∧x.2.2.text=t∧x.2.2.refs=hashesT (nodeOf t):=fun x hx=>by
  rcases List.mem_append.1 hx with hx | hx
  ·exact hK.is x hx
  ·obtain⟨t,ht,e1,e2⟩:=(hpick x hx).2.1
   exact⟨t,hs t (h.sub t ht),e1,by rw[e2];rfl,by rw[e2];rfl⟩
 have hkp:Kp U (addS S G M (trieT m).text):=by
  refine⟨fun x' hx'=>?_,cnt_add hK.cnt hG hF hP,full_add hK.cnt hK.full hG hP⟩
  rw[addS_is]at hx'
  obtain⟨x,hx,rfl⟩:=List.mem_map.1 hx'
  exact his x hx
 have hroot:ky (trieT m).text∈(addS S G M (trieT m).text).map (·.1):=by
  rw[addS_keys2]
  exact has_iff.1 (s1_has2 hP (by rw[hP.is];exact List.mem_cons_self))
 have hat:∀ k,atL (addS S G M (trieT m).text) k=(atL (S++picks G (frK S M)) k).map (bothU ((frK S M).flatMap (refsO G)) (shaB (trieT m).text)):=fun k=>by
  rw[addS_is];exact heldO_map (bothU ((frK S M).flatMap (refsO G)) (shaB (trieT m).text)) (fun _=>rfl) _ k
 refine⟨hkp,fun k=>?_,fun k=>?_,sum_add hnd hG hP,?_,fun x hx=>?_,fun n hn hb=>held_add hb hn hG⟩
 ·constructor
  ·intro hk
   rw[addS_keys2,List.map_append,List.mem_append]at hk
   rcases hk with hk | hk
   ·exact .inl hk
   ·obtain⟨x,hx,rfl⟩:=List.mem_map.1 hk
    obtain⟨t,ht,e1,_⟩:=(hpick x hx).2.1
    exact .inr ⟨t,h.sub t ht,e1⟩
  ·rintro (hk |⟨t,ht,rfl⟩)
   ·rw[addS_keys2,List.map_append,List.mem_append];exact .inl hk
   ·exact root_has w hU hkp h.ok hs hroot t ht
 ·rw[hat]
  have hz:(if k=ky (trieT m).text then (1:Int)else 0)=((cK [shaB (trieT m).text] k:Nat):Int):=by
   rw[cK_single];unfold ky;split <;> rfl
  rw[hz]
  unfold atL
  rw[List.find?_append]
  cases hS:List.find? (fun x=>decide (k=x.1)) S with
  | some y =>
   have hk1:=(atL_mem (L:=S) (k:=k) hS).2
   show y.2.2.held+((cK [shaB (trieT m).text] y.1:Nat):Int)=y.2.2.held+_
   rw[hk1]
  | none =>
   cases hP2:List.find? (fun x=>decide (k=x.1)) (picks G (frK S M))with
   | some y =>
    have hy:=atL_mem (L:=picks G (frK S M)) (k:=k) hP2
    obtain⟨t,ht,e1,e2⟩:=(hpick y hy.1).2.1
    show y.2.2.held+((cK [shaB (trieT m).text] y.1:Nat):Int)=0+_
    rw[hy.2,e2];rfl
   | none =>
    show (0:Int)=0+_
    rw[cK_single]
    have:k≠(shaB (trieT m).text).data.toList:=fun e=>by
     have h1:=hat k
     have h2:=has_iff.2 hroot
     unfold ky at h2
     rw[←e,h1]at h2
     unfold atL at h2
     rw[List.find?_append,hS,hP2]at h2
     cases h2
    rw[if_neg this];rfl
 ·have h1:=len_add (S:=S) (G:=G) (M:=M) (top:=(trieT m).text)
  have h2:=frK_len2 (S:=S) (M:=M) (fun x hx=>hP.at' hx)
  have h3:=(readG_all L).2.2
  rw[←hG,List.length_map]at h3
  omega
 ·rw[addS_is]at hx
  obtain⟨z,hz,rfl⟩:=List.mem_map.1 hx
  rcases List.mem_append.1 hz with hz | hz
  ·exact .inl (List.mem_map.2 ⟨z,hz,rfl⟩)
  ·exact .inr (hA.news z (hpick z hz).1)
end
end Go.Proofs.YtpaacnhboilkkaaGreatDoor
