/- Parts of the proof, one behind the other: KeepA, KeepB, jdQ, PreB, CurA, RefPl, CurPl, CurB, CurC. Each is under no condition but those that it states. -/
import Derived.Test.YtpaacnhboilkkaaGreatDoorPh37
import Derived.Test.YtpaacnhboilkkaaGreatDoorPh14
import Derived.Test.YtpaacnhboilkkaaGreatDoorPh4
import Derived.Test.YtpaacnhboilkkaaGreatDoorPh29
import Derived.Test.YtpaacnhboilkkaaGreatDoorPh33
namespace Go.Proofs.YtpaacnhboilkkaaGreatDoor
set_option linter.unusedSimpArgs false
set_option linter.unusedVariables false
set_option maxRecDepth 100000
set_option maxHeartbeats 16000000
section
open Go Go.RowKit
structure Kp(U:List ByteArray)(S:List Nd5):Prop where
 is:∀ x∈S,∃ t∈U,x.1=ky t∧x.2.2.text=t∧x.2.2.refs=jaV (nodeOf t)
 cnt:Cnt S
 full:jiT S
theorem Kp.none(U:List ByteArray):Kp U []:=⟨by simp,Cnt.none,fun x hx=>by cases hx⟩
theorem Kp.text{U:List ByteArray}{S:List Nd5}(hU:InjL U)(h:Kp U S){t:ByteArray}(ht:t∈U)(hk:ky t∈S.map (·.1)):∃ x,atL S (ky t)=some x∧x∈S∧x.2.2.text=t∧x.2.2.refs=jaV (nodeOf t):=by
 obtain⟨x,hx⟩:=Option.isSome_iff_exists.1 (jdM.2 hk)
 obtain⟨x1,x2⟩:=jaD hx
 obtain⟨t',ht',e1,e2,e3⟩:=h.is x x1
 have:t'=t:=jwC hU ht' ht (e1.symm.trans x2)
 subst this
 exact⟨x,hx,x1,e2,e3⟩
theorem Kp.shut{U:List ByteArray}{S:List Nd5}(hU:InjL U)(h:Kp U S){t:ByteArray}(ht:t∈U)(hk:ky t∈S.map (·.1)){r:ByteArray}(hr:r∈jaV (nodeOf t)):r.data.toList∈S.map (·.1):=by
 obtain⟨x,_,x1,_,x3⟩:=h.text hU ht hk
 exact h.cnt.shut r (List.mem_flatMap.2 ⟨x,x1,by rw[x3];exact hr⟩)
def jvT(U:List ByteArray):Prop:=∀ t∈U,∃ n,jbW t n
theorem Kp.bd{U:List ByteArray}{S:List Nd5}(h:Kp U S)(hl:S.length≤5000):∀ x∈S,0≤x.2.2.used∧x.2.2.used≤1000000000:=fun x hx=>by
 have h1:=h.cnt.used x hx;have h2:=jrW (jcD S) x.1;have h3:=jk3 h.cnt.r16;omega
theorem jne(w:World){U:List ByteArray}(hU:InjL U){S:List Nd5}(h:Kp U S){m:List Pair}(hm:jaS m=0)(hs:∀ t∈jcg m,t∈U)(hr:ky (jaT m).text∈S.map (·.1)):∀ t∈jcg m,ky t∈S.map (·.1):=
 jnd w hm (fun k=>k.data.toList∈S.map (fun x:Nd5=>x.1)) (fun t ht hk r hr=>h.shut hU (hs t ht) hk hr) hr
theorem Kp.has(w:World){U:List ByteArray}(hU:InjL U){S:List Nd5}(h:Kp U S){m:List Pair}(hm:jaS m=0)(hs:∀ t∈jcg m,t∈U)(hr:ky (jaT m).text∈S.map (·.1)):HasM S m:=
 ⟨hm,fun t ht=>by
  have ht:=(jbm (jaI (jaT m)) t).2 ht
  obtain⟨x,x1,_,x3,_⟩:=h.text hU (hs t ht) (jne w hU h hm hs hr t ht)
  exact⟨x,x1,x3⟩⟩
theorem Kp.nodes{U:List ByteArray}{S:List Nd5}(h:Kp U S)(hN:∀ t∈U,∃ n,jbW t n):∀ x∈S,∃ n,jbW x.2.2.text n:=fun x hx=>by
 obtain⟨t,ht,_,e,_⟩:=h.is x hx
 rw[e];exact hN t ht
theorem jl8{m:List Pair}(hm:jaS m=0):jvT (jcg m):=fun t ht=>by
 obtain⟨n,hn,_⟩:=(jlb hm).node t ht
 exact⟨n,hn⟩
structure Part(S:List Nd5)(m:List Pair)(L:List ByteArray):Prop where
 ok:jaS m=0
 head:L[0]?=some (jaT m).text
 sub:∀ t∈L,t∈jcg m
 all:∀ t∈jcg m,t∈L∨ky t∈S.map (·.1)
theorem jsU(S:List Nd5){m:List Pair}(hm:jaS m=0):Part S m (jcg m):=⟨hm,(jlb hm).head,fun _ h=>h,fun _ h=>.inl h⟩
theorem Part.refs(w:World){S:List Nd5}{m:List Pair}{L:List ByteArray}(h:Part S m L){G:List Nd5}(hG:G.map kvI=readG L){x r:ByteArray}(hr:r∈jb4 G x):has2 S G r:=by
 unfold jb4 at hr;cases ha:atL G x.data.toList with
 | none=>rw[ha]at hr;cases hr
 | some y =>
  rw[ha]at hr
  obtain⟨t,ht,_,e⟩:=jdd hG (jaD ha).1
  have hr:r∈y.2.2.refs:=hr;rw[e]at hr
  obtain⟨n,hn,hall⟩:=(jlb h.ok).node t (h.sub t ht)
  have hr:r∈jaV (nodeOf t):=hr;rw[jd6 w (jdm hn) hn]at hr
  obtain⟨t',ht',e⟩:=hall r hr
  subst e;rcases h.all t' ht' with h1 | h1
  ·exact .inr (jkr hG h1)
  ·exact .inl (jdM.2 h1)
theorem Part.why(w:World){S:List Nd5}{m:List Pair}{L:List ByteArray}(h:Part S m L){room k:Int}(hk:jtq False room S L k):k=3∧room < (S.length:Int)+(L.length:Int):=by
 rcases hk with⟨_,h1⟩ |⟨_,G,hG,x,r,hr,hno⟩ |⟨rfl,top,G,M,_,hG,hP,hroom⟩
 ·exact h1.elim
 ·exact absurd (h.refs w hG hr) hno
 ·have h1:=jf6 (S:=S) (M:=M) (fun x hx=>hP.at' hx)
  have h2:=(jef L).2.2;rw[←hG,List.length_map]at h2
  exact⟨rfl,by omega⟩
theorem jhM(f:Nd5→Nd5)(hf:∀ x,(f x).1=x.1):∀ (L:List Nd5) (k:Key),atL (L.map f) k=(atL L k).map f
 | [],k=>rfl
 | x :: L,k=>by
  unfold atL;rw[List.map_cons,List.find?_cons,List.find?_cons,hf];cases e:decide (k=x.1)with
  | true=>rfl
  | false=>exact jhM f hf L k
theorem jhi(r:ByteArray)(k:Key):cK [r] k=if k=r.data.toList then 1 else 0:=by
 have:=jhh r [] k
 rw[this];unfold cK;simp
structure AddK(w:World)(U:List ByteArray)(S:List Nd5)(m:List Pair)(L:List ByteArray)(S':List Nd5):Prop where
 kp:Kp U S'
 key:∀ k,k∈S'.map (·.1)↔k∈S.map (·.1)∨∃ t∈jcg m,k=ky t
 held:∀ k,jku (atL S' k)=jku (atL S k)+if k=ky (jaT m).text then 1 else 0
 sum:jcb S'=jcb S+1
 len:S'.length≤S.length+L.length
 blk:∀ x∈S',x.2.1∈S.map (·.2.1)∨w.heap.size≤x.2.1
 bd:∀ n:Int,0≤n→(∀ x∈S,x.2.2.held≤n)→∀ x∈S',x.2.2.held≤n+1
theorem Part.add(w:World){U:List ByteArray}(hU:InjL U){S:List Nd5}(hK:Kp U S){m:List Pair}{L:List ByteArray}(h:Part S m L)(hs:∀ t∈jcg m,t∈U)(hl:L.length≤1000){s bm:Nat}{room:Int}{G:List Nd5}{M:List ByteArray}{e:Ending}{w':World}(hA:AddY w s bm room S L (jaT m).text G M e w') :
  AddK w U S m L (addS S G M (jaT m).text):=by
 have hP:=hA.path;have hG:=hA.given;have hF:=jgF hG hA.nodes hl;have hnd:((addS S G M (jaT m).text).map (·.1)).Nodup:=hA.st.nd;have hpick:∀ x∈jc2 G (frK S M),x∈G∧(∃ t∈L,x.1=ky t∧x.2.2=itOf t)∧atL S x.1=none:=fun x hx=>by
  obtain⟨h1,z,hz,e⟩:=jb1 hx
  exact⟨h1,jdd hG h1,by rw[e];exact (jfM.1 hz).2⟩
 have his:∀ x∈S++jc2 G (frK S M),∃ t∈U,x.1=ky t∧x.2.2.text=t∧x.2.2.refs=jaV (nodeOf t):=fun x hx=>by
  rcases List.mem_append.1 hx with hx | hx
  ·exact hK.is x hx
  ·obtain⟨t,ht,e1,e2⟩:=(hpick x hx).2.1
   exact⟨t,hs t (h.sub t ht),e1,by rw[e2];rfl,by rw[e2];rfl⟩
 have hkp:Kp U (addS S G M (jaT m).text):=by
  refine⟨fun x' hx'=>?_,jps hK.cnt hG hF hP,jmF hK.cnt hK.full hG hP⟩
  rw[jcI]at hx'
  obtain⟨x,hx,rfl⟩:=List.mem_map.1 hx'
  exact his x hx
 have hroot:ky (jaT m).text∈(addS S G M (jaT m).text).map (·.1):=by
  rw[jd1];exact jdM.1 (jh0 hP (by rw[hP.is];exact List.mem_cons_self))
 have hat:∀ k,atL (addS S G M (jaT m).text) k=(atL (S++jc2 G (frK S M)) k).map (jgq ((frK S M).flatMap (jb4 G)) (shaB (jaT m).text)):=fun k=>by
  rw[jcI];exact jhM (jgq ((frK S M).flatMap (jb4 G)) (shaB (jaT m).text)) (fun _=>rfl) _ k
 refine⟨hkp,fun k=>?_,fun k=>?_,jvr hnd hG hP,?_,fun x hx=>?_,fun n hn hb=>jmN hb hn hG⟩
 ·constructor
  ·intro hk
   rw[jd1,List.map_append,List.mem_append]at hk;rcases hk with hk | hk
   ·exact .inl hk
   ·obtain⟨x,hx,rfl⟩:=List.mem_map.1 hk
    obtain⟨t,ht,e1,_⟩:=(hpick x hx).2.1
    exact .inr ⟨t,h.sub t ht,e1⟩
  ·rintro (hk |⟨t,ht,rfl⟩)
   ·rw[jd1,List.map_append,List.mem_append];exact .inl hk
   ·exact jne w hU hkp h.ok hs hroot t ht
 ·rw[hat]
  have hz:(if k=ky (jaT m).text then (1:Int)else 0)=((cK [shaB (jaT m).text] k:Nat):Int):=by
   rw[jhi];unfold ky;split <;> rfl
  rw[hz];unfold atL;rw[List.find?_append];cases hS:List.find? (fun x=>decide (k=x.1)) S with
  | some y =>
   have hk1:=(jaD (L:=S) (k:=k) hS).2;show y.2.2.held+((cK [shaB (jaT m).text] y.1:Nat):Int)=y.2.2.held+_;rw[hk1]
  | none =>
   cases hP2:List.find? (fun x=>decide (k=x.1)) (jc2 G (frK S M))with
   | some y =>
    have hy:=jaD (L:=jc2 G (frK S M)) (k:=k) hP2
    obtain⟨t,ht,e1,e2⟩:=(hpick y hy.1).2.1
    show y.2.2.held+((cK [shaB (jaT m).text] y.1:Nat):Int)=0+_;rw[hy.2,e2];rfl
   | none =>
    show (0:Int)=0+_;rw[jhi]
    have:k≠(shaB (jaT m).text).data.toList:=fun e=>by
     have h1:=hat k;have h2:=jdM.2 hroot;unfold ky at h2;rw[←e,h1]at h2;unfold atL at h2;rw[List.find?_append,hS,hP2]at h2;cases h2
    rw[if_neg this];rfl
 ·have h1:=jqg (S:=S) (G:=G) (M:=M) (top:=(jaT m).text)
  have h2:=jf6 (S:=S) (M:=M) (fun x hx=>hP.at' hx);have h3:=(jef L).2.2;rw[←hG,List.length_map]at h3;omega
 ·rw[jcI]at hx
  obtain⟨z,hz,rfl⟩:=List.mem_map.1 hx
  rcases List.mem_append.1 hz with hz | hz
  ·exact .inl (List.mem_map.2 ⟨z,hz,rfl⟩)
  ·exact .inr (hA.news z (hpick z hz).1)
end
section
open Go Go.RowKit
theorem jt8(S G:List Nd5)(M:List ByteArray)(top:ByteArray)(k:Key):atL (addS S G M top) k=(atL (S++jc2 G (frK S M)) k).map (jgq ((frK S M).flatMap (jb4 G)) (shaB top)):=by
 rw[jcI];exact jhM (jgq ((frK S M).flatMap (jb4 G)) (shaB top)) (fun _=>rfl) _ k
theorem jiW{S G:List Nd5}{M:List ByteArray}{top:ByteArray}{k:Key}{x:Nd5}(h:atL S k=some x):atL (addS S G M top) k=some (jgq ((frK S M).flatMap (jb4 G)) (shaB top) x):=by
 rw[jt8];unfold atL at h ⊢;rw[List.find?_append,h];rfl
theorem jmc{S G:List Nd5}{M:List ByteArray}{top t:ByteArray}(h:HasS S t):HasS (addS S G M top) t:=by
 obtain⟨x,h1,h2⟩:=h
 exact⟨_,jiW h1,h2⟩
theorem joO{S G:List Nd5}{M:List ByteArray}{top:ByteArray}{l:List Pair}(h:HasM S l):HasM (addS S G M top) l:=⟨h.ok,fun x hx=>jmc (h.has x hx)⟩
section
variable {w:World} {s bm:Nat} {room:Int} {S:List Nd5} {L:List ByteArray} {top:ByteArray} {G:List Nd5} {M:List ByteArray} {e:Ending} {w':World}
theorem AddY.len2(h:AddY w s bm room S L top G M e w'):(addS S G M top).length≤S.length+L.length:=by
 have h1:=jqg (S:=S) (G:=G) (M:=M) (top:=top);have h2:=jf6 (S:=S) (M:=M) (fun x hx=>h.path.at' hx);have h3:=(jef L).2.2;rw[←h.given,List.length_map]at h3;omega
theorem AddY.newS(h:AddY w s bm room S L top G M e w'):∀ x∈addS S G M top,x.2.1∈S.map (·.2.1)∨w.heap.size≤x.2.1:=fun x hx=>by
 rw[jcI]at hx
 obtain⟨z,hz,rfl⟩:=List.mem_map.1 hx
 rcases List.mem_append.1 hz with hz | hz
 ·exact .inl (List.mem_map.2 ⟨z,hz,rfl⟩)
 ·exact .inr (h.news z (jb1 hz).1)
theorem AddY.cntS(h:AddY w s bm room S L top G M e w')(hl:L.length≤1000)(hc:Cnt S)(hf:jiT S):Cnt (addS S G M top)∧jiT (addS S G M top):=
 ⟨jps hc h.given (jgF h.given h.nodes hl) h.path,jmF hc hf h.given h.path⟩
end
end
section
open Go Go.RowKit
attribute [local go_sem] Oper.semAt_some
structure jdQ(l:List Pair)(w:World)(s bm:Nat)(S:List Nd5)(w':World):Prop where
 ext:Ext w w'
 st:jas w' s bm 2000 S
 add:∃ W,AddK W (jcg l) [] l (jcg l) S
 few:fewB l=true
 inj:InjL (jcg l)
 ok:jaS l=0
 bnew:w.heap.size≤bm
 snew:w.heap.size≤s
 ne:s≠bm
 new:∀ x∈S,w.heap.size≤x.2.1
def jrx(l:List Pair)(w:World)(e:Ending)(w':World):Prop:=∃ s bm S,e=.returned (.tuple #[.pointer (some ⟨s,0,none⟩),.string (shaB (jaT l).text)])∧jdQ l w s bm S w'
def jvN(l:List Pair)(w:World)(e:Ending)(w':World):Prop:=jtr l w e w'∨jrx l w e w'
theorem jdQ.key{l:List Pair}{w w':World}{s bm:Nat}{S:List Nd5}(h:jdQ l w s bm S w')(k:Key):k∈S.map (·.1)↔∃ t∈jcg l,k=ky t:=by
 obtain⟨W,hA⟩:=h.add
 rw[hA.key];simp
theorem jdQ.kp{l:List Pair}{w w':World}{s bm:Nat}{S:List Nd5}(h:jdQ l w s bm S w'):Kp (jcg l) S:=by
 obtain⟨W,hA⟩:=h.add
 exact hA.kp
theorem jdQ.has{l:List Pair}{w w':World}{s bm:Nat}{S:List Nd5}(h:jdQ l w s bm S w'):HasM S l:=
 h.kp.has w h.inj h.ok (fun _ h=>h) ((h.key _).2 ⟨_,List.mem_of_getElem? (jlb h.ok).head,rfl⟩)
theorem jdQ.held{l:List Pair}{w w':World}{s bm:Nat}{S:List Nd5}(h:jdQ l w s bm S w')(k:Key):jku (atL S k)=if k=ky (jaT l).text then 1 else 0:=by
 obtain⟨W,hA⟩:=h.add
 rw[hA.held];show (0:Int)+_=_;omega
theorem jdQ.len{l:List Pair}{w w':World}{s bm:Nat}{S:List Nd5}(h:jdQ l w s bm S w'):S.length≤121:=by
 obtain⟨W,hA⟩:=h.add
 have h1:=hA.len;have h2:=jdG h.ok;simp at h1;omega
theorem jdQ.hb{l:List Pair}{w w':World}{s bm:Nat}{S:List Nd5}(h:jdQ l w s bm S w'):∀ x∈S,x.2.2.held≤1:=by
 obtain⟨W,hA⟩:=h.add
 exact hA.bd 0 (by omega) (fun x hx=>by cases hx)
theorem jmP(w:World)(hc:jch w)(he:ErrT w)(v:Value)(l:List Pair)(hv:RdP w v l)(hn:l.length≤9223372036854775807)(hs:joK l) :
  Calls Tryz.prog 16 #[v] w (jvN l w):=by
 have HC:=Hd hc;have HEE:=Hd he;have HV:=Hd hv;have HS:=Hd hs;have HN:=Hd hn
 obtain⟨a,c,hsl⟩:=hv.sl
 subst hsl;clear hc hv hs hn he;go_enter Tryz.func16,Tryz.ntmps16;go_wp2_with fail
 refine (jws w _ l HV.o HN.o HS.o).mono ?_;rintro e w2 ⟨rfl,hE⟩;have HE2:=Hd hE;clear hE
 obtain⟨fw,hfw⟩:∃ fw,fw=fewB l:=⟨_,rfl⟩
 have HFW:=Hd hfw;rw[←hfw];clear hfw
 by_cases hcl:jaS l=0
 case neg =>
  go_wp2_with fail
  refine (jqD w2 _ l (HV.o.ext HE2.o) HN.o HS.o hcl).mono ?_;rintro e w3 ⟨rfl,hE⟩;have HE3:=Hd (HE2.o.trans hE);have HNO:=Hd hcl
  obtain⟨x,hx⟩:∃ x,x=jaS l:=⟨_,rfl⟩
  rw[←hx]at hcl ⊢;have hne:(x == 0)=false:=by simpa using hcl
  have hne2:(x != 0)=true:=by simpa using hcl
  clear hcl hx hE HE2;go_wp2_with fail
  refine (jtL w3 2000).mono ?_;rintro e w4 ⟨s,bm,rfl,hE,_,_,_,_⟩;have HE4:=Hd (HE3.o.trans hE);clear hE HE3;go_wp2_with fail
  refine (jo4 w4 (HC.o.ext HE4.o) _ [] (.inl ⟨none,0,rfl,rfl⟩) (by simp)).mono ?_;rintro e w5 ⟨b,rfl,_,hE⟩;have HE5:=Hd (HE4.o.trans hE);clear hE HE4;cases fw with
  | false =>
   go_wp2_with fail
   go_ret2;exact .inl ⟨rfl,HE5.o,fun h=>HNO.o h.2.1⟩
  | true =>
   go_wp2_with fail
   go_ret2;exact .inl ⟨rfl,HE5.o,fun h=>HNO.o h.2.1⟩
 have HCL:=Hd hcl;clear hcl;go_wp2_with fail
 refine (jsK w2 _ l (HC.o.ext HE2.o) (HV.o.ext HE2.o) HCL.o).mono ?_;rintro e w3 ⟨u3,n3,rfl,hR⟩;have hR:SRow w2 w3 u3 n3 (jcg l):=hR
 obtain⟨L,hL⟩:∃ L,L=jcg l:=⟨_,rfl⟩
 have hlen:=jdG HCL.o;have HTL:=Hd hL;rw[←hL]at hR hlen;have hln:L.length=n3:=by have:=hR.len;simpa using this
 have hrd:=hR.rd
 obtain⟨a3,c3,e3⟩:=hR.sl
 have HE3:=Hd (HE2.o.trans hR.ext);subst e3;have HL3:=Hd hrd;subst hln;clear hR hrd HE2 hL;go_wp2_with fail
 refine (jtL w3 2000).mono ?_;rintro e w4 ⟨s,bm,rfl,hE,hS,hb1,hb2,hb3⟩;have HE4:=Hd (HE3.o.trans hE);have HZ:=Hd (And.intro HE3.o.size hb1);have HZS:=Hd (And.intro hb2 hb3);have HS4:=Hd (show jas w4 s bm 2000 []from hS);have HL4:=Hd (HL3.o.ext hE);clear hE hS HE3 HL3 hb1 hb2 hb3;go_wp2_with fail
 refine (jo4 w4 (HC.o.ext HE4.o) _ L HL4.o (by omega)).mono ?_;rintro e w5 ⟨b,rfl,hb,hE⟩;have HE5:=Hd (HE4.o.trans hE);have HS5:=Hd (HS4.o.ext hE);have HL5:=Hd (HL4.o.ext hE);have HB:=Hd hb;clear hE HE4 HS4 HL4 hb;cases fw with
 | false =>
  go_wp2_with fail
  go_ret2;exact .inl ⟨rfl,HE5.o,fun h=>by have:=HFW.o;rw[h.1]at this;cases this⟩
 | true =>
  cases b with
  | false =>
   go_wp2_with fail
   go_ret2;refine .inl ⟨rfl,HE5.o,fun h=>?_⟩
   have:=HB.o.2 (by rw[HTL.o];exact h.2.2)
   cases this
  | true =>
   have HI:=Hd (show InjL (jcg l) by rw[←HTL.o];exact HB.o.1 rfl);have HSH:=Hd (show jv1 L by rw[HTL.o];exact jow w HCL.o (by have:=jdG HCL.o;exact Nat.le_trans this (by decide)));have HTP:=Hd (show L[0]?=some (jaT l).text by rw[HTL.o];exact (jlb HCL.o).head)
   obtain⟨tp,htp⟩:∃ tp,tp=(jaT l).text:=⟨_,rfl⟩
   rw[←htp]at HTP;have HTX:=Hd htp;clear htp;go_wp2_with fail
   have HAN:=Hd (jie HSH.o.node);refine (joP w5 (HC.o.ext HE5.o) (HEE.o.ext HE5.o) s bm 2000 [] HS5.o _ L HL5.o False HAN.o (by have:=jdG HCL.o;rw[HTL.o];omega) tp HTP.o (by decide) (by decide) (by simp) (fun x hx=>by cases hx) (fun x hx=>by cases hx)).mono ?_;rintro e w6 hP;rw[HTL.o]at hP;have hpart:=jsU [] HCL.o;rcases hP with⟨k,hwhy,_,_,_⟩ |⟨top,G,M,htop,hY⟩
   ·have h1:=(hpart.why w hwhy).2
    have h2:=jdG HCL.o;simp at h1;omega
   have htp2:top=(jaT l).text:=by have:=hpart.head;rw[htop]at this;exact Option.some.inj this
   subst htp2;have hK:=hpart.add w5 HI.o (Kp.none _) (fun _ h=>h) (by have:=jdG HCL.o;omega) hY;have hre:=hY.res;subst hre;have HF:=Hd (And.intro hY.st hK);have hk6:=hY.kp;have HE6:=Hd (HE5.o.trans' hk6 (fun z hz e=>by
    rcases e with e | e
    ·have:=HZ.o;omega
    ·simp at e))
   have HSW:=Hd (And.intro HE5.o.size hk6.size);clear hY hK hk6 htop hpart;go_wp2_with fail
   go_ret2;exact .inr ⟨s,bm,_,rfl,⟨HE6.o,HF.o.1,⟨w5,HF.o.2⟩,HFW.o.symm,HI.o,HCL.o,by have:=HZ.o;omega,by have:=HZ.o;have:=HZS.o;omega,HZS.o.2,fun x hx=>by
    rcases HF.o.2.blk x hx with h | h
    ·simp at h
    ·have:=HSW.o;omega⟩⟩
def preB(p s:ByteArray):Bool:=p.data.toList.isPrefixOf s.data.toList
theorem jnn:∀ (p s:List UInt8),p.isPrefixOf s=(decide (p.length≤s.length) && (s.take p.length == p))
 | [],s=>by simp
 | x :: p,[]=>by simp
 | x :: p,y :: s=>by
  have ih:=jnn p s;simp only[List.isPrefixOf,List.length_cons,List.take_succ_cons,ih,Nat.add_le_add_iff_right]
  by_cases h:x=y
  ·subst h;simp
  ·have:(y == x)=false:=by simpa using fun e=>h e.symm
   simp[h,this]
theorem jtl(s:ByteArray)(n:Nat):(s.extract 0 n).toList=s.data.toList.take n:=by
 rw[ByteArray.toList_eq,ByteArray.data_extract,Array.toList_extract,List.extract_eq_take_drop];simp
theorem jjt(w:World)(s p:ByteArray)(hs:s.size≤1000000)(hp:p.size≤1000000):Calls Tryz.prog 148 #[.string s,.string p] w fun e w'=>e=.returned (.bool (preB p s))∧w'=w:=by
 have ht:=jnn p.data.toList s.data.toList;have e1:p.data.toList.length=p.size:=rfl;have e2:s.data.toList.length=s.size:=rfl;rw[e1,e2, ←jtl]at ht;have ht:preB p s=_:=ht
 by_cases hl:p.size≤s.size
 ·have b1:(p.size:Int)≤(s.size:Int):=by omega
  have b2:¬(s.size:Int) < (p.size:Int):=by omega
  have b3:((p.size:Int)).toNat=p.size:=by omega
  rw[decide_eq_true hl,Bool.true_and, ←ByteArray.toList_eq]at ht;rw[ht];clear ht e1 e2;go_enter Tryz.func148,Tryz.ntmps148;go_wp2_with fail
  go_ret
  exact⟨rfl,rfl⟩
 ·have b1:(s.size:Int) < (p.size:Int):=by omega
  rw[decide_eq_false hl,Bool.false_and]at ht;rw[ht];clear ht e1 e2;go_enter Tryz.func148,Tryz.ntmps148;go_wp2_with fail
  go_ret
  exact⟨rfl,rfl⟩
theorem jlG(w:World)(s p:ByteArray)(hs:s.size≤1000000)(hp:p.size≤1000000):Calls Tryz.prog 109 #[.string s,.string p] w fun e w'=>e=.returned (.bool (preB p s))∧w'=w:=by
 go_enter Tryz.func109,Tryz.ntmps109;go_wp2_with fail
 refine (jjt w s p hs hp).mono ?_;rintro e w1 ⟨rfl,rfl⟩;go_wp2_with fail
 go_ret
 exact⟨rfl,rfl⟩
theorem jfy{W:World}{B:Nat}{T:TypeId}{sz:Nat}{v:Value}{n:Nat}{xs:List Value}(h:W.ownsRow B T sz v n xs){b:Nat}(hb:v.ownBlock=some b):b < W.heap.size:=by
 obtain⟨h1,h2 |⟨g,cap,cur,h2,h3,h4,h5⟩⟩:=h
 ·rw[h2.1]at hb;cases hb
 ·rw[h2]at hb
  have e:some g=some b:=hb;obtain rfl:=Option.some.inj e;exact (Array.getElem?_eq_some_iff.1 h4).1
structure Pl5 where
 path:ByteArray
 value:ByteArray
 ref:ByteArray
def jcV(p:ByteArray):Bool:=p.size % 2 == 0 && jaL p
def jcc(fr p v:ByteArray):List Pl5:=if v.size=0∨jbs p fr=true then []else if jcV p=true then [⟨p,v,⟨#[]⟩⟩]else []
def jb7(fr p r:ByteArray):List Pl5:=if r.size=0∨(jbs p fr=true∧preB p fr=false)then []else [⟨p,⟨#[]⟩,r⟩]
def nib1(i:Nat):ByteArray:=⟨#[UInt8.ofNat i]⟩
def keyV(p:ByteArray):Value:=.tuple #[.string (if jcV p=true then jbq p else ⟨#[]⟩),.bool (jcV p)]
theorem jlL(w:World)(p:ByteArray)(hs:p.size≤1000000):Calls Tryz.prog 140 #[.string p] w fun e w'=>e=.returned (keyV p)∧Ext w w':=by
 by_cases h2:p.size % 2=0
 ·have e1:(p.size:Int) % 2=0:=by omega
  cases hv:jaL p with
  | true =>
   have ek:jcV p=true:=by unfold jcV;rw[hv,h2];rfl
   have ev:keyV p=.tuple #[.string (jbq p),.bool true]:=by unfold keyV;rw[ek];rfl
   rw[ev];clear ek ev;go_enter Tryz.func140,Tryz.ntmps140;go_wp2_with fail
   refine (jjF w p (by omega)).mono ?_;rintro e w1 ⟨rfl,rfl⟩;rw[hv];go_wp2_with fail
   refine (jlT w1 p hs).mono ?_;rintro e w2 ⟨rfl,hE⟩;go_wp2_with fail
   go_ret2
   exact⟨rfl,hE⟩
  | false =>
   have ek:jcV p=false:=by unfold jcV;rw[hv,h2];rfl
   have ev:keyV p=.tuple #[.string ⟨#[]⟩,.bool false]:=by unfold keyV;rw[ek];rfl
   rw[ev];clear ek ev;go_enter Tryz.func140,Tryz.ntmps140;go_wp2_with fail
   refine (jjF w p (by omega)).mono ?_;rintro e w1 ⟨rfl,rfl⟩;rw[hv];go_wp2_with fail
   go_ret2
   exact⟨rfl,ExtR w1⟩
 ·have e1:¬(p.size:Int) % 2=0:=by omega
  have ek:jcV p=false:=by unfold jcV;rw[show (p.size % 2 == 0)=false by simpa using h2];rfl
  have ev:keyV p=.tuple #[.string ⟨#[]⟩,.bool false]:=by unfold keyV;rw[ek];rfl
  have e2:((p.size:Int) % 2 != 0)=true:=by simpa using e1
  rw[ev];clear ek ev;go_enter Tryz.func140,Tryz.ntmps140;go_wp2_with fail
  go_ret2
  exact⟨rfl,ExtR w⟩
def plV(p:Pl5):List Value:=[.string p.path,.string p.value,.string p.ref]
def jcA(ps:List Pl5):List Value:=ps.flatMap plV
theorem jik(ps:List Pl5):(jcA ps).length=ps.length * 3:=by
 induction ps with
 | nil=>rfl
 | cons p r ih=>show (plV p++jcA r).length=_;rw[List.length_append,ih,List.length_cons];show 3+_=_;omega
theorem jfa(p:Pl5):jcA [p]=plV p:=by simp[jcA]
theorem jcU(xs ys:List Pl5):jcA (xs++ys)=jcA xs++jcA ys:=by simp[jcA]
theorem Tryz.uPls:Tryz.prog.underlying 147=some (.slice 206):=by kernel_rfl
theorem Tryz.infoPl:(Tryz.prog.info? 206).map (fun i=>(i.zero,i.size,i.bytes))=some (some (.agg #[.string ⟨#[]⟩,.string ⟨#[]⟩,.string ⟨#[]⟩]),3,48):=by kernel_rfl
theorem Tryz.sPls:jeH Tryz.prog 147 206 3 48:=jeH.mk' Tryz.uPls Tryz.infoPl rfl (by decide)
structure jbp(W:World)(c s:Nat)(fr:ByteArray)(v:Value)(ps:List Pl5)(lk:Int):Prop where
 cur:Blk W c (.cells #[.pointer (some ⟨s,0,none⟩),.string fr,v,.int .i64 lk] 151)
 row:W.ownsRow 0 206 3 v ps.length (jcA ps)
 ne:v.ownBlock≠some c
structure jbe(c s:Nat)(fr:ByteArray)(W:World)(v:Value)(W':World)(v':Value)(ps:List Pl5)(lk:Int):Prop where
 at':jbp W' c s fr v' ps lk
 kp:jac (fun b=>b=c∨v.ownBlock=some b) W W'
 new:v'.ownBlock=v.ownBlock∨∀ b,v'.ownBlock=some b→W.heap.size≤b
theorem jbe.refl{W:World}{c s:Nat}{fr:ByteArray}{v:Value}{ps:List Pl5}{lk:Int}(h:jbp W c s fr v ps lk):jbe c s fr W v W v ps lk:=⟨h,jac.refl _ W,.inl rfl⟩
theorem jbe.trans{c s:Nat}{fr:ByteArray}{W W' W'':World}{v v' v'':Value}{ps ps':List Pl5}{lk lk':Int}(h:jbe c s fr W v W' v' ps lk)(k:jbe c s fr W' v' W'' v'' ps' lk'):jbe c s fr W v W'' v'' ps' lk':=by
 refine⟨k.at',h.kp.trans' k.kp (fun x hx e=>?_),?_⟩
 ·rcases e with e | e
  ·exact .inl e
  ·rcases h.new with h1 | h1
   ·exact .inr (h1 ▸ e)
   ·have:=h1 x e;omega
 ·rcases k.new with h2 | h2
  ·rcases h.new with h1 | h1
   ·exact .inl (h2.trans h1)
   ·exact .inr fun b hb=>h1 b (h2 ▸ hb)
  ·exact .inr fun b hb=>Nat.le_trans h.kp.size (h2 b hb)
theorem jbp.ext{W W':World}{c s:Nat}{fr:ByteArray}{v:Value}{ps:List Pl5}{lk:Int}(h:jbp W c s fr v ps lk)(e:Ext W W'):jbp W' c s fr v ps lk:=⟨h.cur.keeps e (fun h=>h),jbd h.row e,h.ne⟩
theorem jbe.ext{c s:Nat}{fr:ByteArray}{W W' W'':World}{v v':Value}{ps:List Pl5}{lk:Int}(h:jbe c s fr W v W' v' ps lk)(e:Ext W' W''):jbe c s fr W v W'' v' ps lk:=⟨h.at'.ext e,h.kp.trans (e.mono (fun _ _ g=>g.elim)),h.new⟩
theorem jbe.ahead{c s:Nat}{fr:ByteArray}{W0 W W':World}{v v':Value}{ps:List Pl5}{lk:Int}(e:Ext W0 W)(h:jbe c s fr W v W' v' ps lk):jbe c s fr W0 v W' v' ps lk:=⟨h.at',(e.mono (fun _ _ g=>g.elim)).trans h.kp,h.new.imp id (fun h1 b hb=>Nat.le_trans e.size (h1 b hb))⟩
def jdx(c s:Nat)(fr:ByteArray)(W:World)(v:Value)(ps:List Pl5)(lk:Int)(e:Ending)(W':World):Prop:=e=.returned (.tuple #[])∧∃ v',jbe c s fr W v W' v' ps lk
def bare(W:World):World:={ W with heap:=#[] }
theorem jrK(W:World):Ext (bare W) W:=⟨rfl,rfl,rfl,Nat.zero_le _,fun b hb=>absurd hb (Nat.not_lt_zero b)⟩
theorem ORow.any{T:TypeId}{sz:Nat}{W:World}{v:Value}{n:Nat}{xs:List Value}(h:W.ownsRow 0 T sz v n xs):ORow T sz (bare W) W v n xs:=⟨jay h,h,jrK W,fun _ _=>Nat.zero_le _⟩
theorem jlV(p:Pl5):∀ u∈plV p,u.oneCell'=true:=by
 intro u hu;simp only[plV,List.mem_cons,List.not_mem_nil,or_false]at hu;rcases hu with rfl | rfl | rfl <;> rfl
theorem jbp.set{W W':World}{c s:Nat}{fr:ByteArray}{v:Value}{ps:List Pl5}{lk:Int}(h:jbp W c s fr v ps lk)(e:Ext W W'){v':Value}{w':World}{n:Nat}{qs:List Pl5}(hq:n=qs.length)(r1:w'.ownsRow 0 206 3 v' n (jcA qs))(r2:jac (fun b=>v.ownBlock=some b) W' w')(r3:v'.ownBlock=v.ownBlock∨∀ b,v'.ownBlock=some b→W'.heap.size≤b) :
  jbe c s fr W v (w'.setCell ⟨c,2,none⟩ v') v' qs lk:=by
 have hb:Blk w' c (.cells #[.pointer (some ⟨s,0,none⟩),.string fr,v,.int .i64 lk] 151):=(h.cur.keeps e (fun h=>h)).keeps r2 (fun hh=>h.ne hh);have hne:v'.ownBlock≠some c:=fun hh=>by
  rcases r3 with r3 | r3
  ·exact h.ne (r3 ▸ hh)
  ·have h1:=r3 c hh
   have h2:=(h.cur.keeps e (fun h=>h)).lt;omega
 refine⟨⟨hb.set_same v',?_,hne⟩,?_,?_⟩
 ·rw[←hq]
  exact jaG r1 (jac.oneSet w' ⟨c,2,none⟩ v') (fun b hb e=>hne (by have e:b=c:=e;rw[←e];exact hb))
 ·refine ((e.mono (fun _ _ g=>g.elim)).trans' r2 (fun x hx g=>.inr g)).trans' (jac.oneSet w' ⟨c,2,none⟩ v') (fun x hx g=>.inl g)
 ·exact r3.imp id (fun r3 b hb=>Nat.le_trans e.size (r3 b hb))
theorem jpJ(W:World)(c s:Nat)(fr:ByteArray)(v:Value)(ps:List Pl5)(lk:Int)(h:jbp W c s fr v ps lk)(hps:ps.length≤1000000)(p x:ByteArray)(hp:p.size≤1000000) :
  Calls Tryz.prog 137 #[.pointer (some ⟨c,0,none⟩),.string p,.string x] W (jdx c s fr W v (ps++jcc fr p x) lk):=by
 have q1:=h.cur.cell (i:=1) (v:=.string fr) (by rfl);have q2:=h.cur.cell (i:=2) (v:=v) (by rfl);have HE:=Hd (show jbe c s fr W v W v ps lk from jbe.refl h);cases hx:x.toList.isEmpty with
 | true =>
  have h0:x.size=0:=by
   rw[List.isEmpty_iff]at hx
   have:x.toList.length=x.size:=by rw[ByteArray.toList_eq];rfl
   rw[←this,hx];rfl
  have e0:jcc fr p x=[]:=by unfold jcc;rw[if_pos (.inl h0)]
  rw[e0,List.append_nil];clear e0 h h0;go_enter Tryz.func137,Tryz.ntmps137;go_wp2_with fail
  refine bodyPost_ret (results_none rfl _ _ _) rfl ?_
  exact⟨rfl,v,HE.o⟩
 | false =>
  have hx0:¬ x.size=0:=fun e=>by
   have:x.toList.length=x.size:=by rw[ByteArray.toList_eq];rfl
   rw[e]at this;rw[List.eq_nil_of_length_eq_zero this]at hx;cases hx
  cases hl:Op.bytesLess p.toList fr.toList with
  | true =>
   have e0:jcc fr p x=[]:=by unfold jcc;rw[if_pos (.inr hl)]
   rw[e0,List.append_nil];clear e0 h;go_enter Tryz.func137,Tryz.ntmps137;go_wp2_with fail
   refine bodyPost_ret (results_none rfl _ _ _) rfl ?_
   exact⟨rfl,v,HE.o⟩
  | false =>
   have e0:jcc fr p x=if jcV p=true then [⟨p,x,⟨#[]⟩⟩]else []:=by unfold jcc;rw[if_neg (fun e=>e.elim hx0 (fun e=>by have e:Op.bytesLess p.toList fr.toList=true:=e;rw[hl]at e;cases e))]
   have H:=Hd h;rw[e0];have HK:=jlL W p hp;unfold keyV at HK;have HKC:=Hd HK;clear e0 h hx0 HK;cases hk:jcV p with
   | false =>
    rw[if_neg (by simp),List.append_nil];rw[hk]at HKC;clear hk;go_enter Tryz.func137,Tryz.ntmps137;go_wp2_with fail
    refine HKC.o.mono ?_;rintro e w1 ⟨rfl,hE⟩;have HE1:=Hd (HE.o.ext hE);clear hE;go_wp2_with fail
    refine bodyPost_end (results_none rfl _ _ _) rfl ?_
    exact⟨rfl,v,HE1.o⟩
   | true =>
    rw[if_pos rfl];rw[hk]at HKC
    obtain⟨ad,cp,hv⟩:=jay H.o.row
    obtain⟨qs,hqs⟩:∃ qs,qs=ps++[(⟨p,x,⟨#[]⟩⟩:Pl5)]:=⟨_,rfl⟩
    have HQ:=Hd hqs;rw[←hqs];subst hv;have hm1:ps.length+1≤maxLen:=by unfold maxLen;omega
    have hm2:(ps.length+1) * 48≤140737488355328:=by omega
    clear hk hqs;go_enter Tryz.func137,Tryz.ntmps137;go_wp2_with fail
    refine HKC.o.mono ?_;rintro e w1 ⟨rfl,hE⟩;simp only[if_true];have q2:=jaa q2 hE;have HX:=Hd hE;clear hE;go_wp2_with (at_builtin;(refine jbv Tryz.sPls (ORow.any (jbd H.o.row (HX.o.alloc _))) (.tmp 28) (.tmp 32) rfl rfl rfl (ja9 (Blk.new w1 _)) (news:=plV ⟨p,x,⟨#[]⟩⟩) (jlV _) rfl rfl hm1 hm2 ?_;intro v' w' r1 r2 r3;have q3:=jat (jaa q2 ((ExtR w1).alloc _)) r2 (fun hh=>H.o.ne hh);have qf:w'.frozen? ⟨c,2,none⟩=false:=((H.o.cur.keeps (HX.o.alloc _) (fun h=>h)).keeps r2 (fun hh=>H.o.ne hh)).frozen;have HR:=Hd (And.intro r1 (And.intro r2 r3));obtain⟨ad',cp',hv'⟩:=r1.sl;subst hv';clear r1 r2 r3))
    refine bodyPost_end (results_none rfl _ _ _) rfl ?_
    refine⟨rfl,.slice ad' (ps.length+1) cp',?_⟩
    have hr:=HR.o.1.own;rw[←jfa, ←jcU, ←HQ.o]at hr;exact H.o.set (HX.o.alloc _) (by rw[HQ.o,List.length_append];rfl) hr HR.o.2.1 HR.o.2.2
theorem jjR(W:World)(c s:Nat)(fr:ByteArray)(v:Value)(ps:List Pl5)(lk:Int)(h:jbp W c s fr v ps lk)(hps:ps.length≤1000000)(p x:ByteArray)(hp:p.size≤1000000)(hf:fr.size≤1000000) :
  Calls Tryz.prog 138 #[.pointer (some ⟨c,0,none⟩),.string p,.string x] W (jdx c s fr W v (ps++jb7 fr p x) lk):=by
 have q1:=h.cur.cell (i:=1) (v:=.string fr) (by rfl);have q2:=h.cur.cell (i:=2) (v:=v) (by rfl);have HE:=Hd (show jbe c s fr W v W v ps lk from jbe.refl h);have HPC:=Hd (jlG W fr p hf hp);cases hx:x.toList.isEmpty with
 | true =>
  have h0:x.size=0:=by
   rw[List.isEmpty_iff]at hx
   have:x.toList.length=x.size:=by rw[ByteArray.toList_eq];rfl
   rw[←this,hx];rfl
  have e0:jb7 fr p x=[]:=by unfold jb7;rw[if_pos (.inl h0)]
  rw[e0,List.append_nil];clear e0 h h0;go_enter Tryz.func138,Tryz.ntmps138;go_wp2_with fail
  refine bodyPost_ret (results_none rfl _ _ _) rfl ?_
  exact⟨rfl,v,HE.o⟩
 | false =>
  have hx0:¬ x.size=0:=fun e=>by
   have:x.toList.length=x.size:=by rw[ByteArray.toList_eq];rfl
   rw[e]at this;rw[List.eq_nil_of_length_eq_zero this]at hx;cases hx
  have fin:∀ b:Bool,preB p fr=b→(b=false→Op.bytesLess p.toList fr.toList=false)→Calls Tryz.prog 138 #[.pointer (some ⟨c,0,none⟩),.string p,.string x] W (jdx c s fr W v (ps++[(⟨p,⟨#[]⟩,x⟩:Pl5)]) lk):=by
   intro b hb hbl;have H:=Hd h;rw[hb]at HPC
   obtain⟨ad,cp,hv⟩:=jay H.o.row
   obtain⟨qs,hqs⟩:∃ qs,qs=ps++[(⟨p,⟨#[]⟩,x⟩:Pl5)]:=⟨_,rfl⟩
   have HQ:=Hd hqs;rw[←hqs];subst hv;have hm1:ps.length+1≤maxLen:=by unfold maxLen;omega
   have hm2:(ps.length+1) * 48≤140737488355328:=by omega
   clear hqs h hx0 hb;cases hl:Op.bytesLess p.toList fr.toList with
   | true =>
    cases b with
    | false=>rw[hbl rfl]at hl;cases hl
    | true =>
     clear hbl;go_enter Tryz.func138,Tryz.ntmps138;go_wp2_with fail
     refine HPC.o.mono ?_;rintro e w1 ⟨rfl,hw⟩;subst hw;go_wp2_with (at_builtin;(refine jbv Tryz.sPls (ORow.any (jbd H.o.row ((ExtR _).alloc _))) (.tmp 29) (.tmp 33) rfl rfl rfl (ja9 (Blk.new _ _)) (news:=plV ⟨p,⟨#[]⟩,x⟩) (jlV _) rfl rfl hm1 hm2 ?_;intro v' w' r1 r2 r3;have q3:=jat (jaa q2 ((ExtR _).alloc _)) r2 (fun hh=>H.o.ne hh);have qf:w'.frozen? ⟨c,2,none⟩=false:=((H.o.cur.keeps ((ExtR _).alloc _) (fun h=>h)).keeps r2 (fun hh=>H.o.ne hh)).frozen;have HR:=Hd (And.intro r1 (And.intro r2 r3));obtain⟨ad',cp',hv'⟩:=r1.sl;subst hv';clear r1 r2 r3))
     refine bodyPost_end (results_none rfl _ _ _) rfl ?_
     refine⟨rfl,.slice ad' (ps.length+1) cp',?_⟩
     have hr:=HR.o.1.own;rw[←jfa, ←jcU, ←HQ.o]at hr;exact H.o.set ((ExtR _).alloc _) (by rw[HQ.o,List.length_append];rfl) hr HR.o.2.1 HR.o.2.2
   | false =>
    clear hbl;go_enter Tryz.func138,Tryz.ntmps138;go_wp2_with (at_builtin;(refine jbv Tryz.sPls (ORow.any (jbd H.o.row ((ExtR W).alloc _))) (.tmp 29) (.tmp 33) rfl rfl rfl (ja9 (Blk.new W _)) (news:=plV ⟨p,⟨#[]⟩,x⟩) (jlV _) rfl rfl hm1 hm2 ?_;intro v' w' r1 r2 r3;have q3:=jat (jaa q2 ((ExtR W).alloc _)) r2 (fun hh=>H.o.ne hh);have qf:w'.frozen? ⟨c,2,none⟩=false:=((H.o.cur.keeps ((ExtR W).alloc _) (fun h=>h)).keeps r2 (fun hh=>H.o.ne hh)).frozen;have HR:=Hd (And.intro r1 (And.intro r2 r3));obtain⟨ad',cp',hv'⟩:=r1.sl;subst hv';clear r1 r2 r3))
    refine bodyPost_end (results_none rfl _ _ _) rfl ?_
    refine⟨rfl,.slice ad' (ps.length+1) cp',?_⟩
    have hr:=HR.o.1.own;rw[←jfa, ←jcU, ←HQ.o]at hr;exact H.o.set ((ExtR W).alloc _) (by rw[HQ.o,List.length_append];rfl) hr HR.o.2.1 HR.o.2.2
  by_cases hc:jbs p fr=true∧preB p fr=false
  ·have e0:jb7 fr p x=[]:=by unfold jb7;rw[if_pos (.inr hc)]
   obtain⟨hl,hb⟩:=hc
   have hl:Op.bytesLess p.toList fr.toList=true:=hl;rw[e0,List.append_nil];rw[hb]at HPC;clear e0 h hx0 fin hb;go_enter Tryz.func138,Tryz.ntmps138;go_wp2_with fail
   refine HPC.o.mono ?_;rintro e w1 ⟨rfl,hw⟩;subst hw;go_wp2_with fail
   refine bodyPost_ret (results_none rfl _ _ _) rfl ?_
   exact⟨rfl,v,HE.o⟩
  ·have e0:jb7 fr p x=[⟨p,⟨#[]⟩,x⟩]:=by unfold jb7;rw[if_neg (fun e=>e.elim hx0 hc)]
   rw[e0];refine fin _ rfl fun hb=>?_;rw[Bool.eq_false_iff];exact fun hl=>hc ⟨hl,hb⟩
end
section
open Go Go.RowKit
theorem jl0{f:Nat}{l:List Pair}(h:jaQ f l)(hn:l≠[]):(refB (jad (f+1) l).text).size≠0:=((good f l h).2.1 hn).may.1.pos
theorem jfh(g:Nat→ByteArray){i n:Nat}(h:i < n):((List.range n).map g).getD i ⟨#[]⟩=g i:=by
 rw[List.getD_eq_getElem?_getD,List.getElem?_map,List.getElem?_range h];rfl
theorem jg5{f:Nat}{l m:List Pair}(hm:m≠[])(ho:jaQ f m)(hk:jbZ (jad (f+1) m) ⊆ jaw (jad (f+1)) l):∀ x∈jaI (jad (f+1) m),32≤x.size→x∈jaI (jad (f+1+1) l):=fun x hx h32=>by
 have eT:jaI (jad (f+1+1) l)=ja5 (jau (jad (f+1)) l) :: jaK (jaw (jad (f+1)) l):=by
  show jaI (.mk (ja5 (jau (jad (f+1)) l)) (jaw (jad (f+1)) l))=_;rw[jaI]
 rw[eT];have hst:=(good f m ho).2.1 hm
 by_cases hs:(jad (f+1) m).text.size < 32
 ·rw[jn0 hst hs,List.mem_singleton]at hx
  subst hx;omega
 ·refine List.mem_cons_of_mem _ (jca.2 ⟨jad (f+1) m,hk ?_,hx⟩)
  unfold jbZ;rw[if_neg hs];exact List.mem_singleton.2 rfl
def jnV(fr:ByteArray)(n:jaf)(p:ByteArray)(k:Nat):List Pl5:=(List.range k).reverse.flatMap fun i=>jb7 fr (p++nib1 i) (n.refs.getD i ⟨#[]⟩)
def layP(fr:ByteArray)(n:jaf)(p:ByteArray):List Pl5:=
 if n.kind=1 then jcc fr (p++n.path) n.value
 else if n.kind=2 then jb7 fr (p++n.path) (n.refs.getD 0 ⟨#[]⟩)
 else if n.kind=3 then jnV fr n p 16++jcc fr p n.value
 else []
def sumF(g:Nat→Nat):Nat→Nat
 | 0=>0
 | n+1=>sumF g n+g n
def cntT:Nat→List Pair→Nat
 | 0,_=>1
 | f+1,l=>1+(if l.length≤1 then 0 else if 0 < comK l then cntT f (jam (comK l) l)else sumF (fun i=>if (cutL i l).length=0 then 0 else cntT f (jam 1 (cutL i l))) 16)
theorem jnk(g:Nat→Nat)(l:List Pair)(h0:∀ i,(cutL i l).length=0→g i=0)(hg:∀ i,(cutL i l).length≠0→g i+2≤3 * (cutL i l).length):∀ n,sumF g n+2 * jdv l n≤3 * jdj l n
 | 0=>by simp[sumF,jdj,jdv]
 | n+1=>by
  have ih:=jnk g l h0 hg n;rw[sumF,jdj,jdv]
  by_cases hz:(cutL n l).length=0
  ·rw[if_pos hz,h0 n hz];omega
  ·have:=hg n hz
   rw[if_neg hz];omega
structure CntP(c:Nat)(l:List Pair):Prop where
 all:c+2≤3 * l.length
 two:2≤l.length→comK l=0→c+3≤3 * l.length
theorem jtA:∀ (f:Nat) (l:List Pair),jaQ f l→l≠[]→CntP (cntT f l) l:=by
 intro f;induction f with
 | zero =>
  intro l h hn;have h0:l.length≠0:=fun e=>hn (List.eq_nil_of_length_eq_zero e);have hl:=jcf h
  exact⟨by show 1+2≤_;omega,fun h2=>by omega⟩
 | succ f ih =>
  intro l h hn;have h0:l.length≠0:=fun e=>hn (List.eq_nil_of_length_eq_zero e)
  by_cases h1:l.length=1
  ·have e:cntT (f+1) l=1:=by unfold cntT;rw[if_pos (by omega)]
   exact⟨by omega,fun h2=>by omega⟩
  have h2:2≤l.length:=by omega
  have hcom:=jbY h h2
  by_cases hk:0 < comK l
  ·have hok:jaQ f (jam (comK l) l):=(jcF (comK l) h (fun p hp q hq=>(hcom p hp).1.trans (hcom q hq).1.symm) (fun p hp=>(hcom p hp).2)).mono (by omega)
   have hne:jam (comK l) l≠[]:=fun e=>by have:=jaE (comK l) l;rw[e]at this;simp at this;omega
   have hlen:=(ih _ hok hne).two (by rw[jaE];omega) (jfX (by omega));rw[jaE]at hlen;have e:cntT (f+1) l=1+cntT f (jam (comK l) l):=by rw[cntT,if_neg (by omega),if_pos hk]
   exact⟨by omega,fun _ hz=>by omega⟩
  ·have hkid:∀ i,(cutL i l).length≠0→jam 1 (cutL i l)≠[]:=fun i hi e=>by have:=jaE 1 (cutL i l);rw[e]at this;simp at this;omega
   obtain⟨a,ha⟩:∃ a,l[0]?=some a:=⟨_,List.getElem?_eq_getElem (by omega)⟩
   obtain⟨b,hb⟩:∃ b,l[l.length - 1]?=some b:=⟨_,List.getElem?_eq_getElem (by omega)⟩
   have ga:l.getD 0 pd=a:=by rw[List.getD_eq_getElem?_getD,ha];rfl
   have gb:l.getD (l.length - 1) pd=b:=by rw[List.getD_eq_getElem?_getD,hb];rfl
   have ham:=List.mem_of_getElem? ha;have hbm:=List.mem_of_getElem? hb;have hlt:=jct h.rise (by omega) ha hb
   obtain⟨g,hgd⟩:∃ g,g=fun i=>if (cutL i l).length=0 then 0 else cntT f (jam 1 (cutL i l)):=⟨_,rfl⟩
   have e:cntT (f+1) l=1+sumF g 16:=by rw[cntT,if_neg (by omega),if_neg hk,hgd]
   have hlen:sumF g 16+4≤3 * l.length:=by
    have hks:=jnk g l (fun i hi=>by rw[hgd];simp only[hi,if_true]) (fun i hi=>by
     have:=(ih _ (jei i h) (hkid i hi)).all
     rw[jaE]at this;rw[hgd];simp only[if_neg hi];exact this) 16
    have hkc:jbl a.l b.l=0:=by
     have:comK l=jbl a.l b.l:=by unfold comK jap;rw[ga,gb]
     omega
    cases hbl:b.l with
    | nil=>rw[hbl]at hlt;exact absurd hlt (not_lt_nil _)
    | cons y t =>
     have hy:=jeW (h.size b hbm).2.2.1 hbl;have cb:=jfI hbm hbl;cases hal:a.l with
     | nil =>
      have:=jj8 ⟨a,ham,hal⟩ 16
      have:=jhR cb hy
      omega
     | cons x r =>
      have hx:=jeW (h.size a ham).2.2.1 hal;have ca:=jfI ham hal;have hxy:x≠y:=by
       intro e;rw[hal,hbl,e]at hkc;simp[jbl]at hkc
      have hne:x.toNat≠y.toNat:=fun e=>hxy (UInt8.toNat_inj.1 e)
      have:=jeN l 16
      have:2≤jdv l 16:=by
       rcases Nat.lt_or_ge x.toNat y.toNat with e | e
       ·exact jgg ca cb e hy
       ·exact jgg cb ca (by omega) hx
      omega
   exact⟨by omega,fun _ _=>by omega⟩
theorem jq5{α:Type}{R:α→α→Prop}(hi:∀ x,¬ R x x)(ht:∀ x y,R x y→¬ R y x):∀ {a b:List α},a.Pairwise R→b.Pairwise R→(∀ x,x∈a↔x∈b)→a=b
 | [],[],_,_,_=>rfl
 | [],y :: b,_,_,h=>absurd ((h y).2 List.mem_cons_self) (by simp)
 | x :: a,[],_,_,h=>absurd ((h x).1 List.mem_cons_self) (by simp)
 | x :: a,y :: b,ha,hb,h=>by
  rw[List.pairwise_cons]at ha hb;have e:x=y:=by
   rcases List.mem_cons.1 ((h x).1 List.mem_cons_self)with e | h1
   ·exact e
   rcases List.mem_cons.1 ((h y).2 List.mem_cons_self)with e | h2
   ·exact e.symm
   exact absurd (ha.1 y h2) (ht _ _ (hb.1 x h1))
  subst e;rw[jq5 hi ht ha.2 hb.2 fun z=>?_];constructor
  ·intro hz
   rcases List.mem_cons.1 ((h z).1 (List.mem_cons_of_mem _ hz))with e | h1
   ·subst e;exact absurd (ha.1 z hz) (hi z)
   ·exact h1
  ·intro hz
   rcases List.mem_cons.1 ((h z).2 (List.mem_cons_of_mem _ hz))with e | h1
   ·subst e;exact absurd (hb.1 z hz) (hi z)
   ·exact h1
def jpI(l:List Pair):List Pair:=l.filter fun q=>q.1.size=0
theorem jrf(p:Pair):p.1.size=0↔p.l=[]:=by
 show p.1.data.toList.length=0↔_;exact List.length_eq_zero_iff
theorem jqn(x y:List UInt8)(h:Lt x y):¬ Lt y x:=fun k=>lt_irrefl _ (jdl _ _ _ h k)
theorem jiJ{f:Nat}{l:List Pair}(h:jaQ f l):l=jpI l++(List.range 16).flatMap fun i=>cutL i l:=by
 refine jq5 (R:=fun p q:Pair=>Lt p.l q.l) (fun x=>lt_irrefl _) (fun x y=>jqn _ _) h.rise ?_ fun p=>?_
 ·rw[List.pairwise_append]
  refine⟨h.rise.filter _,?_,fun p hp q hq=>?_⟩
  ·have:∀ n,((List.range n).flatMap fun i=>cutL i l).Pairwise fun p q:Pair=>Lt p.l q.l:=fun n=>by
    induction n with
    | zero=>simp
    | succ n ih =>
     rw[List.range_succ,List.flatMap_append,List.pairwise_append]
     refine⟨ih,?_,fun p hp q hq=>?_⟩
     ·simpa using (jpw n h).rise
     ·obtain⟨i,hi,hp⟩:=List.mem_flatMap.1 hp
      simp only[List.flatMap_cons,List.flatMap_nil,List.append_nil]at hq
      obtain⟨_,a,r,e1,e2⟩:=jbH hp
      obtain⟨_,b,t,e3,e4⟩:=jbH hq
      rw[e1,e3]
      have:=List.mem_range.1 hi
      exact jbg.2 (.inl (UInt8.lt_iff_toNat_lt.2 (by omega)))
   exact this 16
  ·obtain⟨_,hz⟩:=List.mem_filter.1 hp
   obtain⟨i,_,hq⟩:=List.mem_flatMap.1 hq
   obtain⟨_,b,t,e3,_⟩:=jbH hq
   rw[(jrf p).1 (by simpa using hz),e3];exact jiA
 ·rw[List.mem_append]
  constructor
  ·intro hp
   cases hl:p.l with
   | nil=>exact .inl (List.mem_filter.2 ⟨hp,by simpa using (jrf p).2 hl⟩)
   | cons x r =>
    have hx:=jeW (h.size p hp).2.2.1 hl;exact .inr (List.mem_flatMap.2 ⟨x.toNat,List.mem_range.2 hx,jpy hp hl⟩)
  ·rintro (hp | hp)
   ·exact (List.mem_filter.1 hp).1
   ·obtain⟨i,_,hp⟩:=List.mem_flatMap.1 hp
    exact (jbH hp).1
theorem jir{f:Nat}{l:List Pair}(h:jaQ f l)(hn:l≠[]):jpI l=if (l.getD 0 pd).1.size=0 then [l.getD 0 pd]else []:=by
 cases l with
 | nil=>exact absurd rfl hn
 | cons p r =>
  have hr:∀ q∈r,¬ q.1.size=0:=fun q hq h0=>by
   have:=(List.pairwise_cons.1 h.rise).1 q hq
   rw[(jrf q).1 h0]at this;exact not_lt_nil _ this
  have he:r.filter (fun q:Pair=>q.1.size=0)=[]:=by
   rw[List.filter_eq_nil_iff];intro q hq;simpa using hr q hq
  show (p :: r).filter _=if p.1.size=0 then [p]else []
  rw[List.filter_cons,he]
  by_cases h0:p.1.size=0
  ·rw[if_pos h0,if_pos (by simpa using h0)]
  ·rw[if_neg h0,if_neg (by simpa using h0)]
def absF(fr p:ByteArray)(l:List Pair):List Pair:=(l.map fun q=>(p++q.1,q.2)).filter fun q => !jbs q.1 fr
theorem jmb(fr p:ByteArray)(a b:List Pair):absF fr p (a++b)=absF fr p a++absF fr p b:=by unfold absF;rw[List.map_append,List.filter_append]
structure jli(Hs:ByteArray→Prop)(p:ByteArray)(f:Nat)(l:List Pair):Prop where
 rows:jaQ f l
 ne:l≠[]
 has:∀ x∈jaI (jad (f+1) l),32≤x.size→Hs x
 key:∀ q∈l,jcV (p++q.1)=true∧(p++q.1).size≤12
def Den(Hs:ByteArray→Prop)(fr:ByteArray)(t:Pl5)(R:List Pair)(N:Nat):Prop:=
 (t.value.size≠0∧jcV t.path=true∧t.path.size≤12∧jbs t.path fr=false∧R=[(t.path,t.value)]∧N=0) ∨
 (t.value=⟨#[]⟩∧∃ f l,jli Hs t.path f l∧t.ref=refB (jad (f+1) l).text∧R=absF fr t.path l∧N=cntT f l)
def jci(Hs:ByteArray→Prop)(fr:ByteArray):List Pl5→List Pair→Nat→Prop
 | [],R,N=>R=[]∧N=0
 | t :: ts,R,N=>∃ R1 R2 N1 N2,R=R1++R2∧N=N1+N2∧Den Hs fr t R1 N1∧jci Hs fr ts R2 N2
theorem jci.app{Hs:ByteArray→Prop}{fr:ByteArray}:∀ {a b:List Pl5} {R1 R2:List Pair} {N1 N2:Nat},jci Hs fr a R1 N1→jci Hs fr b R2 N2→jci Hs fr (a++b) (R1++R2) (N1+N2)
 | [],b,R1,R2,N1,N2,h,k=>by
  obtain⟨rfl,rfl⟩:=h
  rw[Nat.zero_add];exact k
 | t :: a,b,R1,R2,N1,N2,h,k=>by
  obtain⟨Ra,Rb,Na,Nb,rfl,rfl,h1,h2⟩:=h
  exact⟨Ra,Rb++R2,Na,Nb+N2,List.append_assoc _ _ _,Nat.add_assoc _ _ _,h1,h2.app k⟩
theorem jci.one{Hs:ByteArray→Prop}{fr:ByteArray}{t:Pl5}{R:List Pair}{N:Nat}(h:Den Hs fr t R N):jci Hs fr [t] R N:=⟨R,[],N,0,by simp,by simp,h,rfl,rfl⟩
theorem jtI:∀ {a b:List UInt8} (q:List UInt8),Lt a b→a.isPrefixOf b=false→Lt (a++q) b
 | [],b,q,_,h=>by cases b <;> simp at h
 | x :: a,[],q,h,_=>absurd h (not_lt_nil _)
 | x :: a,y :: b,q,h,hp=>by
  rw[List.cons_append];rcases jbg.1 h with h1 |⟨h1,h2⟩
  ·exact jbg.2 (.inl h1)
  ·subst h1
   refine jbg.2 (.inr ⟨rfl,jtI q h2 ?_⟩);simpa using hp
theorem jc4(a b:ByteArray):(a++b).data.toList=a.data.toList++b.data.toList:=by rw[ByteArray.data_append,Array.toList_append]
theorem joN{fr p:ByteArray}(l:List Pair)(h1:jbs p fr=true)(h2:preB p fr=false):absF fr p l=[]:=by
 unfold absF;rw[List.filter_eq_nil_iff];intro q hq
 obtain⟨x,_,rfl⟩:=List.mem_map.1 hq
 have:jbs (p++x.1) fr=true:=by
  rw[jbE,jc4];exact jtI _ ((jbE _ _).1 h1) h2
 simp[this]
theorem jjS{Hs:ByteArray→Prop}(fr:ByteArray){p:ByteArray}{f:Nat}{l:List Pair}(h:jli Hs p f l):∃ N,N≤cntT f l∧jci Hs fr (jb7 fr p (refB (jad (f+1) l).text)) (absF fr p l) N:=by
 unfold jb7
 by_cases hc:jbs p fr=true∧preB p fr=false
 ·rw[if_pos (.inr hc),joN l hc.1 hc.2]
  exact⟨0,Nat.zero_le _,rfl,rfl⟩
 ·rw[if_neg (fun e=>e.elim (jl0 h.rows h.ne) hc)]
  exact⟨_,Nat.le_refl _,jci.one (.inr ⟨rfl,f,l,h,rfl,rfl,rfl⟩)⟩
theorem jkg{Hs:ByteArray→Prop}(fr p v:ByteArray)(hv:v.size≠0)(hk:jcV p=true)(hs:p.size≤12):jci Hs fr (jcc fr p v) ([(p,v)].filter fun q => !jbs q.1 fr) 0:=by
 unfold jcc;cases hl:jbs p fr with
 | true=>rw[if_pos (.inr rfl)];simp only[List.filter_cons,hl];exact⟨rfl,rfl⟩
 | false =>
  rw[if_neg (fun e=>e.elim hv (by simp)),if_pos hk];simp only[List.filter_cons,hl,Bool.not_false,if_true,List.filter_nil];exact jci.one (.inl ⟨hv,hk,hs,hl,rfl,rfl⟩)
theorem jnb{α:Type}(g:Nat→List α)(hg:∀ i,(g i).reverse=g i):∀ l:List Nat,(l.reverse.flatMap g).reverse=l.flatMap g
 | []=>rfl
 | x :: l=>by
  rw[List.reverse_cons,List.flatMap_append,List.reverse_append,jnb g hg l,List.flatMap_cons];simp[hg]
theorem jjU(fr p r:ByteArray):(jb7 fr p r).reverse=jb7 fr p r:=by unfold jb7;split <;> rfl
theorem jki(fr p r:ByteArray):(jcc fr p r).reverse=jcc fr p r:=by
 unfold jcc;split
 ·rfl
 ·split <;> rfl
theorem jwJ{x:UInt8}{i:Nat}(h:x.toNat=i):UInt8.ofNat i=x:=by subst h;exact UInt8.ofNat_toNat
theorem jlm{p:ByteArray}{i k:Nat}{q:Pair}{x:UInt8}{r:List UInt8}(h:q.l=x :: r)(hx:x.toNat=i):p++q.1=(p++nib1 i)++q.1.extract 1 q.1.size:=by
 refine jcK ?_;rw[jc4,jc4,jc4,jc7 _ _ _ (Nat.le_refl _)];have h:q.1.data.toList=x :: r:=h;rw[h];unfold nib1;rw[jwJ hx];simp
theorem jo6{p:ByteArray}{k:Nat}{q:Pair}{a:ByteArray}(h:q.l.take k=a.data.toList):p++q.1=(p++a)++q.1.extract k q.1.size:=by
 refine jcK ?_;rw[jc4,jc4,jc4,jc7 _ _ _ (Nat.le_refl _), ←h,List.append_assoc];show _++q.l=_++(q.l.take k++q.l.drop k);rw[List.take_append_drop]
theorem jjO(fr p a:ByteArray)(k:Nat)(l:List Pair)(h:∀ q∈l,p++q.1=(p++a)++q.1.extract k q.1.size):absF fr p l=absF fr (p++a) (jam k l):=by
 unfold absF jam;rw[List.map_map];rw[List.map_congr_left fun q hq=>by show (p++q.1,q.2)=((p++a)++q.1.extract k q.1.size,q.2);rw[h q hq]];rfl
theorem jsb{Hs:ByteArray→Prop}(fr p:ByteArray)(f:Nat)(l:List Pair)(n:jaf)
  (hn:∀ i,i < 16→n.refs.getD i ⟨#[]⟩=if (cutL i l).length=0 then ⟨#[]⟩else refB (jad (f+1) (jam 1 (cutL i l))).text)
  (hr:∀ i,(cutL i l).length≠0→jli Hs (p++nib1 i) f (jam 1 (cutL i l))) :
  ∀ k,k≤16→∃ N,N≤sumF (fun i=>if (cutL i l).length=0 then 0 else cntT f (jam 1 (cutL i l))) k∧jci Hs fr ((List.range k).flatMap fun i=>jb7 fr (p++nib1 i) (n.refs.getD i ⟨#[]⟩)) (absF fr p ((List.range k).flatMap fun i=>cutL i l)) N:=by
 intro k;induction k with
 | zero=>intro _;exact⟨0,Nat.zero_le _,rfl,rfl⟩
 | succ k ih =>
  intro hk
  obtain⟨N,h1,h2⟩:=ih (by omega)
  rw[List.range_succ,List.flatMap_append,List.flatMap_append,jmb,sumF];simp only[List.flatMap_cons,List.flatMap_nil,List.append_nil];rw[hn k (by omega)]
  by_cases h0:(cutL k l).length=0
  ·refine⟨N+0,by rw[if_pos h0];omega,h2.app ?_⟩
   rw[if_pos h0,List.eq_nil_of_length_eq_zero h0];unfold jb7;rw[if_pos (.inl rfl)]
   exact⟨rfl,rfl⟩
  ·obtain⟨M,h3,h4⟩:=jjS fr (hr k h0)
   refine⟨N+M,by rw[if_neg h0];omega,h2.app ?_⟩
   rw[if_neg h0,jjO fr p (nib1 k) 1 (cutL k l) fun q hq=>?_]
   ·exact h4
   ·obtain⟨_,x,r,e1,e2⟩:=jbH hq
    exact jlm (k:=0) e1 e2
theorem jqc{Hs:ByteArray→Prop}(fr:ByteArray){p:ByteArray}:∀ {f:Nat} {l:List Pair},jli Hs p f l→∃ N,N+1≤cntT f l∧jci Hs fr (layP fr (jau (jad f) l) p).reverse (absF fr p l) N:=by
 intro f l h;have h0:l.length≠0:=fun e=>h.ne (List.eq_nil_of_length_eq_zero e)
 by_cases h1:l.length=1
 ·obtain⟨q,rfl⟩:=List.length_eq_one_iff.1 h1
  have eN:jau (jad f) [q]=⟨1,q.1,q.2,jax 16⟩:=rfl;have hq:=h.rows.size q List.mem_cons_self;have hk:=h.key q List.mem_cons_self;rw[eN];unfold layP;rw[if_pos rfl,jki]
  refine⟨0,?_,jkg fr (p++q.1) q.2 (by omega) hk.1 hk.2⟩
  cases f with
  | zero=>exact Nat.le_refl _
  | succ f=>rw[cntT];omega
 have h2:2≤l.length:=by omega
 cases f with
 | zero=>have:=jcf h.rows;omega
 | succ f =>
  have hcom:=jbY h.rows h2
  by_cases hk:0 < comK l
  ·have hok:jaQ f (jam (comK l) l):=(jcF (comK l) h.rows (fun p hp q hq=>(hcom p hp).1.trans (hcom q hq).1.symm) (fun p hp=>(hcom p hp).2)).mono (by omega)
   have hne:jam (comK l) l≠[]:=fun e=>by have:=jaE (comK l) l;rw[e]at this;simp at this;omega
   have eB:jaw (jad (f+1)) l=jbZ (jad (f+1) (jam (comK l) l)):=by
    unfold jaw;rw[if_neg (by omega),if_pos hk]
   have eN:jau (jad (f+1)) l=⟨2,(l.getD 0 pd).1.extract 0 (comK l),⟨#[]⟩,refB (jad (f+1) (jam (comK l) l)).text :: jax 15⟩:=by unfold jau;rw[if_neg h0,if_neg h1,if_pos hk]
   have ea:((l.getD 0 pd).1.extract 0 (comK l)).data.toList=(l.getD 0 pd).l.take (comK l):=by
    rw[ByteArray.data_extract,Array.toList_extract,List.extract_eq_take_drop];simp
   have happ:∀ q∈l,p++q.1=(p++(l.getD 0 pd).1.extract 0 (comK l))++q.1.extract (comK l) q.1.size:=fun q hq=>jo6 (by rw[ea];exact (hcom q hq).1);have hR:jli Hs (p++(l.getD 0 pd).1.extract 0 (comK l)) f (jam (comK l) l):=by
    refine⟨hok,hne,fun x hx h32=>h.has x (jg5 hne hok (by rw[eB];exact fun _ hh=>hh) x hx h32) h32,fun q' hq'=>?_⟩
    obtain⟨q,hq,rfl⟩:=List.mem_map.1 hq'
    rw[←happ q hq];exact h.key q hq
   obtain⟨N,i1,i2⟩:=jjS fr hR
   refine⟨N,by rw[cntT,if_neg (by omega),if_pos hk];omega,?_⟩
   rw[eN];unfold layP;rw[if_neg (show ¬((2:Nat)=1) by decide),if_pos rfl,jjU,jjO fr p _ (comK l) l happ];exact i2
  ·obtain⟨rs,hrs⟩:∃ rs,rs=(List.range 16).map fun i=>if (cutL i l).length=0 then (⟨#[]⟩:ByteArray)else refB (jad (f+1) (jam 1 (cutL i l))).text:=⟨_,rfl⟩
   have eN:jau (jad (f+1)) l=⟨3,⟨#[]⟩,if (l.getD 0 pd).1.size=0 then (l.getD 0 pd).2 else ⟨#[]⟩,rs⟩:=by unfold jau;rw[if_neg h0,if_neg h1,if_neg hk,hrs]
   have hkid:∀ i,(cutL i l).length≠0→jam 1 (cutL i l)≠[]:=fun i hi e=>by have:=jaE 1 (cutL i l);rw[e]at this;simp at this;omega
   have hR:∀ i,(cutL i l).length≠0→jli Hs (p++nib1 i) f (jam 1 (cutL i l)):=fun i hi=>by
    refine⟨jei i h.rows,hkid i hi,fun x hx h32=>h.has x (jg5 (hkid i hi) (jei i h.rows) ?_ x hx h32) h32,fun q' hq'=>?_⟩
    ·obtain⟨q,hq⟩:∃ q,q∈cutL i l:=by
      cases hc:cutL i l with
      | nil=>rw[hc]at hi;exact absurd rfl hi
      | cons q r=>exact⟨q,List.mem_cons_self⟩
     obtain⟨hq1,x,r,e1,e2⟩:=jbH hq
     have hx:=jeW (h.rows.size q hq1).2.2.1 e1;intro T hT;unfold jaw;rw[if_neg (by omega),if_neg hk];refine List.mem_flatMap.2 ⟨i,List.mem_range.2 (by omega),?_⟩;rw[if_neg hi];exact hT
    ·obtain⟨q,hq,rfl⟩:=List.mem_map.1 hq'
     obtain⟨hq1,x,r,e1,e2⟩:=jbH hq
     rw[←jlm (p:=p) (k:=0) e1 e2];exact h.key q hq1
   obtain⟨N,i1,i2⟩:=jsb fr p f l ⟨3,⟨#[]⟩,if (l.getD 0 pd).1.size=0 then (l.getD 0 pd).2 else ⟨#[]⟩,rs⟩ (fun i hi=>by show rs.getD i ⟨#[]⟩=_;rw[hrs,jfh _ hi]) hR 16 (Nat.le_refl _)
   refine⟨0+N,by rw[cntT,if_neg (by omega),if_neg hk];omega,?_⟩
   rw[eN];unfold layP;rw[if_neg (show ¬((3:Nat)=1) by decide),if_neg (show ¬((3:Nat)=2) by decide),if_pos rfl,List.reverse_append,jki];unfold jnV;rw[jnb _ (fun i=>jjU _ _ _)]
   conv=>arg 4;rw[jiJ h.rows,jmb]
   refine jci.app ?_ i2;rw[jir h.rows h.ne]
   by_cases hz:(l.getD 0 pd).1.size=0
   ·simp only[if_pos hz]
    have hm:l.getD 0 pd∈l:=by
     rw[List.getD_eq_getElem?_getD,List.getElem?_eq_getElem (by omega)];exact List.getElem_mem _
    have hq:=h.rows.size _ hm;have hkk:=h.key _ hm;have e:p++(l.getD 0 pd).1=p:=by rw[jbF hz];exact ByteArray.append_empty
    rw[e]at hkk
    have:=jkg (Hs:=Hs) fr p (l.getD 0 pd).2 (by omega) hkk.1 hkk.2
    unfold absF;simp only[List.map_cons,List.map_nil,e];exact this
   ·simp only[if_neg hz]
    unfold jcc;rw[if_pos (.inl rfl)]
    exact⟨rfl,rfl⟩
end
section
open Go Go.RowKit
attribute [local go_sem] Oper.semAt_some
theorem jbe.blk{c s:Nat}{fr:ByteArray}{W W':World}{v v':Value}{ps:List Pl5}{lk:Int}(h:jbe c s fr W v W' v' ps lk){b:Nat}{o:Obj}(hB:Blk W b o)(h1:b≠c)(h2:v.ownBlock≠some b):Blk W' b o:=hB.keeps h.kp (fun e=>e.elim h1 h2)
def revJ(j:Nat):List Nat:=(List.range 16).reverse.take j
theorem jqZ{j:Nat}(h:j < 16):revJ (j+1)=revJ j++[15 - j]:=by
 unfold revJ
 have:(List.range 16).reverse[j]?=some (15 - j):=by
  rw[List.getElem?_reverse (by simpa using h),List.length_range,List.getElem?_range (by omega)]
 rw[List.take_add_one,this];rfl
def jhs(fr:ByteArray)(n:jaf)(p:ByteArray)(j:Nat):List Pl5:=(revJ j).flatMap fun i=>jb7 fr (p++nib1 i) (n.refs.getD i ⟨#[]⟩)
theorem jnU(fr:ByteArray)(n:jaf)(p:ByteArray){j:Nat}(h:j < 16):jhs fr n p (j+1)=jhs fr n p j++jb7 fr (p++nib1 (15 - j)) (n.refs.getD (15 - j) ⟨#[]⟩):=by
 unfold jhs;rw[jqZ h,List.flatMap_append];simp
theorem jke(fr:ByteArray)(n:jaf)(p:ByteArray):jhs fr n p 16=jnV fr n p 16:=rfl
theorem jjT(fr p r:ByteArray):(jb7 fr p r).length≤1:=by unfold jb7;split <;> simp
theorem jkh(fr p r:ByteArray):(jcc fr p r).length≤1:=by
 unfold jcc;split
 ·simp
 ·split <;> simp
theorem jmz{α β:Type}(g:α→List β)(hg:∀ a,(g a).length≤1):∀ l:List α,(l.flatMap g).length≤l.length
 | []=>by simp
 | x :: l=>by
  have:=jmz g hg l
  have:=hg x
  rw[List.flatMap_cons,List.length_append,List.length_cons];omega
theorem jht(fr:ByteArray)(n:jaf)(p:ByteArray)(j:Nat):(jhs fr n p j).length≤16:=by
 have h1:=jmz (fun i=>jb7 fr (p++nib1 i) (n.refs.getD i ⟨#[]⟩)) (fun i=>jjT _ _ _) (revJ j);have h2:(revJ j).length≤16:=by unfold revJ;rw[List.length_take];simp;omega
 unfold jhs;omega
theorem jqd(fr:ByteArray)(n:jaf)(p:ByteArray):(layP fr n p).length≤17:=by
 unfold layP;split
 ·have:=jkh fr (p++n.path) n.value;omega
 ·split
  ·have:=jjT fr (p++n.path) (n.refs.getD 0 ⟨#[]⟩);omega
  ·split
   ·have h1:=jht fr n p 16
    rw[jke]at h1
    have:=jkh fr p n.value
    rw[List.length_append];omega
   ·simp
theorem jsD(W:World)(c s:Nat)(fr:ByteArray)(v:Value)(ps:List Pl5)(lk:Int)(h:jbp W c s fr v ps lk)(hps:ps.length≤900000)(pa va:ByteArray)(rs:List ByteArray)(hr:rs.length=16)(p:ByteArray)(hp:p.size+pa.size≤900000) :
  Calls Tryz.prog 96 #[.pointer (some ⟨c,0,none⟩),(jaf.mk 1 pa va rs).V,.string p] W (jdx c s fr W v (ps++jcc fr (p++pa) va) lk):=by
 have hl:(jaf.cells ⟨1,pa,va,rs⟩).length=19:=jaf.cells_len _ hr;have HL:=Hd hl;have H:=Hd h;clear hl h;unfold jaf.V;have e0:(jaf.cells ⟨1,pa,va,rs⟩)[0]?=some (.int .i64 1):=rfl;have e1:(jaf.cells ⟨1,pa,va,rs⟩)[1]?=some (.string pa):=rfl;have e2:(jaf.cells ⟨1,pa,va,rs⟩)[2]?=some (.string va):=rfl
 obtain⟨qs,hqs⟩:∃ qs,qs=ps++jcc fr (p++pa) va:=⟨_,rfl⟩
 have HQ:=Hd hqs;rw[←hqs];clear hqs;go_enter Tryz.func96,Tryz.ntmps96;go_wp2_with fail
 have hE:Ext W (W.alloc (.cells (jaf.cells ⟨1,pa,va,rs⟩).toArray 144)):=(ExtR W).alloc _;refine (jpJ _ c s fr v ps lk (H.o.ext hE) (by omega) (p++pa) va (by rw[ByteArray.size_append];omega)).mono ?_;rw[←HQ.o];rintro e w1 ⟨rfl,v1,hT⟩;have HT:=Hd (jbe.ahead hE hT);clear hT hE;go_wp2_with fail
 refine bodyPost_end (results_none rfl _ _ _) rfl ?_
 exact⟨rfl,v1,HT.o⟩
theorem juN(W:World)(c s:Nat)(fr:ByteArray)(v:Value)(ps:List Pl5)(lk:Int)(h:jbp W c s fr v ps lk)(hps:ps.length≤900000)(hf:fr.size≤1000000)(pa va r:ByteArray)(rs:List ByteArray)(hr:(r :: rs).length=16)(p:ByteArray)(hp:p.size+pa.size≤900000) :
  Calls Tryz.prog 96 #[.pointer (some ⟨c,0,none⟩),(jaf.mk 2 pa va (r :: rs)).V,.string p] W (jdx c s fr W v (ps++jb7 fr (p++pa) r) lk):=by
 have hl:(jaf.cells ⟨2,pa,va,r :: rs⟩).length=19:=jaf.cells_len _ hr;have HL:=Hd hl;have H:=Hd h;clear hl h;unfold jaf.V;have e0:(jaf.cells ⟨2,pa,va,r :: rs⟩)[0]?=some (.int .i64 2):=rfl;have e1:(jaf.cells ⟨2,pa,va,r :: rs⟩)[1]?=some (.string pa):=rfl;have e3:(jaf.cells ⟨2,pa,va,r :: rs⟩)[3]?=some (.string r):=rfl
 obtain⟨qs,hqs⟩:∃ qs,qs=ps++jb7 fr (p++pa) r:=⟨_,rfl⟩
 have HQ:=Hd hqs;rw[←hqs];clear hqs;go_enter Tryz.func96,Tryz.ntmps96;go_wp2_with fail
 have hE:Ext W (W.alloc (.cells (jaf.cells ⟨2,pa,va,r :: rs⟩).toArray 144)):=(ExtR W).alloc _;refine (jjR _ c s fr v ps lk (H.o.ext hE) (by omega) (p++pa) r (by rw[ByteArray.size_append];omega) hf).mono ?_;rw[←HQ.o];rintro e w1 ⟨rfl,v1,hT⟩;have HT:=Hd (jbe.ahead hE hT);clear hT hE;go_wp2_with fail
 refine bodyPost_end (results_none rfl _ _ _) rfl ?_
 exact⟨rfl,v1,HT.o⟩
theorem jf3{F:BSet}{w2 w3:World}{m:Nat}{a:Act}{o:Oper}(ho:execOp a.eval o=(do pure (.value (←convert 89 9 (.slice (some ⟨w2.heap.size,0,none⟩) 1 1)))))
  (h:jac F (w2.alloc (.cells #[.int .u8 (m:Int)] 5)) w3) (hF:¬ F w2.heap.size) (hm:m < 16):(execOp a.eval o).run Tryz.prog w3=.ok (.value (.string (nib1 m))) w3:=by
 have hB:=(Blk.new w2 (.cells #[.int .u8 (m:Int)] 5)).keeps h hF;have hbm:(m:Int)=((UInt8.ofNat m).toNat:Int):=by rw[joy m (by omega)]
 have hO:w3.ownsRow 0 5 1 (.slice (some ⟨w2.heap.size,0,none⟩) 1 1) 1 (jaH [UInt8.ofNat m]):=
  ⟨rfl,.inr ⟨_,1,_,rfl,Nat.zero_le _,hB,Nat.le_refl _,by unfold maxLen;omega,rfl,by rw[hbm];rfl⟩⟩
 have hc:=jbS w3 Tryz.uBytes Tryz.uU8 Tryz.uStr hO;rw[ho,Sem.run_bind,hc];rfl
def jxg(c s:Nat)(fr:ByteArray)(W1:World)(v:Value)(ps:List Pl5)(lk:Int)(n:jaf)(p:ByteArray)(iv:Value)(wr:World):Prop:=∃ j:Nat,j≤16∧iv=.int .i64 (15 - (j:Int))∧∃ v',jbe c s fr W1 v wr v' (ps++jhs fr n p j) lk
theorem Tryz.enterAheadCur:∀ args w,(callFunc 138 args).run Tryz.prog w=.ok (.enter 138 args) w:=fun _ _=>by kernel_rfl
theorem jn7(W:World)(c s:Nat)(fr:ByteArray)(v:Value)(ps:List Pl5)(lk:Int)(h:jbp W c s fr v ps lk)(hps:ps.length≤900000)(hf:fr.size≤1000000)(pa va:ByteArray)(rs:List ByteArray)(hr:rs.length=16)(p:ByteArray)(hp:p.size+pa.size≤900000) :
  Calls Tryz.prog 96 #[.pointer (some ⟨c,0,none⟩),(jaf.mk 3 pa va rs).V,.string p] W (jdx c s fr W v (ps++(jnV fr ⟨3,pa,va,rs⟩ p 16++jcc fr p va)) lk):=by
 have hl:(jaf.cells ⟨3,pa,va,rs⟩).length=19:=jaf.cells_len _ hr;have HL:=Hd hl;have HR:=Hd hr;have H:=Hd h;clear hl h hr;unfold jaf.V;have e0:(jaf.cells ⟨3,pa,va,rs⟩)[0]?=some (.int .i64 3):=rfl;have e2:(jaf.cells ⟨3,pa,va,rs⟩)[2]?=some (.string va):=rfl
 obtain⟨qs,hqs⟩:∃ qs,qs=ps++(jnV fr ⟨3,pa,va,rs⟩ p 16++jcc fr p va):=⟨_,rfl⟩
 have HQ:=Hd hqs;rw[←hqs];clear hqs;go_enter Tryz.func96,Tryz.ntmps96;go_wp2_with fail
 have hE:Ext W (W.alloc (.cells (jaf.cells ⟨3,pa,va,rs⟩).toArray 144)):=(ExtR W).alloc _;have hB:=Blk.new W (.cells (jaf.cells ⟨3,pa,va,rs⟩).toArray 144)
 obtain⟨W1,hW1⟩:∃ W1,W1=W.alloc (.cells (jaf.cells ⟨3,pa,va,rs⟩).toArray 144):=⟨_,rfl⟩
 rw[←hW1]at hE hB ⊢;have hne:v.ownBlock≠some W.heap.size:=fun e=>by have:=jfy H.o.row e;omega
 have hnc:W.heap.size≠c:=by have:=H.o.cur.lt;omega
 have HE:=Hd hE;have HB:=Hd hB;have HN:=Hd (And.intro hne hnc);have HZ:=Hd (show W1.heap.size=W.heap.size+1 by rw[hW1];simp);clear hW1 hE hB hne hnc;go_loopw [6] (fun iv wr=>jxg c s fr W1 v ps lk ⟨3,pa,va,rs⟩ p iv wr) (fun iv _=>(intOf iv+1).toNat)
 case atStart=>exact⟨0,by omega,rfl,v,by rw[show jhs fr ⟨3,pa,va,rs⟩ p 0=[]from rfl,List.append_nil];exact jbe.refl (H.o.ext HE.o)⟩
 case round =>
  obtain⟨j,hj,rfl,v',hT⟩:=hrel
  have HT:=Hd hT;have HNB:=Hd (hT.blk HB.o HN.o.2 HN.o.1);clear hT
  by_cases hlt:j < 16
  ·obtain⟨m,hm⟩:∃ m,m=15 - j:=⟨_,rfl⟩
   have hmi:(15:Int) - (j:Int)=(m:Int):=by omega
   have hm16:m < 16:=by omega
   rw[hmi];have b1:(0:Int)≤(m:Int):=by omega
   have b2:¬(m:Int) < 0:=by omega
   have b3:(m:Int) < 16:=by omega
   have b4:(m:Int).toNat=m:=by omega
   have HM:=Hd (And.intro hm hmi)
   obtain⟨r,hr⟩:∃ r,rs[m]?=some r:=⟨_,List.getElem?_eq_getElem (by rw[HR.o];exact hm16)⟩
   have HRM:=Hd hr;have Q3:=Hd (HNB.o.cellL (i:=3+m) (v:=.string r) (by
    show (_ :: _ :: _ :: rs.map Value.string)[3+m]?=_;rw[show 3+m=m+1+1+1 by omega];simp[HRM.o]))
   have NB:Hid (v'.ownBlock≠some wr.heap.size∧wr.heap.size≠c):=Hd ⟨fun e=>by have:=jfy HT.o.at'.row e;omega,by have:=HT.o.at'.cur.lt;omega⟩;have b5:¬(9223372036854775807 < p.size+(nib1 m).size):=by show ¬(_ < p.size+1);omega
   have NV:=Hd (show ¬(W.heap.size=c∨v'.ownBlock=some W.heap.size)from fun e=>by
    rcases e with e | e
    ·exact HN.o.2 e
    ·rcases HT.o.new with h1 | h1
     ·exact HN.o.1 (h1 ▸ e)
     ·have:=h1 _ e;have:=HZ.o;omega)
   clear hm hmi hr;go_wp2_with fail
   refine ja1 [0,1,2,3,7,8,9,10,4,5,6,11] [4,11] Ext (jac (fun b=>b=c∨v'.ownBlock=some b)) ExtR ExtT (fun x y z h k=>jac.trans h k) (fun x y h=>h.mono (fun _ _ h=>h.elim)) (by kernel_rfl) (by kernel_rfl) (by kernel_rfl) ?_;iterate 7 (refine jai _ rfl (by kernel_rfl) rfl rfl (fun K hK=>?_);go_big_quiet_op;refine hK _ ?_;clear hK K)
   refine jaX ⟨W.heap.size,3+m,none⟩ _ rfl (by kernel_rfl) rfl rfl (fun w2 h2=>jab Tryz.uStr rfl (jat (jaa (by exact Q3.o) (jak _)) h2 NV.o)) ?_;simp only[Act.put,sA,sB,sC];refine jaY _ rfl (by kernel_rfl) rfl (fun w2 he K hK=>?_);have HX2:=Hd (show Ext wr w2 from(jak _).trans he);clear he;go_simp;refine hK _ _ ((jac.refl _ w2).alloc _) ?_;clear hK K;refine jbB _ (.string (nib1 m)) rfl (by kernel_rfl) rfl (fun w3 h3=>jf3 (by kernel_rfl) h3 (fun e=>e.elim (fun e=>by have:=(HT.o.at'.cur).lt;have:=HX2.o.size;omega) (fun e=>by have:=jfy HT.o.at'.row e;have:=HX2.o.size;omega)) hm16) ?_;simp only[Act.put,sA,sB,sC];refine jai _ rfl (by kernel_rfl) rfl rfl (fun K hK=>?_);go_big_quiet_op;refine hK _ ?_;clear hK K;refine jaY _ rfl (by kernel_rfl) rfl (fun w4 he K hK=>?_);have HX4:=Hd (show Ext wr w4 from(HX2.o.alloc _).trans he);clear he;refine jby (jaA Tryz.enterAheadCur (by kernel_rfl)) ((jjR w4 c s fr v' _ lk (HT.o.at'.ext HX4.o) (by have:=jht fr ⟨3,pa,va,rs⟩ p j;rw[List.length_append];omega) (p++nib1 m) r (by rw[ByteArray.size_append];show p.size+1≤_;omega) hf).mono ?_);rintro e w5 ⟨rfl,v5,hT5⟩;have hq:ps++jhs fr ⟨3,pa,va,rs⟩ p j++jb7 fr (p++nib1 m) r=ps++jhs fr ⟨3,pa,va,rs⟩ p (j+1):=by
    rw[jnU fr _ p hlt,List.append_assoc, ←HM.o.1]
    have:(jaf.mk 3 pa va rs).refs.getD m ⟨#[]⟩=r:=by show rs.getD m ⟨#[]⟩=r;rw[List.getD_eq_getElem?_getD,HRM.o];rfl
    rw[this]
   rw[hq]at hT5;have HT5:=Hd hT5
   refine⟨_,rfl,hK _ _ hT5.kp ?_⟩
   clear hK K hT5 hq;simp only[Act.put,sA,sB,sC];refine jcd (by kernel_rfl) (fun w6 he=>?_);have HT6:=Hd (HT.o.trans ((jbe.ahead HX4.o HT5.o).ext he));clear he;go_wp2_with fail
   go_roundw
   case rel=>exact⟨j+1,by omega,by have:=HM.o.2;have:=HM.o.1;simp;omega,v5,HT6.o⟩
   case measure=>simp[intOf]
  ·obtain rfl:j=16:=by omega
   have b1:(15:Int) - ((16:Nat):Int) = -1:=by omega
   rw[b1];have q2:=HNB.o.cellL (i:=2) (v:=.string va) e2;go_wp2_with fail
   refine (jpJ wr c s fr v' _ lk HT.o.at' (by have:=jht fr ⟨3,pa,va,rs⟩ p 16;rw[List.length_append];omega) p va (by omega)).mono ?_;rintro e w1 ⟨rfl,v1,hT⟩;have hq:ps++jhs fr ⟨3,pa,va,rs⟩ p 16++jcc fr p va=qs:=by rw[HQ.o,jke,List.append_assoc]
   rw[hq]at hT;have HT2:=Hd (jbe.ahead HE.o (HT.o.trans hT));clear hT hq;go_wp2_with fail
   refine bodyPost_end (results_none rfl _ _ _) rfl ?_
   exact⟨rfl,v1,HT2.o⟩
theorem jsE(W:World)(c s:Nat)(fr:ByteArray)(v:Value)(ps:List Pl5)(lk:Int)(h:jbp W c s fr v ps lk)(pa va:ByteArray)(rs:List ByteArray)(hr:rs.length=16)(p:ByteArray) :
  Calls Tryz.prog 96 #[.pointer (some ⟨c,0,none⟩),(jaf.mk 0 pa va rs).V,.string p] W (jdx c s fr W v ps lk):=by
 have hl:(jaf.cells ⟨0,pa,va,rs⟩).length=19:=jaf.cells_len _ hr;have HL:=Hd hl;have H:=Hd h;clear hl h;unfold jaf.V;have e0:(jaf.cells ⟨0,pa,va,rs⟩)[0]?=some (.int .i64 0):=rfl;go_enter Tryz.func96,Tryz.ntmps96;go_wp2_with fail
 refine bodyPost_end (results_none rfl _ _ _) rfl ?_
 exact⟨rfl,v,(jbe.refl H.o).ext ((ExtR W).alloc _)⟩
theorem jwE(W:World)(c s:Nat)(fr:ByteArray)(v:Value)(ps:List Pl5)(lk:Int)(h:jbp W c s fr v ps lk)(hps:ps.length≤900000)(hf:fr.size≤1000000)(n:jaf)(hk:n.kind≤3)(hr:n.refs.length=16)(p:ByteArray)(hp:p.size+n.path.size≤900000) :
  Calls Tryz.prog 96 #[.pointer (some ⟨c,0,none⟩),n.V,.string p] W (jdx c s fr W v (ps++layP fr n p) lk):=by
 obtain⟨k,pa,va,rs⟩:=n
 have hk:k≤3:=hk;have hr:rs.length=16:=hr;rcases Nat.lt_or_ge 0 k with h0 | h0
 ·rcases Nat.lt_or_ge 1 k with h1 | h1
  ·rcases Nat.lt_or_ge 2 k with h2 | h2
   ·obtain rfl:k=3:=by omega
    have e:layP fr ⟨3,pa,va,rs⟩ p=jnV fr ⟨3,pa,va,rs⟩ p 16++jcc fr p va:=by
     unfold layP;rw[if_neg (show ¬((3:Nat)=1) by decide),if_neg (show ¬((3:Nat)=2) by decide),if_pos rfl]
    rw[e];exact jn7 W c s fr v ps lk h hps hf pa va rs hr p hp
   ·obtain rfl:k=2:=by omega
    cases rs with
    | nil=>simp at hr
    | cons r rs =>
     have e:layP fr ⟨2,pa,va,r :: rs⟩ p=jb7 fr (p++pa) r:=by
      unfold layP;rw[if_neg (show ¬((2:Nat)=1) by decide),if_pos rfl];rfl
     rw[e];exact juN W c s fr v ps lk h hps hf pa va r rs hr p hp
  ·obtain rfl:k=1:=by omega
   have e:layP fr ⟨1,pa,va,rs⟩ p=jcc fr (p++pa) va:=by unfold layP;rw[if_pos rfl]
   rw[e];exact jsD W c s fr v ps lk h hps pa va rs hr p hp
 ·obtain rfl:k=0:=by omega
  have e:layP fr ⟨0,pa,va,rs⟩ p=[]:=by
   unfold layP;rw[if_neg (show ¬((0:Nat)=1) by decide),if_neg (show ¬((0:Nat)=2) by decide),if_neg (show ¬((0:Nat)=3) by decide)]
  rw[e,List.append_nil];exact jsE W c s fr v ps lk h pa va rs hr p
theorem jlz(W:World)(c:Nat)(r q)(n:jaf)(hn:n.refs.length=16)(hr:r.size≤1000)(hq:cutN r=some q)(hh:jfv r q=none)(hi:∀ w,Calls Tryz.prog 111 #[.string r] w fun e w'=>e=.returned (.tuple #[n.V,.bool true])∧Ext w w') :
  Calls Tryz.prog 186 #[.pointer (some ⟨c,0,none⟩),.string r] W fun e w'=>e=.returned (.tuple #[n.V,.bool true])∧Ext W w':=by
 have HQ:=Hd hq;have HH:=Hd hh;have HI:=Hd hi;have HN:=Hd hn;have HL:=Hd (n.cells_len hn);clear hq hh hi hn;go_enter Tryz.func186,Tryz.ntmps186;go_wp2_with (refine jaq Tryz.allocNode rfl rfl ?_;intro W1 hB1 hE1)
 refine (jeS W1 r q (by omega) HQ.o).mono ?_;rintro e w2 ⟨rfl,hE⟩;rw[HH.o];unfold optV;have HB2:=Hd (hB1.keeps hE (fun h=>h));have HE2:=Hd (hE1.trans hE);clear hE hB1 hE1;go_wp2_with fail
 refine (HI.o w2).mono ?_;rintro e w3 ⟨rfl,hE⟩;have hB3:=HB2.o.keeps hE (fun h=>h);have HE3:=Hd (HE2.o.trans hE);clear hE;unfold jaf.V;go_wp2_with (refine jaj (vs:=n.cells) rfl rfl rfl rfl hB3 (by rw[HL.o];rfl) (by rw[HL.o];exact Tryz.szNode) n.one ?_;intro W8 hB8 hE8)
 refine bodyPost_ret (jaF rfl rfl rfl (jaN W8 _ n HN.o hB8)) rfl ?_
 exact⟨rfl,HE3.o.trans' hE8 (fun x hx e=>by have e:x=W.heap.size:=e;omega)⟩
theorem jpP(W:World)(c s bm:Nat)(room:Int)(S:List Nd5)(fr:ByteArray)(v:Value)(ps:List Pl5)(lk:Int)(h:jbp W c s fr v ps lk)(hs:jas W s bm room S)(x t:ByteArray)(q)(f:Nat)(n:jaf)(hg:jcz (InlD f) n)(ht:t=ja5 n)
  (hx:x.size≤1000) (hq:cutN x=some q) (hh:jfv x q=some (shaB t)) (hH:HasS S t) :
  Calls Tryz.prog 186 #[.pointer (some ⟨c,0,none⟩),.string x] W fun e w'=>e=.returned (.tuple #[n.V,.bool true])∧Ext W w':=by
 have q0:=h.cur.cell (i:=0) (v:=.pointer (some ⟨s,0,none⟩)) (by rfl);have HS:=Hd hs;have HQ:=Hd hq;have HH:=Hd hh;have HT:=Hd ht;have HG:=Hd hg;have hn:=(hg.one (inlP f)).refs;have HN:=Hd hn;have HL:=Hd (n.cells_len hn)
 obtain⟨y,hy1,hy2⟩:=hH
 have hsg:=fun w (h:jas w s bm room S)=>jh2 w s bm room S (shaB t) h;have hy1:atL S (shaB t).data.toList=some y:=hy1;rw[hy1]at hsg;have hye:(some y).map (fun z:Nd5=>z.2.2.text)=some t:=by rw[←hy2];rfl
 simp only[hye]at hsg;have HSG:=Hd hsg
 obtain⟨k,hk⟩:∃ k,k=shaB t:=⟨_,rfl⟩
 rw[←hk]at HH HSG;clear h hs hq hh ht hg hn hy1 hy2 hsg hye hk;go_enter Tryz.func186,Tryz.ntmps186;go_wp2_with (refine jaq Tryz.allocNode rfl rfl ?_;intro W1 hB1 hE1)
 refine (jeS W1 x q (by omega) HQ.o).mono ?_;rintro e w2 ⟨rfl,hE⟩;rw[HH.o];unfold optV;have HB2:=Hd (hB1.keeps hE (fun h=>h));have HE2:=Hd (hE1.trans hE);have q0:=jaa q0 HE2.o;clear hE hB1 hE1;go_wp2_with fail
 refine (HSG.o w2 (HS.o.ext HE2.o)).mono ?_;rintro e w3 ⟨rfl,hE⟩;unfold optV;have HB3:=Hd (HB2.o.keeps hE (fun h=>h));have HE3:=Hd (HE2.o.trans hE);clear hE HB2;go_wp2_with fail
 rw[HT.o];refine (jhG (inlP f) w3 n HG.o).mono ?_;rintro e w4 ⟨rfl,hE⟩;rw[←HT.o];have hB4r:=HB3.o.keeps hE (fun h=>h);have HE4:=Hd (HE3.o.trans hE);clear hE HB3;unfold jaf.V;go_wp2_with (first |(refine jaq Tryz.allocNode rfl rfl ?_;intro W5 hB5 hE5;refine jaj (vs:=n.cells) rfl rfl rfl rfl hB5 (by rw[HL.o];rfl) (by rw[HL.o];exact Tryz.szNode) n.one ?_;intro W6 hB6 hE6;have hB46:=(hB4r.keeps hE5 (fun h=>h)).keeps hE6 (by have:=hB4r.lt;omega)) |(refine jae 144 (.tmp 9) rfl rfl _ _ rfl (jaz _ _ n HN.o hB6) ?_) |(refine jaj (vs:=n.cells) rfl rfl rfl rfl hB46 (by rw[HL.o];rfl) (by rw[HL.o];exact Tryz.szNode) n.one ?_;intro W8 hB8 hE8))
 refine bodyPost_ret (jaF rfl rfl rfl (jaN W8 _ n HN.o hB8)) rfl ?_;have hX6:Ext w4 W6:=hE5.trans' hE6 (fun x hx e=>by have e:x=w4.heap.size:=e;omega)
 exact⟨rfl,(HE4.o.trans hX6).trans' hE8 (fun x hx e=>by have e:x=W.heap.size:=e;omega)⟩
theorem juB(W:World)(c s bm:Nat)(room:Int)(S:List Nd5)(fr:ByteArray)(v:Value)(ps:List Pl5)(lk:Int)(h:jbp W c s fr v ps lk)(hs:jas W s bm room S){f:Nat}{T:PT}{n:jaf}(hSt:jeE f T n)(hH:32≤T.text.size→HasS S T.text) :
  Calls Tryz.prog 186 #[.pointer (some ⟨c,0,none⟩),.string (refB T.text)] W fun e w'=>e=.returned (.tuple #[n.V,.bool true])∧Ext W w':=by
 have hn:=(hSt.good.one (inlP f)).refs
 by_cases hz:T.text.size < 32
 ·have hI:=hSt.may.2 hz
  obtain⟨q,h1,h2⟩:=(inlP (f+1)).nohash _ _ hI
  exact jlz W c _ q n hn (by rw[joo hz];omega) h1 h2 ((inlP (f+1)).inl _ _ hI)
 ·obtain⟨q,h1,h2⟩:=jf8 (shaB T.text) (jb3 _)
  rw[jjx hz];refine jpP W c s bm room S fr v ps lk h hs _ T.text q f n hSt.good hSt.text ?_ h1 h2 (hH (by omega))
  have:=ja6 (shaB T.text)
  have:=jb3 T.text
  omega
theorem jsT{w:World}{B:Nat}{T:TypeId}{sz g n cap m:Nat}{xs:List Value}(h:w.ownsRow B T sz (.slice (some ⟨g,0,none⟩) n cap) n xs)(hm:m≤n):w.ownsRow B T sz (.slice (some ⟨g,0,none⟩) m cap) m (xs.take (m * sz)):=by
 obtain⟨h1,⟨h2,_⟩ |⟨g',cap',cur,h2,h3,h4,h5,h6,h7,h8⟩⟩:=h
 ·cases h2
 ·have hms:m * sz≤n * sz:=Nat.mul_le_mul_right _ hm
  obtain⟨ha,_,hc⟩:=Value.slice.inj h2
  have hg:g=g':=by have:=Option.some.inj ha;exact congrArg Addr.block this
  subst hg hc
  refine⟨by rw[List.length_take,h1];omega,.inr ⟨g,cap,cur,rfl,h3,h4,Nat.le_trans hm h5,h6,h7,?_⟩⟩
  rw[←h8,List.take_take,Nat.min_eq_left hms]
theorem jnO(ps:List Pl5)(t:Pl5):(jcA (ps++[t])).take (ps.length * 3)=jcA ps:=by
 rw[jcU, ←jik];exact List.take_left
theorem jnN(ps:List Pl5)(t:Pl5):(jcA (ps++[t]))[ps.length * 3]?=some (.string t.path)∧(jcA (ps++[t]))[ps.length * 3+1]?=some (.string t.value)∧(jcA (ps++[t]))[ps.length * 3+2]?=some (.string t.ref):=by
 rw[jcU, ←jik,jfa]
 refine⟨?_,?_,?_⟩
 ·rw[List.getElem?_append_right (by omega),Nat.sub_self];rfl
 ·rw[List.getElem?_append_right (by omega),show (jcA ps).length+1 - (jcA ps).length=1 by omega];rfl
 ·rw[List.getElem?_append_right (by omega),show (jcA ps).length+2 - (jcA ps).length=2 by omega];rfl
theorem jbp.last{W:World}{c s:Nat}{fr:ByteArray}{v:Value}{ps:List Pl5}{t:Pl5}{lk:Int}(h:jbp W c s fr v (ps++[t]) lk) :
  ∃ g cap,v=.slice (some ⟨g,0,none⟩) (ps.length+1) cap∧ps.length+1≤cap∧W.cell? ⟨g,ps.length * 3,none⟩=some (.string t.path)∧W.cell? ⟨g,ps.length * 3+1,none⟩=some (.string t.value)∧W.cell? ⟨g,ps.length * 3+2,none⟩=some (.string t.ref):=by
 have hr:=h.row
 obtain⟨h1,⟨h2,h3⟩ |⟨g,cap,cur,h2,h3,h4,h5,h6,h7,h8⟩⟩:=h.row
 ·simp at h3
 ·rw[List.length_append]at h2 h5
  have h2:v=.slice (some ⟨g,0,none⟩) (ps.length+1) cap:=h2;have h5:ps.length+1≤cap:=h5;have hc:∀ j u,(jcA (ps++[t]))[j]?=some u→W.cell? ⟨g,j,none⟩=some u:=fun j u hj=>by
   have:=World.ownsRow.cells (g:=g) hr (by rw[h2];rfl) j u hj
   rwa [Addr.add_lit,Nat.zero_add]at this
  obtain⟨c1,c2,c3⟩:=jnN ps t
  exact⟨g,cap,h2,h5,hc _ _ c1,hc _ _ c2,hc _ _ c3⟩
structure CurI(Hs:ByteArray→Prop)(c s:Nat)(fr:ByteArray)(R:List Pair)(W:World)(v:Value)(ts:List Pl5)(N k:Nat):Prop where
 left:jbp W c s fr v ts.reverse (k:Int)
 stk:jci Hs fr ts R N
 look:k+N≤400
 len:ts.length≤17 * k
def jt5(Hs:ByteArray→Prop)(c s:Nat)(fr:ByteArray)(R:List Pair)(W:World)(v:Value)(e:Ending)(w':World):Prop:=
 ∃ (v':Value) (ts:List Pl5) (N k:Nat),jbe c s fr W v w' v' ts.reverse (k:Int)∧CurI Hs c s fr R w' v' ts N k ∧
  ((R=[]∧ts=[]∧e=.returned (.bool false))∨(∃ t r R',ts=t :: r∧R=(t.path,t.value) :: R'∧t.value.size≠0∧jcV t.path=true∧t.path.size≤12∧jci Hs fr r R' N∧e=.returned (.bool true)))
theorem jbp.types{W:World}{c s:Nat}{fr:ByteArray}{v:Value}{ps:List Pl5}{lk:Int}(h:jbp W c s fr v ps lk){b:Nat}(hb:b=c∨v.ownBlock=some b):∃ cur T,Blk W b (.cells cur T)∧(T=151∨T=206):=by
 rcases hb with rfl | hb
 ·exact⟨_,_,h.cur,.inl rfl⟩
 ·obtain⟨h1,h2 |⟨g,cap,cur,h2,h3,h4,h5⟩⟩:=h.row
  ·rw[h2.1]at hb;cases hb
  ·rw[h2]at hb
   have e:some g=some b:=hb;obtain rfl:=Option.some.inj e
   exact⟨cur,_,h4,.inr rfl⟩
theorem jas.cur{W W':World}{s bm c:Nat}{room:Int}{S:List Nd5}{fr:ByteArray}{v:Value}{ps:List Pl5}{lk:Int}(h:jas W s bm room S)(hl:jbp W c s fr v ps lk)(k:jac (fun b=>b=c∨v.ownBlock=some b) W W'):jas W' s bm room S:=by
 have hno:∀ (b:Nat) (cur:Array Value) (T:TypeId) (fz:Nat × Nat),(b=c∨v.ownBlock=some b)→Blk W b (.cells cur T fz)→T=151∨T=206:=fun b cur T fz hb hB=>by
  obtain⟨cur',T',hB',hT⟩:=hl.types hb
  have:=hB.uniq hB'
  injection this with _ e _;rw[e];exact hT
 refine⟨h.st.keeps k fun hb=>?_,h.mp.keeps k (fun hb=>?_) (fun x hx hb=>?_) fun b cur fz hb hB=>?_⟩
 ·have:=hno _ _ _ _ hb h.st
  revert this;decide
 ·obtain⟨es,ck,h1,_⟩:=h.mp.mp
  obtain⟨cur',T',hB',_⟩:=hl.types hb
  have:=h1.uniq hB';cases this
 ·obtain⟨rv,h1,_⟩:=(h.mp.items x hx).cells
  have:=hno _ _ _ _ hb h1
  revert this;decide
 ·have:=hno _ _ _ _ hb hB
  revert this;decide
theorem jbp.cutRow{W:World}{c s:Nat}{fr:ByteArray}{ps:List Pl5}{t:Pl5}{lk:Int}{g cap:Nat}(h:jbp W c s fr (.slice (some ⟨g,0,none⟩) (ps.length+1) cap) (ps++[t]) lk):W.ownsRow 0 206 3 (.slice (some ⟨g,0,none⟩) ps.length cap) ps.length (jcA ps)∧g≠c:=by
 have hr:=h.row;rw[List.length_append]at hr
 have:=jsT (m:=ps.length) hr (Nat.le_add_right _ _)
 rw[jnO]at this
 exact⟨this,fun e=>h.ne (by rw[←e];rfl)⟩
theorem jbp.pop{W:World}{c s:Nat}{fr:ByteArray}{ps:List Pl5}{t:Pl5}{lk:Int}{g cap:Nat}(h:jbp W c s fr (.slice (some ⟨g,0,none⟩) (ps.length+1) cap) (ps++[t]) lk)(k':Int) :
  jbe c s fr W (.slice (some ⟨g,0,none⟩) (ps.length+1) cap) ((W.setCell ⟨c,3,none⟩ (.int .i64 k')).setCell ⟨c,2,none⟩ (.slice (some ⟨g,0,none⟩) ps.length cap)) (.slice (some ⟨g,0,none⟩) ps.length cap) ps k':=by
 obtain⟨h1,h2⟩:=h.cutRow
 have k1:=jac.oneSet W ⟨c,3,none⟩ (.int .i64 k');have k2:=jac.oneSet (W.setCell ⟨c,3,none⟩ (.int .i64 k')) ⟨c,2,none⟩ (.slice (some ⟨g,0,none⟩) ps.length cap);have hg:∀ b:Nat,(Value.slice (some ⟨g,0,none⟩) ps.length cap).ownBlock=some b→¬ b=c:=fun b hb e=>by
  have e1:some g=some b:=hb;exact h2 ((Option.some.inj e1).trans e)
 refine⟨⟨(h.cur.set_same _).set_same _,jaG (jaG h1 k1 hg) k2 hg,fun e=>hg c e rfl⟩,?_,.inl rfl⟩
 exact (k1.mono (fun _ _ g=>.inl g)).trans' k2 (fun _ _ g=>.inl g)
theorem jbp.cut{W:World}{c s:Nat}{fr:ByteArray}{ps:List Pl5}{t:Pl5}{lk:Int}{g cap:Nat}(h:jbp W c s fr (.slice (some ⟨g,0,none⟩) (ps.length+1) cap) (ps++[t]) lk) :
  jbe c s fr W (.slice (some ⟨g,0,none⟩) (ps.length+1) cap) (W.setCell ⟨c,2,none⟩ (.slice (some ⟨g,0,none⟩) ps.length cap)) (.slice (some ⟨g,0,none⟩) ps.length cap) ps lk:=by
 obtain⟨h1,h2⟩:=h.cutRow
 have k2:=jac.oneSet W ⟨c,2,none⟩ (.slice (some ⟨g,0,none⟩) ps.length cap);have hg:∀ b:Nat,(Value.slice (some ⟨g,0,none⟩) ps.length cap).ownBlock=some b→¬ b=c:=fun b hb e=>by
  have e1:some g=some b:=hb;exact h2 ((Option.some.inj e1).trans e)
 exact⟨⟨h.cur.set_same _,jaG h1 k2 hg,fun e=>hg c e rfl⟩,k2.mono (fun _ _ g=>.inl g),.inl rfl⟩
def lkOf(c:Nat)(W:World):Nat:=match W.cell? ⟨c,3,none⟩with | some (.int _ n)=>n.toNat | _=>0
theorem jkC{W:World}{c s:Nat}{fr:ByteArray}{v:Value}{ps:List Pl5}{k:Nat}(h:jbp W c s fr v ps (k:Int)):lkOf c W=k:=by
 unfold lkOf;rw[h.cur.cell (i:=3) (v:=.int .i64 k) (by rfl)]
 simp
def jxq(Hs:ByteArray→Prop)(c s:Nat)(fr:ByteArray)(R:List Pair)(W:World)(v:Value)(bv:Value)(wr:World):Prop:=bv=.bool false∧∃ (v':Value) (ts:List Pl5) (N k:Nat),jbe c s fr W v wr v' ts.reverse (k:Int)∧CurI Hs c s fr R wr v' ts N k
theorem juo(f:Nat)(l:List Pair):1≤cntT f l:=by cases f <;> simp[cntT]
theorem jtd(W:World)(c s bm:Nat)(room:Int)(S:List Nd5)(fr:ByteArray)(R:List Pair)(v:Value)(ts:List Pl5)(N k:Nat)(hf:fr.size≤1000000)(hI:CurI (HasS S) c s fr R W v ts N k)(hs:jas W s bm room S) :
  Calls Tryz.prog 139 #[.pointer (some ⟨c,0,none⟩)] W (jt5 (HasS S) c s fr R W v):=by
 have HI:=Hd hI;have HS:=Hd hs;clear hI hs;go_enter Tryz.func139,Tryz.ntmps139;go_wp2_with fail
 go_loopw [2] (fun bv wr=>jxq (HasS S) c s fr R W v bv wr) (fun _ wr=>400 - lkOf c wr)
 case atStart=>exact⟨rfl,v,ts,N,k,jbe.refl HI.o.left,HI.o⟩
 case round =>
  obtain⟨rfl,v',ts',N',k',hT,hI⟩:=hrel
  have HT:=Hd hT;have HI':=Hd hI;have HS':=Hd (HS.o.cur HI.o.left hT.kp);cases ts' with
  | nil =>
   have q2:=hI.left.cur.cell (i:=2) (v:=v') (by rfl);have hR:R=[]:=hI.stk.1
   obtain⟨ad,cp,hv⟩:=jay hI.left.row
   have hv:v'=.slice ad 0 cp:=hv;subst hv;clear hT hI;go_wp2_with fail
   go_ret
   exact⟨_,_,N',k',HT.o,HI'.o,.inl ⟨hR,rfl,rfl⟩⟩
  | cons t r =>
   have hl:=hI.left;rw[List.reverse_cons]at hl
   obtain⟨g,cap,hv,hcap,p1,p2,p3⟩:=hl.last
   have hlen:=hI.len
   obtain⟨m,hm⟩:∃ m,m=r.length:=⟨_,rfl⟩
   rw[List.length_reverse, ←hm]at hv hcap p1 p2 p3;rw[List.length_cons, ←hm]at hlen
   obtain⟨tp,htp⟩:∃ x,x=t.path:=⟨_,rfl⟩
   obtain⟨tv,htv⟩:∃ x,x=t.value:=⟨_,rfl⟩
   obtain⟨tr,htr⟩:∃ x,x=t.ref:=⟨_,rfl⟩
   rw[←htp]at p1;rw[←htv]at p2;rw[←htr]at p3;subst hv;have q2:=hl.cur.cell (i:=2) (v:=.slice (some ⟨g,0,none⟩) (m+1) cap) (by rfl);have q3:=hl.cur.cell (i:=3) (v:=.int .i64 (k':Int)) (by rfl);have f2:wr.frozen? ⟨c,2,none⟩=false:=hl.cur.frozen;have f3:wr.frozen? ⟨c,3,none⟩=false:=hl.cur.frozen;have HL:=Hd hl;have HM:=Hd hm;have hlk:=hI.look
   obtain⟨R1,R2,N1,N2,hR,hN,hD,hSt⟩:=hI.stk
   have hk4:k'≤400:=by omega
   have HLK:=Hd hlk;have HRR:=Hd hR;have HNN:=Hd hN;have HSK:=Hd hSt;have HLEN:=Hd hlen;have i1:((m+1:Nat):Int) - 1=(m:Int):=by omega
   have i2:(0:Int) < ((m+1:Nat):Int):=by omega
   have i3:(m:Int) < ((m+1:Nat):Int):=by omega
   have i4:(m:Int).toNat=m:=by omega
   have i5:(m:Int)≤(cap:Int):=by omega
   have i6:(m:Int)≤10000:=by omega
   have HTP:=Hd htp;have HTV:=Hd htv;have HTR:=Hd htr;have HD:=Hd hD;clear hT hI hl hlk hlen hm hR hN hSt htp htv htr hD;rcases HD.o with⟨d1,d2,d3,d4,d5,d6⟩ |⟨d1,f,l,d2,d3,d4,d5⟩
   ·have hne:tv.toList.isEmpty=false:=by
     rw[Bool.eq_false_iff];intro e;rw[List.isEmpty_iff]at e;have h1:tv.toList.length=tv.size:=by rw[ByteArray.toList_eq];rfl
     rw[e]at h1;exact d1 (by rw[←HTV.o, ←h1];rfl)
    have HF:=Hd (And.intro d1 (And.intro d2 (And.intro d3 (And.intro d5 d6))));clear d1 d2 d3 d4 d5 d6;go_wp2_with fail
    go_ret
    obtain⟨d1,d2,d3,d5,d6⟩:=HF.o
    have hX:Ext wr (wr.alloc (.cells #[.string tp,.string tv,.string tr] 206)):=(ExtR wr).alloc _
    refine⟨_,t :: r,N',k',HT.o.ext hX,⟨HI'.o.left.ext hX,HI'.o.stk,HI'.o.look,HI'.o.len⟩,.inr ⟨t,r,R2,rfl,?_,d1,d2,d3,?_,rfl⟩⟩
    ·rw[HRR.o,d5];rfl
    ·have:N'=N2:=by rw[HNN.o,d6,Nat.zero_add]
     rw[this];exact HSK.o
   ·have hcp:=juo f l
    have hk3:¬(400:Int)≤(k':Int):=by have:=HLK.o;have:=HNN.o;omega
    have hk5:(k':Int) < 400:=by omega
    have hgood:=good f l d2.rows
    obtain⟨n,hn⟩:∃ n,n=jau (jad f) l:=⟨_,rfl⟩
    have hst:=hgood.2.1 d2.ne;rw[←hn]at hst;have hrefs:=(hst.good.one (inlP f)).refs;have hkind:=(hst.good.one (inlP f)).kind;have hpath:=(hst.good.one (inlP f)).path;have hftc:∀ w,Ext wr w→Calls Tryz.prog 186 #[.pointer (some ⟨c,0,none⟩),.string tr] w fun e w'=>e=.returned (.tuple #[n.V,.bool true])∧Ext w w':=fun w hw=>by
     rw[HTR.o,d3];exact juB w c s bm room S fr _ _ _ (HL.o.ext hw) (HS'.o.ext hw) hst (fun h32=>d2.has _ (jgj _) h32)
    have HFT:=Hd hftc;have HST:=Hd hst;have HN:=Hd hn;have HRF:=Hd hrefs;have HKD:=Hd hkind;have HPT:=Hd hpath;have HCL:=Hd (n.cells_len hrefs);have HDD:=Hd (And.intro d2 (And.intro d4 d5));have hne:tv=⟨#[]⟩:=by rw[HTV.o,d1]
    clear d1 d2 d3 d4 d5 hcp hgood hst hrefs hkind hpath hftc hn;rw[hne]at p2;clear hne;have q3a:(wr.alloc (.cells #[.string tp,.string ⟨#[]⟩,.string tr] 206)).cell? ⟨c,3,none⟩=some (.int .i64 (k':Int)):=jaa q3 ((ExtR wr).alloc _);go_wp2_with fail
    refine (HFT.o _ ((ExtR wr).alloc _)).mono ?_;rintro e w1 ⟨rfl,hE⟩;have hX1:Ext wr w1:=((ExtR wr).alloc _).trans hE;have hP1:Blk w1 wr.heap.size (.cells #[.string tp,.string ⟨#[]⟩,.string tr] 206):=(Blk.new wr _).keeps hE (fun h=>h);have hcw:=(jaa q2 hX1);have hclt:c < wr.heap.size:=HL.o.cur.lt;have hcne:w1.heap.size≠c:=by have:=hX1.size;omega
    have hpne:wr.heap.size≠c:=by omega
    have HX1:=Hd hX1;have HP1:=Hd hP1;have HCN:=Hd (And.intro hcne hpne);clear hE hX1 hP1 hcw hclt hcne hpne q2 q3 q3a f2 f3 p1 p2 p3;unfold jaf.V;go_wp2_with (first |(refine jaq Tryz.allocNode rfl rfl ?_;intro W5 hB5 hE5;refine jaj (vs:=n.cells) rfl rfl rfl rfl hB5 (by rw[HCL.o];rfl) (by rw[HCL.o];exact Tryz.szNode) n.one ?_;intro W6 hB6 hE6;have hX6:Ext wr W6:=HX1.o.trans (hE5.trans' hE6 (fun x hx e=>by have e:x=w1.heap.size:=e;omega));have q2:=(HL.o.ext hX6).cur.cell (i:=2) (v:=.slice (some ⟨g,0,none⟩) (m+1) cap) (by rfl);have q3:=(HL.o.ext hX6).cur.cell (i:=3) (v:=.int .i64 (k':Int)) (by rfl);have f3:W6.frozen? ⟨c,3,none⟩=false:=(HL.o.ext hX6).cur.frozen;have hB6w:=(hB6.set_other (p:=⟨c,3,none⟩) HCN.o.1 (.int .i64 ((k':Int)+1))).set_other (p:=⟨c,2,none⟩) HCN.o.1 (.slice (some ⟨g,0,none⟩) m cap);have hc3:=(HL.o.ext hX6).cur.set_same (i:=3) (.int .i64 ((k':Int)+1));have q2b:=hc3.cell (i:=2) (v:=.slice (some ⟨g,0,none⟩) (m+1) cap) (by rfl);have f2b:(W6.setCell ⟨c,3,none⟩ (.int .i64 ((k':Int)+1))).frozen? ⟨c,2,none⟩=false:=hc3.frozen;have hP6:=((((HP1.o.keeps hE5 (fun h=>h)).keeps hE6 (fun e=>by have:=HP1.o.lt;have e:wr.heap.size=w1.heap.size:=e;omega)).set_other (p:=⟨c,3,none⟩) HCN.o.2 (.int .i64 ((k':Int)+1))).set_other (p:=⟨c,2,none⟩) HCN.o.2 (.slice (some ⟨g,0,none⟩) m cap)).cell (i:=0) (v:=.string tp) (by rfl);have HX6:=Hd hX6;clear hB6 hc3 hX6 hE5 hE6 hB5) |(refine jae 144 (.tmp 5) rfl rfl _ _ rfl (jaz _ _ n HRF.o hB6w) ?_))
    have hmr:m=r.reverse.length:=by rw[List.length_reverse];exact HM.o
    have hL6:=HL.o.ext HX6.o;rw[hmr]at hL6;have hpop:=hL6.pop ((k':Int)+1);rw[←hmr]at hpop;have hcast:((k':Int)+1)=((k'+1:Nat):Int):=by omega
    have HPOP:=Hd (jbe.ahead HX6.o hpop);clear hpop hL6 hB6w q2b f2b hP6 q2 q3 f3
    obtain⟨hd2,hd4,hd5⟩:=HDD.o
    have hpsz:tp.size≤100000:=by
     obtain⟨q,hq⟩:=List.exists_mem_of_ne_nil _ hd2.ne
     have:=(hd2.key q hq).2
     rw[ByteArray.size_append]at this;rw[HTP.o];omega
    refine (jwE _ c s fr (.slice (some ⟨g,0,none⟩) m cap) r.reverse ((k':Int)+1) HPOP.o.at' (by rw[←hmr];omega) hf n HKD.o HRF.o tp (by have:=HPT.o;omega)).mono ?_;rintro e w9 ⟨rfl,v9,hT9⟩;have HT9:=Hd (HT.o.trans (HPOP.o.trans hT9));clear hT9;go_wp2_with fail
    obtain⟨Nl,hl1,hl2⟩:=jqc (Hs:=HasS S) fr hd2
    rw[←HN.o, ←HTP.o]at hl2;have hres:=HT9.o;rw[hcast]at hres;have hrev:r.reverse++layP fr n tp=((layP fr n tp).reverse++r).reverse:=by simp
    rw[hrev]at hres;go_roundw
    case rel =>
     refine⟨rfl,v9,(layP fr n tp).reverse++r,Nl+N2,k'+1,hres,hres.at',?_,?_,?_⟩
     ·rw[HRR.o,hd4, ←HTP.o];exact hl2.app HSK.o
     ·have h1:=HLK.o;have h2:=HNN.o;omega
     ·have h1:=jqd fr n tp;have h2:=HLEN.o;have h3:=HM.o
      rw[List.length_append,List.length_reverse];omega
    case measure =>
     have h1:=jkC hres.at';have h2:=jkC HI'.o.left;rw[h1,h2]
     have:=HLK.o;have:=HNN.o
     omega
end
end Go.Proofs.YtpaacnhboilkkaaGreatDoor
