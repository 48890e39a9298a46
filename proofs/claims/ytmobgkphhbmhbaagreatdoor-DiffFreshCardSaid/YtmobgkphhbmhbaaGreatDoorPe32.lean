/- Lemmas; each is under no condition but those that it states. -/
import Derived.Test.YtmobgkphhbmhbaaGreatDoorPe31
namespace Go.Proofs.YtmobgkphhbmhbaaGreatDoor
set_option linter.unusedSimpArgs false
set_option linter.unusedVariables false
set_option maxRecDepth 100000
set_option maxHeartbeats 16000000
open Go Go.RowKit
structure Kp(U:vM)(S:vT):Prop where
 is:∀ x∈S,∃ t∈U,x.1=ky t/\x.2.2.text=t/\x.2.2.refs=jaG (nodeOf t)
 cnt:Cnt S
 full:joW S
theorem Kp.none(U:vM):Kp U []:=⟨by simp,Cnt.none,fun x e=>by cases e⟩
theorem Kp.mono{U V:vM}{S:vT}(h:Kp U S)(hs:∀ t∈U,t∈V):Kp V S:=
 ⟨fun x o=>by obtain⟨t,q,e⟩:=h.is x o;exact⟨t,hs t q,e⟩,h.cnt,h.full⟩
theorem Kp.text{U:vM}{S:vT}(hU:InjL U)(h:Kp U S){t:vB}(ht:t∈U)(hk:ky t∈S.map (·.1)):∃ x,atL S (ky t)=some x/\x∈S/\x.2.2.text=t/\x.2.2.refs=jaG (nodeOf t):=by
 obtain⟨x,o⟩:=dB.1 (jdh.2 hk)
 obtain⟨q,z⟩:=jaF o
 obtain⟨E,e,H,J,K⟩:=h.is x q
 have:E=t:=jn6 hU e ht (H.symm.trans z)
 subst this
 exact⟨x,o,q,J,K⟩
theorem Kp.shut{U:vM}{S:vT}(hU:InjL U)(h:Kp U S){t:vB}(ht:t∈U)(hk:ky t∈S.map (·.1)){r:vB}(hr:r∈jaG (nodeOf t)):r.data.toList∈S.map (·.1):=by
 obtain⟨x,_,e,_,o⟩:=h.text hU ht hk
 exact h.cnt.shut r (cI.2 ⟨x,e,by rw[o];exact hr⟩)
def jvx(U:vM):Prop:=∀ t∈U,∃ n,jbj t n
theorem Kp.bd{U:vM}{S:vT}(h:Kp U S)(hl:S.length<=5000):∀ x∈S,0<=x.2.2.used/\x.2.2.used<=1000000000:=fun x e=>by
 have o:=h.cnt.used x e;have q:=jtr (jcs S) x.1;have z:=jl3 h.cnt.r16;omega
theorem jku(w:vW){U:vM}(hU:InjL U){S:vT}(h:Kp U S){m:vL}(hm:jat m=0)(hs:∀ t∈jaL m,t∈U)(e:ky (jau m).text∈S.map (·.1)):∀ t∈jaL m,ky t∈S.map (·.1):=
 juE w hm (fun k=>k.data.toList∈S.map (fun x:Nd5=>x.1)) (fun t o q r e=>h.shut hU (hs t o) q e) e
theorem Kp.has(w:vW){U:vM}(hU:InjL U){S:vT}(h:Kp U S){m:vL}(hm:jat m=0)(hs:∀ t∈jaL m,t∈U)(hr:ky (jau m).text∈S.map (·.1)):HasM S m:=
 ⟨hm,fun t e=>by
  have e:=(jaN (jam (jau m)) t).2 e
  obtain⟨x,o,_,q,_⟩:=h.text hU (hs t e) (jku w hU h hm hs hr t e)
  exact⟨x,o,q⟩⟩
theorem Kp.nodes{U:vM}{S:vT}(h:Kp U S)(hN:∀ t∈U,∃ n,jbj t n):∀ x∈S,∃ n,jbj x.2.2.text n:=fun x o=>by
 obtain⟨t,q,_,e,_⟩:=h.is x o
 rw[e];exact hN t q
theorem jdN{m:vL}(hm:jat m=0):jvx (jaL m):=fun t e=>by
 obtain⟨n,o,_⟩:=(jf5 hm).node t e
 exact⟨n,o⟩
structure Part(S:vT)(m:vL)(L:vM):Prop where
 ok:jat m=0
 head:L[0]?=some (jau m).text
 sub:∀ t∈L,t∈jaL m
 all:∀ t∈jaL m,t∈L\/ky t∈S.map (·.1)
theorem jon(S:vT){m:vL}(hm:jat m=0):Part S m (jaL m):=⟨hm,(jf5 hm).head,fun _ h=>h,fun _ h=>.inl h⟩
theorem Part.refs(w:vW){S:vT}{m:vL}{L:vM}(h:Part S m L){G:vT}(hG:G.map kvI=readG L){x r:vB}(o:r∈jb4 G x):has2 S G r:=by
 unfold jb4 at o;cases ha:atL G x.data.toList with
 | none=>rw[ha]at o;cases o
 | some y =>
  rw[ha]at o
  obtain⟨t,H,_,e⟩:=jc2 hG (jaF ha).1
  have o:r∈y.2.2.refs:=o;rw[e]at o
  obtain⟨n,E,q⟩:=(jf5 h.ok).node t (h.sub t H)
  have o:r∈jaG (nodeOf t):=o;rw[jcX w (jcu E) E]at o
  obtain⟨J,z,e⟩:=q r o
  subst e;rcases h.all J z with h1 | h1
  ·exact .inr (jln hG h1)
  ·exact .inl (jdh.2 h1)
theorem Part.why(w:vW){S:vT}{m:vL}{L:vM}(h:Part S m L){room k:Int}(hk:ju0 False room S L k):k=3/\room < (S.length:Int)+(L.length:Int):=by
 rcases hk with⟨_,e⟩ |⟨_,G,hG,x,r,hr,hno⟩ |⟨rfl,top,G,M,_,hG,hP,hroom⟩
 ·exact e.elim
 ·exact absurd (h.refs w hG hr) hno
 ·have e:=jhA (S:=S) (M:=M) (fun x o=>hP.at' o)
  have q:=(je6 L).2.2;rw[<-hG,bZ]at q
  exact⟨rfl,by omega⟩
theorem jlq(f:Nd5->Nd5)(hf:∀ x,(f x).1=x.1):∀ (L:vT) (k:Key),atL (L.map f) k=(atL L k).map f
 | [],k=>rfl
 | x :: L,k=>by
  unfold atL;rw[bJ,fS,fS,hf];cases e:decide (k=x.1)with
  | true=>rfl
  | false=>exact jlq f hf L k
theorem jk0(r:vB)(k:Key):cK [r] k=if k=r.data.toList then 1 else 0:=by
 have:=jhQ r [] k
 rw[this];unfold cK;simp
structure AddK(w:World)(U:vM)(S:vT)(m:vL)(L:vM)(S':vT):Prop where
 kp:Kp U S'
 key:∀ k,k∈S'.map (·.1)↔k∈S.map (·.1)\/∃ t∈jaL m,k=ky t
 held:∀ k,jik (atL S' k)=jik (atL S k)+if k=ky (jau m).text then 1 else 0
 sum:jb1 S'=jb1 S+1
 len:S'.length<=S.length+L.length
 blk:∀ x∈S',x.2.1∈S.map (·.2.1)\/w.heap.size<=x.2.1
 bd:∀ n:Int,0<=n->(∀ x∈S,x.2.2.held<=n)->∀ x∈S',x.2.2.held<=n+1
theorem Part.add(w:vW){U:vM}(hU:InjL U){S:vT}(hK:Kp U S){m:vL}{L:vM}(h:Part S m L)(hs:∀ t∈jaL m,t∈U)(hl:L.length<=1000){s bm:Nat}{room:Int}{G:vT}{M:vM}{e:Ending}{w':vW}(hA:AddY w s bm room S L (jau m).text G M e w') :
  AddK w U S m L (addS S G M (jau m).text):=by
 have O:=hA.path;have K:=hA.given;have hF:=jji K hA.nodes hl;have a3:((addS S G M (jau m).text).map (·.1)).Nodup:=hA.st.nd;have o:∀ x∈jcQ G (frK S M),x∈G/\(∃ t∈L,x.1=ky t/\x.2.2=itOf t)/\atL S x.1=none:=fun x q=>by
  obtain⟨Z,z,H,e⟩:=jbZ q
  exact⟨Z,jc2 K Z,by rw[e];exact (jfV.1 H).2⟩
 have a4:∀ x∈S++jcQ G (frK S M),∃ t∈U,x.1=ky t/\x.2.2.text=t/\x.2.2.refs=jaG (nodeOf t):=fun x q=>by
  rcases bO.1 q with q | q
  ·exact hK.is x q
  ·obtain⟨t,Q,e1,e2⟩:=(o x q).2.1
   exact⟨t,hs t (h.sub t Q),e1,by rw[e2];rfl,by rw[e2];rfl⟩
 have a0:Kp U (addS S G M (jau m).text):=by
  refine⟨fun x' a1=>?_,jvU hK.cnt K hF O,jtU hK.cnt hK.full K O⟩
  rw[jdg]at a1
  obtain⟨x,q,rfl⟩:=bC.1 a1
  exact a4 x q
 have E:ky (jau m).text∈(addS S G M (jau m).text).map (·.1):=by
  rw[jd5];exact jdh.1 (jiC O (by rw[O.is];exact bF))
 have a2:∀ k,atL (addS S G M (jau m).text) k=(atL (S++jcQ G (frK S M)) k).map (jkV ((frK S M).flatMap (jb4 G)) (shaB (jau m).text)):=fun k=>by
  rw[jdg];exact jlq (jkV ((frK S M).flatMap (jb4 G)) (shaB (jau m).text)) (fun _=>rfl) _ k
 refine⟨a0,fun k=>?_,fun k=>?_,jwX a3 K O,?_,fun x q=>?_,fun n hn hb=>jtY hb hn K⟩
 ·constructor
  ·intro J
   rw[jd5,bY,bO]at J;rcases J with J | J
   ·exact .inl J
   ·obtain⟨x,q,rfl⟩:=bC.1 J
    obtain⟨t,Q,e1,_⟩:=(o x q).2.1
    exact .inr ⟨t,h.sub t Q,e1⟩
  ·rintro (J |⟨t,Q,rfl⟩)
   ·rw[jd5,bY,bO];exact .inl J
   ·exact jku w hU a0 h.ok hs E t Q
 ·rw[a2]
  have H:(if k=ky (jau m).text then (1:Int)else 0)=((cK [shaB (jau m).text] k:Nat):Int):=by
   rw[jk0];unfold ky;split <;> rfl
  rw[H];unfold atL;rw[List.find?_append];cases hS:List.find? (fun x=>decide (k=x.1)) S with
  | some y =>
   have a5:=(jaF (L:=S) (k:=k) hS).2;show y.2.2.held+((cK [shaB (jau m).text] y.1:Nat):Int)=y.2.2.held+_;rw[a5]
  | none =>
   cases hP2:List.find? (fun x=>decide (k=x.1)) (jcQ G (frK S M))with
   | some y =>
    have hy:=jaF (L:=jcQ G (frK S M)) (k:=k) hP2
    obtain⟨t,Q,e1,e2⟩:=(o y hy.1).2.1
    show y.2.2.held+((cK [shaB (jau m).text] y.1:Nat):Int)=0+_;rw[hy.2,e2];rfl
   | none =>
    show (0:Int)=0+_;rw[jk0]
    have:k≠(shaB (jau m).text).data.toList:=fun e=>by
     have Z:=a2 k;have X:=jdh.2 E;unfold ky at X;rw[<-e,Z]at X;unfold atL at X;rw[List.find?_append,hS,hP2]at X;cases X
    rw[if_neg this];rfl
 ·have Z:=jry (S:=S) (G:=G) (M:=M) (top:=(jau m).text)
  have X:=jhA (S:=S) (M:=M) (fun x q=>O.at' q);have h3:=(je6 L).2.2;rw[<-K,bZ]at h3;omega
 ·rw[jdg]at q
  obtain⟨z,H,rfl⟩:=bC.1 q
  rcases bO.1 H with H | H
  ·exact .inl (bC.2 ⟨z,H,rfl⟩)
  ·exact .inr (hA.news z (o z H).1)
theorem Kp.drop{U:vM}{S S':vT}(h:Kp U S){w w':vW}{s bm:Nat}{room:Int}{y:Nd5}(hD:jvr w s bm room S S' y w'):Kp U S':=
 ⟨fun x e=>by
  obtain⟨z,o,q,_,E,H,_⟩:=hD.sub x e
  obtain⟨u,J,rfl⟩:=bC.1 o
  obtain⟨k1,K,O,Q,k5⟩:=jcZ y.2.1 (y.2.2.held - 1) u
  obtain⟨t,X,Z,f2,f3⟩:=h.is u J
  exact⟨t,X,by rw[q,O];exact Z,by rw[E,Q];exact f2,by rw[H,K];exact f3⟩,hD.cnt,hD.full⟩
theorem jpn{m:vL}(h:jat m=0):jam (jau m)=(jau m).text :: belowM m:=by
 rw[jjN h];show jam (.mk _ _)=_;rw[jam];rfl
theorem jup(S:vT){m:vL}(h:jat m=0):Part S m (newM S m):=
 ⟨h,rfl,fun t e=>(jaN _ _).2 (jrY h e),fun t e=>by
  have e:=(jaN (jam (jau m)) t).1 e;rw[jpn h]at e;unfold newM;rcases bK.1 e with rfl | e
  ·exact .inl bF
  ·cases hl:lackB S t with
   | true=>exact .inl (bD _ (cH.2 ⟨(jaN _ _).2 e,hl⟩))
   | false =>
    refine .inr (jdh.1 ?_);unfold lackB at hl;unfold ky;cases ha:atL S (shaB t).data.toList with
    | none=>rw[ha]at hl;cases hl
    | some x=>rfl⟩
theorem AddK.ahead{w w1:vW}{U:vM}{S:vT}{m:vL}{L:vM}{S':vT}(h:AddK w1 U S m L S')(hw:w.heap.size<=w1.heap.size):AddK w U S m L S':=
 ⟨h.kp,h.key,h.held,h.sum,h.len,fun x o=>(h.blk x o).imp id (fun e=>bL hw e),h.bd⟩
structure ComY(w:World)(s bm:Nat)(room:Int)(U:vM)(S:vT)(m:vL)(L:vM)(e:Ending)(w':World)(S':vT):Prop where
 res:e=.returned (.tuple #[.string (rootM m),.int .i64 0])
 st:jaz w' s bm room S'
 add:AddK w U S m L S'
 kp:jad (fun z=>z=bm\/z∈S.map (·.2.1)) w w'
 fits:(S'.length:Int)<=room\/room < S.length
def ComF(w:vW)(room:Int)(S:vT)(L:vM)(e:Ending)(w':vW):Prop:=e=.returned (.tuple #[.string ⟨#[]⟩,.int .i64 3])/\Ext w w'/\room < (S.length:Int)+(L.length:Int)
theorem jno(w0 w:vW){U:vM}(hU:InjL U){S:vT}(hK:Kp U S){m:vL}{L:vM}(hp:Part S m L)(hs:∀ t∈jaL m,t∈U)(hl:L.length<=1000){s bm:Nat}{room:Int}{e:Ending}{w':vW}(hE:Ext w0 w)(h:jkL False w s bm room S L e w') :
  ComF w0 room S L e w'\/∃ S',ComY w0 s bm room U S m L e w' S':=by
 rcases h with⟨k,hwhy,_,rfl,hE2⟩ |⟨top,G,M,htop,hY⟩
 ·obtain⟨rfl,z⟩:=hp.why w hwhy
  exact .inl ⟨rfl,hE.trans hE2,z⟩
 ·have o:top=(jau m).text:=by have:=hp.head;rw[htop]at this;exact bV this
  subst o;refine .inr ⟨_,hY.res,hY.st,(hp.add w hU hK hs hl hY).ahead hE.size,(hE.mono (fun _ _ e=>e.elim)).trans hY.kp,?_⟩;have E:=hY.fits;have q:=jry (S:=S) (G:=G) (M:=M) (top:=(jau m).text);have q:(jjR (shaB (jau m).text).data.toList (jet ((frK S M).flatMap (jb4 G)) (S++jcQ G (frK S M)))).length<=S.length+(frK S M).length:=q;omega
theorem jza(w:vW){U:vM}(hU:InjL U){S:vT}(hK:Kp U S){l:vL}{cs:List Chg}(h0:jbf l cs=0)(hs:∀ t∈jaL (ja9 l cs),t∈U){s bm:Nat}{room:Int}{e:Ending}{w':vW}(h:ComP w s bm room S l cs e w') :
  ComF w room S (newM S (ja9 l cs)) e w'\/∃ S',ComY w s bm room U S (ja9 l cs) (newM S (ja9 l cs)) e w' S':=by
 rcases h with⟨h1,_⟩ |⟨_,w1,hE,h⟩
 ·exact absurd h0 h1
 ·have o:jat (ja9 l cs)=0:=jdD h0
  exact jno w w1 hU hK (jup S o) hs (by have:=jrX (S:=S) o;omega) hE h
theorem jts(w:vW){U:vM}(hU:InjL U){S:vT}(hK:Kp U S){l:vL}{cs:List Chg}(h0:jbf l cs=0)(hs:∀ t∈jaL (ja9 l cs),t∈U){s bm:Nat}{room:Int}{e:Ending}{w':vW}(h:ComP w s bm room S l cs e w')(hr:(S.length:Int)+((newM S (ja9 l cs)).length:Int)<=room) :
  ∃ S',ComY w s bm room U S (ja9 l cs) (newM S (ja9 l cs)) e w' S':=by
 rcases jza w hU hK h0 hs h with⟨_,_,h3⟩ | h3
 ·omega
 ·exact h3
theorem AddK.more{w:vW}{U:vM}(hU:InjL U){S:vT}{m:vL}{L:vM}{S':vT}(h:AddK w U S m L S'){l:vL}(hl:∀ t∈jaL l,t∈U)(hM:HasM S l):HasM S' l:=
 h.kp.has w hU hM.ok hl ((h.key _).2 (.inl (by
  obtain⟨x,e,_⟩:=hM.has _ (jbB _)
  exact jdh.1 (by rw[e];rfl))))
theorem AddK.has{w:vW}{U:vM}(hU:InjL U){S:vT}{m:vL}{L:vM}{S':vT}(h:AddK w U S m L S')(hm:jat m=0)(hl:∀ t∈jaL m,t∈U):HasM S' m:=
 h.kp.has w hU hm hl ((h.key _).2 (.inr ⟨_,bI (jf5 hm).head,rfl⟩))
section
attribute [local go_sem] Oper.semAt_some
def twP:vL:=[(⟨#[97]⟩,⟨#[49]⟩),(⟨#[98]⟩,⟨#[50]⟩)]
theorem tw_p:jat twP=0:=by decide +kernel
theorem jl8{m:vL}(h:jat m=0):jcR m=m:=jgz (jiF (jgf h).2.nodup) (jgf h).2 (jrD m)
theorem jw1:jaL twP=[(jau twP).text]:=by decide +kernel
theorem jwu{S:vT}{m:vL}(h:belowM m=[]):newM S m=[(jau m).text]:=by unfold newM;rw[h];rfl
theorem juv(w:vW)(xs:List Chg)(T:TypeId):RdC (w.alloc (.cells (jdR xs).toArray T)) (.slice (some ⟨w.heap.size,0,none⟩) xs.length xs.length) xs:=
 .inr ⟨w.heap.size,0,xs.length,rfl,by simp,bM _,fun j x e=>by
  obtain⟨o,q,z⟩:=jcT xs j x e
  exact⟨by rw[cL];exact (Blk.new w _).cellL o,by rw[cL];exact (Blk.new w _).cellL q,by rw[cL];exact (Blk.new w _).cellL z⟩⟩
theorem juw(w:vW)(xs:vL)(T:TypeId):RdP (w.alloc (.cells (jb2 xs).toArray T)) (.slice (some ⟨w.heap.size,0,none⟩) xs.length xs.length) xs:=by
 refine .inr ⟨_,0,_,rfl,(Blk.new w _).lt,bM _,fun j x e=>?_⟩
 obtain⟨o,q⟩:=jdw xs j x e
 exact⟨by rw[cL];exact (Blk.new w _).cellL o,by rw[cL];exact (Blk.new w _).cellL q⟩
theorem jzn{U:vM}{S:vT}(h:Kp U S){k:vB}(hk:k.size≠32):atL S k.data.toList=none:=by
 cases ha:atL S k.data.toList with
 | none=>rfl
 | some y =>
  obtain⟨q,z⟩:=jaF ha
  obtain⟨t,_,e,_⟩:=h.is y q
  have o:=congrArg List.length (z.symm.trans e);have E:(ky t).length=32:=jbi t;rw[E,jaO]at o;exact absurd o hk
structure jfF(l:vL)(w:World)(s bm:Nat)(S:vT)(w':World):Prop where
 ext:Ext w w'
 st:jaz w' s bm 2000 S
 add:∃ W,AddK W (jaL l) [] l (jaL l) S
 few:fewB l=true
 inj:InjL (jaL l)
 ok:jat l=0
 bnew:w.heap.size<=bm
 snew:w.heap.size<=s
 ne:s≠bm
 new:∀ x∈S,w.heap.size<=x.2.1
def js2(l:vL)(w:vW)(e:Ending)(w':vW):Prop:=∃ s bm S,e=.returned (.tuple #[.pointer (some ⟨s,0,none⟩),.string (shaB (jau l).text)])/\jfF l w s bm S w'
def jxo(l:vL)(w:vW)(e:Ending)(w':vW):Prop:=jxn l w e w'\/js2 l w e w'
theorem jfF.key{l:vL}{w w':vW}{s bm:Nat}{S:vT}(h:jfF l w s bm S w')(k:Key):k∈S.map (·.1)↔∃ t∈jaL l,k=ky t:=by
 obtain⟨W,e⟩:=h.add
 rw[e.key];simp
theorem jfF.kp{l:vL}{w w':vW}{s bm:Nat}{S:vT}(h:jfF l w s bm S w'):Kp (jaL l) S:=by
 obtain⟨W,e⟩:=h.add
 exact e.kp
theorem jfF.has{l:vL}{w w':vW}{s bm:Nat}{S:vT}(h:jfF l w s bm S w'):HasM S l:=
 h.kp.has w h.inj h.ok (fun _ h=>h) ((h.key _).2 ⟨_,bI (jf5 h.ok).head,rfl⟩)
theorem jfF.held{l:vL}{w w':vW}{s bm:Nat}{S:vT}(h:jfF l w s bm S w')(k:Key):jik (atL S k)=if k=ky (jau l).text then 1 else 0:=by
 obtain⟨W,e⟩:=h.add
 rw[e.held];show (0:Int)+_=_;omega
theorem jfF.len{l:vL}{w w':vW}{s bm:Nat}{S:vT}(h:jfF l w s bm S w'):S.length<=121:=by
 obtain⟨W,e⟩:=h.add
 have o:=e.len;have q:=jc0 h.ok;simp at o;omega
theorem jfF.hb{l:vL}{w w':vW}{s bm:Nat}{S:vT}(h:jfF l w s bm S w'):∀ x∈S,x.2.2.held<=1:=by
 obtain⟨W,e⟩:=h.add
 exact e.bd 0 vO (fun x o=>by cases o)
theorem jn0(w:vW)(hc:jbS w)(he:ErrT w)(v:vV)(l:vL)(hv:RdP w v l)(hn:l.length<=9223372036854775807)(hs:jga l) :
  vQ 53 #[v] w (jxo l w):=by
 have HC:=Hd hc;have b7:=Hd he;have HV:=Hd hv;have HS:=Hd hs;have HN:=Hd hn
 obtain⟨a,c,rfl⟩:=hv.sl;clear hc hv hs hn he;go_enter Tryz.func53,Tryz.ntmps53;go_wp2_with fail
 refine vH (jvd w _ l HV.o HN.o HS.o) fun w2 K=>?_
 obtain⟨fw,a0⟩:=vE (fewB l)
 have a7:=Hd a0;rw[<-a0];clear a0
 by_cases hcl:jat l=0
 case neg =>
  go_wp2_with fail
  refine vH (jlK w2 _ l (HV.o.ext K.o) HN.o HS.o hcl) fun w3 J=>?_;have Q:=Hd (K.o.trans J);have a8:=Hd hcl
  obtain⟨x,Z⟩:=vE (jat l)
  rw[<-Z]at hcl ⊢;have c8:(x == 0)=false:=by simpa using hcl
  have c7:(x != 0)=true:=by simpa using hcl
  clear hcl Z K;go_wp2_with fail
  refine (jvm w3 2000).mono ?_;rintro e w4 ⟨s,bm,rfl,J,_,_,_,_⟩;have O:=Hd (Q.o.trans J);clear J Q;go_wp2_with fail
  refine (jmr w4 (HC.o.ext O.o) _ [] (.inl ⟨none,0,rfl,rfl⟩) (by simp)).mono ?_;rintro e w5 ⟨b,rfl,_,J⟩;have E:=Hd (O.o.trans J);clear J O;cases fw with
  | false =>
   go_wp2_with fail
   go_ret2;exact .inl ⟨rfl,E.o,fun h=>a8.o h.2.1⟩
  | true =>
   go_wp2_with fail
   go_ret2;exact .inl ⟨rfl,E.o,fun h=>a8.o h.2.1⟩
 have q:=Hd hcl;clear hcl;go_wp2_with fail
 refine (joi w2 _ l (HC.o.ext K.o) (HV.o.ext K.o) q.o).mono ?_;rintro e w3 ⟨u3,n3,rfl,hR⟩;have hR:SRow w2 w3 u3 n3 (jaL l):=hR
 obtain⟨L,hL⟩:=vE (jaL l)
 have a5:=jc0 q.o;have X:=Hd hL;rw[<-hL]at hR a5;have b8:L.length=n3:=by have:=hR.len;simpa using this
 have a9:=hR.rd
 obtain⟨a3,c3,e3⟩:=hR.sl
 have Q:=Hd (K.o.trans hR.ext);subst e3;have b0:=Hd a9;subst b8;clear hR a9 K hL;go_wp2_with fail
 refine (jvm w3 2000).mono ?_;rintro e w4 ⟨s,bm,rfl,J,hS,b1,b2,b3⟩;have O:=Hd (Q.o.trans J);have HZ:=Hd (bB Q.o.size b1);have b4:=Hd (bB b2 b3);have b5:=Hd (show jaz w4 s bm 2000 []from hS);have a1:=Hd (b0.o.ext J);clear J hS Q b0 b1 b2 b3;go_wp2_with fail
 refine (jmr w4 (HC.o.ext O.o) _ L a1.o vO).mono ?_;rintro e w5 ⟨b,rfl,hb,J⟩;have E:=Hd (O.o.trans J);have b9:=Hd (b5.o.ext J);have c0:=Hd (a1.o.ext J);have HB:=Hd hb;clear J O b5 a1 hb;cases fw with
 | false =>
  go_wp2_with fail
  go_ret2;exact .inl ⟨rfl,E.o,fun h=>by have:=a7.o;rw[h.1]at this;cases this⟩
 | true =>
  cases b with
  | false =>
   go_wp2_with fail
   go_ret2;refine .inl ⟨rfl,E.o,fun h=>?_⟩
   have:=HB.o.2 (by rw[X.o];exact h.2.2)
   cases this
  | true =>
   have HI:=Hd (show InjL (jaL l) by rw[<-X.o];exact HB.o.1 rfl);have c1:=Hd (show jxF L by rw[X.o];exact jpS w q.o (by have:=jc0 q.o;exact bL this vI));have b6:=Hd (show L[0]?=some (jau l).text by rw[X.o];exact (jf5 q.o).head)
   obtain⟨tp,a2⟩:=vE (jau l).text
   rw[<-a2]at b6;have c9:=Hd a2;clear a2;go_wp2_with fail
   have c2:=Hd (jgK c1.o.node);refine (jmo w5 (HC.o.ext E.o) (b7.o.ext E.o) s bm 2000 [] b9.o _ L c0.o False c2.o (by have:=jc0 q.o;rw[X.o];omega) tp b6.o vI vI (by simp) (fun x Z=>by cases Z) (fun x Z=>by cases Z)).mono ?_;rintro e w6 hP;rw[X.o]at hP;have H:=jon [] q.o;rcases hP with⟨k,hwhy,_,_,_⟩ |⟨top,G,M,htop,hY⟩
   ·have h1:=(H.why w hwhy).2
    have h2:=jc0 q.o;simp at h1;omega
   have a6:top=(jau l).text:=by have:=H.head;rw[htop]at this;exact bV this
   subst a6;have hK:=H.add w5 HI.o (Kp.none _) (fun _ h=>h) (by have:=jc0 q.o;omega) hY;have c4:=hY.res;subst c4;have HF:=Hd (bB hY.st hK);have a4:=hY.kp;have c5:=Hd (E.o.trans' a4 (fun z hz e=>by
    rcases e with e | e
    ·have:=HZ.o;omega
    ·simp at e))
   have c6:=Hd (bB E.o.size a4.size);clear hY hK a4 htop H;go_wp2_with fail
   go_ret2;exact .inr ⟨s,bm,_,rfl,⟨c5.o,HF.o.1,⟨w5,HF.o.2⟩,a7.o.symm,HI.o,q.o,by have:=HZ.o;omega,by have:=HZ.o;have:=b4.o;omega,b4.o.2,fun x Z=>by
    rcases HF.o.2.blk x Z with h | h
    ·simp at h
    ·have:=c6.o;omega⟩⟩
structure Tst(W0 W:World)(s bm:Nat)(room:Int)(U:vM)(S:vT)(n:Nat):Prop where
 ext:Ext W0 W
 st:jaz W s bm room S
 kp:Kp U S
 len:S.length<=n
 bnew:W0.heap.size<=bm
 new:∀ x∈S,W0.heap.size<=x.2.1
 hb:∀ x∈S,x.2.2.held<=n
theorem Tst.grow{W0 W W':vW}{s bm:Nat}{room:Int}{U:vM}{S:vT}{n:Nat}(h:Tst W0 W s bm room U S n)(k:Ext W W'):Tst W0 W' s bm room U S n:=
 ⟨h.ext.trans k,h.st.ext k,h.kp,h.len,h.bnew,h.new,h.hb⟩
theorem Tst.more{W0 W:vW}{s bm:Nat}{room:Int}{U V:vM}{S:vT}{n:Nat}(h:Tst W0 W s bm room U S n)(hs:∀ t∈U,t∈V):Tst W0 W s bm room V S n:=
 ⟨h.ext,h.st,h.kp.mono hs,h.len,h.bnew,h.new,h.hb⟩
theorem Tst.bds{W0 W:vW}{s bm:Nat}{room:Int}{U:vM}{S:vT}{n:Nat}(h:Tst W0 W s bm room U S n)(hn:n<=5000):S.length<=100000/\(∀ x∈S,0<=x.2.2.used/\x.2.2.used<=1000000000)/\(∀ x∈S,0<=x.2.2.held/\x.2.2.held<=1000000000):=
 ⟨by have:=h.len;omega,h.kp.bd (by have:=h.len;omega),fun x e=>⟨h.kp.cnt.held x e,by have:=h.hb x e;omega⟩⟩
theorem Tst.add{W0 W W':vW}{s bm:Nat}{room:Int}{U:vM}{S S':vT}{n k:Nat}{m:vL}{L:vM}{e:Ending}(h:Tst W0 W s bm room U S n)(hL:L.length<=k)(h1:1<=k)(hY:ComY W s bm room U S m L e W' S'):Tst W0 W' s bm room U S' (n+k):=
 ⟨h.ext.trans' hY.kp (fun z E e=>by
  rcases e with e | e
  ·have:=h.bnew;omega
  ·obtain⟨y,o,e⟩:=bC.1 e
   have:=h.new y o;omega),hY.st,hY.add.kp,by have:=hY.add.len;have:=h.len;omega,h.bnew,fun x q=>by
  rcases hY.add.blk x q with e | e
  ·obtain⟨y,o,e⟩:=bC.1 e
   have:=h.new y o;omega
  ·have:=h.ext.size;omega,fun x q=>by
   have:=hY.add.bd n vO h.hb x q
   omega⟩
theorem jfF.tst{l:vL}{w w':vW}{s bm:Nat}{S:vT}(h:jfF l w s bm S w'):Tst w w' s bm 2000 (jaL l) S 121:=
 ⟨h.ext,h.st,h.kp,h.len,h.bnew,h.new,fun x e=>by have:=h.hb x e;omega⟩
end
def dwQ:vL:=[(⟨#[98]⟩,⟨#[50]⟩),(⟨#[99]⟩,⟨#[51]⟩)]
def dwC:List Chg:=[⟨⟨#[97]⟩,⟨#[]⟩,true⟩,⟨⟨#[99]⟩,⟨#[51]⟩,false⟩]
theorem dw_q:jat dwQ=0:=by decide +kernel
theorem dw_e:jbf twP dwC=0:=by decide +kernel
theorem dw_a:ja9 twP dwC=dwQ:=by unfold ja9;rw[show jeK twP dwC=dwQ by decide +kernel,jl8 dw_q]
theorem jzf:jbf twP []=0:=by decide +kernel
theorem jzb:ja9 twP []=twP:=by unfold ja9;rw[show jeK twP []=twP by decide +kernel,jl8 tw_p]
def dwU:vM:=[(jau twP).text,(jau dwQ).text]
theorem dw_t:jaL dwQ=[(jau dwQ).text]:=by decide +kernel
theorem jq0:∀ t∈jaL twP,t∈dwU:=by rw[jw1];intro t e;rw[bS.1 e];simp[dwU]
theorem jxZ:∀ t∈jaL dwQ,t∈dwU:=by rw[dw_t];intro t e;rw[bS.1 e];simp[dwU]
theorem jjb:InjL dwU:=by unfold InjL;decide +kernel
theorem jnL:jvx dwU:=fun t e=>by
 rcases bK.1 e with rfl | e
 ·exact jdN tw_p _ (by rw[jw1];exact bF)
 ·rw[bS.1 e]
  exact jdN dw_q _ (by rw[dw_t];exact bF)
theorem dw_b:belowM dwQ=[]:=by rw[jjN dw_q];decide +kernel
theorem jxY:fewB twP=true:=by decide +kernel
theorem jv1:InjL (jaL twP):=fun x o y q e=>jjb x (jq0 x o) y (jq0 y q) e
theorem jx2:rootM dwQ≠rootM twP:=by unfold rootM;decide +kernel
theorem jx0:jbH ⟨#[97]⟩ ⟨#[98]⟩=true:=by decide +kernel
theorem jpi:jbH ⟨#[98]⟩ ⟨#[98]⟩=false:=by decide +kernel
theorem jzg:jbH ⟨#[98]⟩ ⟨#[97]⟩=false:=by decide +kernel
theorem jx1:jbH ⟨#[97]⟩ ⟨#[97]⟩=false:=by decide +kernel
theorem jv2:((⟨#[50]⟩:vB).toList ==(⟨#[50]⟩:vB).toList)=true:=by decide +kernel
theorem jzj:((⟨#[49]⟩:vB).toList ==(⟨#[49]⟩:vB).toList)=true:=by decide +kernel
theorem jzc:jb3 twP dwQ=dwC:=by
 unfold jb3;rw[if_pos ⟨tw_p,dw_q⟩];unfold twP dwQ dwC;rw[jaW,if_pos jx0,jaW,if_neg (by rw[jpi];simp),if_neg (by rw[jpi];simp),if_pos jv2];simp[jaW]
theorem jzd:jb3 dwQ twP=[⟨⟨#[97]⟩,⟨#[49]⟩,false⟩,⟨⟨#[99]⟩,⟨#[]⟩,true⟩]:=by
 unfold jb3;rw[if_pos ⟨dw_q,tw_p⟩];unfold twP dwQ;rw[jaW,if_neg (by rw[jzg];simp),if_pos jx0,jaW,if_neg (by rw[jpi];simp),if_neg (by rw[jpi];simp),if_pos jv2];simp[jaW]
theorem jze:jb3 twP twP=[]:=by
 unfold jb3;rw[if_pos ⟨tw_p,tw_p⟩];unfold twP;rw[jaW,if_neg (by rw[jx1];simp),if_neg (by rw[jx1];simp),if_pos jzj,jaW,if_neg (by rw[jpi];simp),if_neg (by rw[jpi];simp),if_pos jv2];simp[jaW]
theorem jb0{l:vL}{t:vB}:t∈jam (jau l)↔t∈jaL l:=(jaN _ _).symm
theorem dw_f{B:vM}(h:jp3 twP dwQ B):B=[rootM dwQ]:=by
 have e:∀ k,k∈B↔k=rootM dwQ:=fun k=>by
  rw[h.2];constructor
  ·rintro⟨⟨t,o,rfl⟩,_⟩
   rw[jb0,dw_t]at o;rw[bS.1 o];rfl
  ·rintro rfl
   refine⟨⟨_,jbB _,rfl⟩,?_⟩
   rintro⟨t,o,e⟩
   rw[jb0,jw1]at o;rw[bS.1 o]at e;exact jx2 e
 have q:=h.1
 match B,q,e with
 | [],_,e=>exact absurd ((e (rootM dwQ)).2 rfl) cM
 | [x],_,e=>rw[(e x).1 bF]
 | x :: y :: r,q,e =>
  have z:=(e x).1 bF;have E:=(e y).1 (bD _ bF);rw[cZ]at q;exact absurd (by rw[z, <-E];exact bF:x∈y :: r) q.1
theorem dw_s:baL (jcS ([rootM dwQ].map fun h=>h.data.toList))=[rootM dwQ]:=by
 unfold baL jcS
 simp
theorem jqZ:∀ c∈dwC,c.key.size<=9223372036854775807/\c.value.size<=9223372036854775807:=by unfold dwC;simp;decide
theorem jx3:jga twP:=fun p e=>by have:=(jaw tw_p).size p e;omega
theorem jv8{d:Option TypeDesc}(h:jgS d [(false,9,0),(false,9,1),(false,4,2)]=true):∃ f g e:Field,d=some (.struct #[f,g,e])/\(f.name ≠ "_"/\f.type=9/\f.offset=0)/\(g.name ≠ "_"/\g.type=9/\g.offset=1)/\e.name ≠ "_"/\e.type=4/\e.offset=2:=by
 cases d with
 | none=>cases h
 | some d =>
  cases d <;> try (cases h;done)
  rename_i fs
  obtain⟨l⟩:=fs
  rcases l with _ |⟨f,_ |⟨g,_ |⟨e,_ |⟨z,r⟩⟩⟩⟩ <;> simp[jgS]at h
  obtain⟨o,q,E⟩:=h
  exact⟨f,g,e,rfl,o,q,E⟩
theorem Tryz.chgFields:jgS (Tryz.prog.underlying 59) [(false,9,0),(false,9,1),(false,4,2)]=true:=vY
theorem Tryz.chgHeld:Tryz.prog.stoodInHeld 59=false:=vY
theorem Tryz.boolAgg(w:vW):(isAgg 4).run Tryz.prog w=.ok false w:=vY
theorem jx6(d:Nat)(a b:Bool)(w:vW):(Op.equalIn (d+1) 4 (.bool a) (.bool b)).run Tryz.prog w=.ok (a == b) w:=by
 simp[Op.equalIn,bT,run_underlying Tryz.underlying4,Result.andThen,cJ]
theorem juI(x:vB):(x == x)=true:=by rw[jhN];simp
theorem jwt(x y:vB)(g:Bool)(w:vW):(binOp .neq 59 (.agg #[.string x,.string y,.bool g]) (.agg #[.string x,.string y,.bool g])).run Tryz.prog w=.ok (.bool false) w:=by
 obtain⟨f,k,e,J,⟨K,O,Q⟩,⟨X,Z,h6⟩,h7,h8,h9⟩:=jv8 Tryz.chgFields
 have o:∀ (u v z:vV) w,(part 9 #[u,v,z] 0).run Tryz.prog w=.ok u w:=fun u v z w=>by
  simp[part,bT,Tryz.strAgg,Result.andThen,cJ]
 have q:∀ (u v z:vV) w,(part 9 #[u,v,z] 1).run Tryz.prog w=.ok v w:=fun u v z w=>by
  simp[part,bT,Tryz.strAgg,Result.andThen,cJ]
 have E:∀ (u v z:vV) w,(part 4 #[u,v,z] 2).run Tryz.prog w=.ok z w:=fun u v z w=>by
  simp[part,bT,Tryz.boolAgg,Result.andThen,cJ]
 have he:∀ d,(Op.equalIn (d+2) 59 (.agg #[.string x,.string y,.bool g]) (.agg #[.string x,.string y,.bool g])).run Tryz.prog w=.ok true w:=fun d=>by
  rw[Op.equalIn];simp only[bT,run_underlying J,Result.andThen];simp[bT,Result.andThen,Sem.run,Tryz.chgHeld,K,O,Q,X,Z,h6,h7,h8,h9,o,q,E,jv6,jx6,juI]
 have H:(Op.equal 59 (.agg #[.string x,.string y,.bool g]) (.agg #[.string x,.string y,.bool g])).run Tryz.prog w=.ok true w:=he 9998;simp only[binOp,bT,H,Result.andThen,cJ];rfl
theorem Tryz.isChange:jgo (Tryz.prog.underlying 59)=true:=vY
theorem Tryz.szChange:(Tryz.prog.info? 59).map (·.size)=some 3:=vY
theorem jn9{w:vW}{b o:Nat}{x y:vB}{g:Bool}(h1:w.cell? ⟨b,o,none⟩=some (.string x))(h2:w.cell? ⟨b,o+1,none⟩=some (.string y))(h3:w.cell? ⟨b,o+2,none⟩=some (.bool g)):(Instr.loadAt 59 (.pointer (some ⟨b,o,none⟩))).run Tryz.prog w=.ok (.agg #[.string x,.string y,.bool g]) w:=by
 obtain⟨z,q⟩:=jfC Tryz.isChange
 refine jdX (xs:=[.string x,.string y,.bool g]) q Tryz.szChange (fun j v e=>?_);rw[Addr.add_lit]
 match j,e with
 | 0,e=>simp at e;subst e;exact h1
 | 1,e=>simp at e;subst e;exact h2
 | 2,e=>simp at e;subst e;exact h3
 | j+3,e=>simp at e
def jyX(w:vW)(l:List Chg)(v:vV)(wr:vW):Prop:=∃ i:Nat,i<=l.length/\v=.int .i64 i/\Ext w wr
theorem jwT(w:vW)(v u:vV)(l:List Chg)(hv:RdC w v l)(hu:RdC w u l)(hn:l.length<=1000000):vR 25 #[v,u] w (.bool true):=by
 obtain⟨a,c,E⟩:=hv.sl
 obtain⟨a',c',z⟩:=hu.sl
 have HV:=Hd hv;have HU:=Hd hu;subst E;subst z;clear hv hu;go_enter Tryz.func25,Tryz.ntmps25;go_wp2_with fail
 go_loopw [5] (fun i wr=>jyX w l i wr) (fun i _=>l.length - (intOf i).toNat)
 case atStart=>exact⟨0,by omega,rfl,ExtR w⟩
 case round =>
  obtain⟨i,hi,rfl,X⟩:=hrel
  have q:=Hd X;clear X
  by_cases hlt:i < l.length
  ·rcases HV.o with⟨_,_,_,h0⟩ |⟨b,o,c1,hh,hb,hc,hcell⟩
   ·rw[h0]at hlt;cases hlt
   rcases HU.o with⟨_,_,_,h0⟩ |⟨b',o',c2,hh',hb',hc',hcell'⟩
   ·rw[h0]at hlt;cases hlt
   cases hh;cases hh'
   obtain⟨p,H⟩:∃ p,l[i]?=some p:=⟨_,bA hlt⟩
   obtain⟨Z,q2,q3⟩:=hcell i p H
   obtain⟨q4,q5,q6⟩:=hcell' i p H
   have J:Hid (∀ w1,Ext wr w1->(Instr.loadAt 59 (.pointer (some ⟨b,o+i * 3,none⟩))).run Tryz.prog w1=.ok (.agg #[.string p.key,.string p.value,.bool p.gone]) w1):=fun w1 e=>jn9 (jaa Z (q.o.trans e)) (jaa q2 (q.o.trans e)) (jaa q3 (q.o.trans e));have K:Hid (∀ w1,Ext wr w1->(Instr.loadAt 59 (.pointer (some ⟨b',o'+i * 3,none⟩))).run Tryz.prog w1=.ok (.agg #[.string p.key,.string p.value,.bool p.gone]) w1):=fun w1 e=>jn9 (jaa q4 (q.o.trans e)) (jaa q5 (q.o.trans e)) (jaa q6 (q.o.trans e));have O:=Hd (fun w=>jwt p.key p.value p.gone w);have b1:(i:Int) < (l.length:Int):=vO
   clear hcell hcell' H Z q2 q3 q4 q5 q6 hc hc' hb hb';go_wp2_with fail
   refine jai [0,1,2,3,4,5,6,7,8] Ext ExtR ExtT vY vY vY ?_;iterate 3 refine vK ?_
   refine qKL ⟨b,o+i * 3,none⟩ _ rfl (fun w1 e=>J.o w1 ((jaj wr).trans e)) ?_;refine vS ?_;iterate 3 refine vK ?_
   refine qKL ⟨b',o'+i * 3,none⟩ _ rfl (fun w1 e=>K.o w1 ((jaj wr).trans e)) ?_;refine vS ?_;refine qKV _ (.bool false) rfl (fun w1 e=>jtO rfl rfl vY (O.o w1)) ?_;refine vS ?_;refine qKE (fun w3 he=>?_);have Q:=Hd ((q.o.trans (jaj wr)).trans he);clear he;go_wp2_with fail
   go_roundw
   case rel=>exact⟨i+1,by omega,by go_num,Q.o⟩
   case measure=>exact vJ
  ·have b1:¬(i:Int) < (l.length:Int):=vO
   go_wp2_with fail
   go_ret
   exact⟨rfl,q.o⟩
end Go.Proofs.YtmobgkphhbmhbaaGreatDoor
