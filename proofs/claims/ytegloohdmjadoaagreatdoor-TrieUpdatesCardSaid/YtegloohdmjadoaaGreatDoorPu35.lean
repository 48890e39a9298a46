/- Lemmas; each is under no condition but those that it states. -/
import Derived.Test.YtegloohdmjadoaaGreatDoorPu34
namespace Go.Proofs.YtegloohdmjadoaaGreatDoor
set_option linter.unusedSimpArgs false
set_option linter.unusedVariables false
set_option maxRecDepth 100000
set_option maxHeartbeats 16000000
section
open Go Go.RowKit
structure Kp(U:vM)(S:vT):Prop where
 is:∀ x∈S,∃ t∈U,x.1=ky t/\x.2.2.text=t/\x.2.2.refs=jaZ (nodeOf t)
 cnt:Cnt S
 full:jqF S
theorem Kp.none(U:vM):Kp U []:=⟨by simp,Cnt.none,fun x e=>by cases e⟩
theorem Kp.mono{U V:vM}{S:vT}(h:Kp U S)(hs:∀ t∈U,t∈V):Kp V S:=
 ⟨fun x m=>by obtain⟨t,o,e⟩:=h.is x m;exact⟨t,hs t o,e⟩,h.cnt,h.full⟩
theorem Kp.text{U:vM}{S:vT}(hU:InjL U)(h:Kp U S){t:vB}(ht:t∈U)(hk:ky t∈S.map (·.1)):∃ x,atL S (ky t)=some x/\x∈S/\x.2.2.text=t/\x.2.2.refs=jaZ (nodeOf t):=by
 obtain⟨x,m⟩:=dG.1 (jdo.2 hk)
 obtain⟨o,A⟩:=ja7 m
 obtain⟨E,e,H,J,K⟩:=h.is x o
 have:E=t:=jzj hU e ht (H.symm.trans A)
 subst this
 exact⟨x,m,o,J,K⟩
theorem Kp.shut{U:vM}{S:vT}(hU:InjL U)(h:Kp U S){t:vB}(ht:t∈U)(hk:ky t∈S.map (·.1)){r:vB}(hr:r∈jaZ (nodeOf t)):r.data.toList∈S.map (·.1):=by
 obtain⟨x,_,e,_,m⟩:=h.text hU ht hk
 exact h.cnt.shut r (fA.2 ⟨x,e,by rw[m];exact hr⟩)
def jtO(U:vM):Prop:=∀ t∈U,∃ n,jbC t n
theorem Kp.bd{U:vM}{S:vT}(h:Kp U S)(hl:S.length<=5000):∀ x∈S,0<=x.2.2.used/\x.2.2.used<=1000000000:=fun x e=>by
 have m:=h.cnt.used x e;have o:=jyU (jgB S) x.1;have A:=js3 h.cnt.r16;omega
theorem jo4(w:vW){U:vM}(hU:InjL U){S:vT}(h:Kp U S){m:vL}(hm:jaD m=0)(hs:∀ t∈jaV m,t∈U)(e:ky (jaF m).text∈S.map (·.1)):∀ t∈jaV m,ky t∈S.map (·.1):=
 jvs w hm (fun k=>k.data.toList∈S.map (fun x:Nd5=>x.1)) (fun t o A r e=>h.shut hU (hs t o) A e) e
theorem Kp.has(w:vW){U:vM}(hU:InjL U){S:vT}(h:Kp U S){m:vL}(hm:jaD m=0)(hs:∀ t∈jaV m,t∈U)(hr:ky (jaF m).text∈S.map (·.1)):HasM S m:=
 ⟨hm,fun t e=>by
  have e:=(jbb (jaB (jaF m)) t).2 e
  obtain⟨x,o,_,A,_⟩:=h.text hU (hs t e) (jo4 w hU h hm hs hr t e)
  exact⟨x,o,A⟩⟩
theorem Kp.nodes{U:vM}{S:vT}(h:Kp U S)(hN:∀ t∈U,∃ n,jbC t n):∀ x∈S,∃ n,jbC x.2.2.text n:=fun x m=>by
 obtain⟨t,o,_,e,_⟩:=h.is x m
 rw[e];exact hN t o
theorem jcM{m:vL}(hm:jaD m=0):jtO (jaV m):=fun t e=>by
 obtain⟨n,o,_⟩:=(jk2 hm).node t e
 exact⟨n,o⟩
structure Part(S:vT)(m:vL)(L:vM):Prop where
 ok:jaD m=0
 head:L[0]?=some (jaF m).text
 sub:∀ t∈L,t∈jaV m
 all:∀ t∈jaV m,t∈L\/ky t∈S.map (·.1)
theorem joS(S:vT){m:vL}(hm:jaD m=0):Part S m (jaV m):=⟨hm,(jk2 hm).head,fun _ h=>h,fun _ h=>.inl h⟩
theorem Part.refs(w:vW){S:vT}{m:vL}{L:vM}(h:Part S m L){G:vT}(hG:G.map kvI=readG L){x r:vB}(o:r∈jbZ G x):has2 S G r:=by
 unfold jbZ at o;cases ha:atL G x.data.toList with
 | none=>rw[ha]at o;cases o
 | some y =>
  rw[ha]at o
  obtain⟨t,J,_,e⟩:=jcG hG (ja7 ha).1
  have o:r∈y.2.2.refs:=o;rw[e]at o
  obtain⟨n,H,A⟩:=(jk2 h.ok).node t (h.sub t J)
  have o:r∈jaZ (nodeOf t):=o;rw[jdz w (jci H) H]at o
  obtain⟨K,E,e⟩:=A r o
  subst e;rcases h.all K E with h1 | h1
  ·exact .inr (jlP hG h1)
  ·exact .inl (jdo.2 h1)
theorem Part.why(w:vW){S:vT}{m:vL}{L:vM}(h:Part S m L){room k:Int}(hk:jvT False room S L k):k=3/\room < (S.length:Int)+(L.length:Int):=by
 rcases hk with⟨_,e⟩ |⟨_,G,hG,x,r,hr,hno⟩ |⟨rfl,top,G,M,_,hG,hP,hroom⟩
 ·exact e.elim
 ·exact absurd (h.refs w hG hr) hno
 ·have e:=jgk (S:=S) (M:=M) (fun x o=>hP.at' o)
  have A:=(jer L).2.2;rw[<-hG,bU]at A
  exact⟨rfl,by omega⟩
theorem jiF(f:Nd5->Nd5)(hf:∀ x,(f x).1=x.1):∀ (L:vT) (k:Key),atL (L.map f) k=(atL L k).map f
 | [],k=>rfl
 | x :: L,k=>by
  unfold atL;rw[bT,fU,fU,hf];cases e:decide (k=x.1)with
  | true=>rfl
  | false=>exact jiF f hf L k
theorem jlx(r:vB)(k:Key):cK [r] k=if k=r.data.toList then 1 else 0:=by
 have:=jke r [] k
 rw[this];unfold cK;simp
structure AddK(w:World)(U:vM)(S:vT)(m:vL)(L:vM)(S':vT):Prop where
 kp:Kp U S'
 key:∀ k,k∈S'.map (·.1)↔k∈S.map (·.1)\/∃ t∈jaV m,k=ky t
 held:∀ k,jnm (atL S' k)=jnm (atL S k)+if k=ky (jaF m).text then 1 else 0
 sum:jeZ S'=jeZ S+1
 len:S'.length<=S.length+L.length
 blk:∀ x∈S',x.2.1∈S.map (·.2.1)\/w.heap.size<=x.2.1
 bd:∀ n:Int,0<=n->(∀ x∈S,x.2.2.held<=n)->∀ x∈S',x.2.2.held<=n+1
theorem Part.add(w:vW){U:vM}(hU:InjL U){S:vT}(hK:Kp U S){m:vL}{L:vM}(h:Part S m L)(hs:∀ t∈jaV m,t∈U)(hl:L.length<=1000){s bm:Nat}{room:Int}{G:vT}{M:vM}{e:Ending}{w':vW}(hA:AddY w s bm room S L (jaF m).text G M e w') :
  AddK w U S m L (addS S G M (jaF m).text):=by
 have O:=hA.path;have K:=hA.given;have hF:=jg6 K hA.nodes hl;have a3:((addS S G M (jaF m).text).map (·.1)).Nodup:=hA.st.nd;have o:∀ x∈jc1 G (frK S M),x∈G/\(∃ t∈L,x.1=ky t/\x.2.2=itOf t)/\atL S x.1=none:=fun x A=>by
  obtain⟨Z,z,H,e⟩:=jbF A
  exact⟨Z,jcG K Z,by rw[e];exact (jfY.1 H).2⟩
 have a4:∀ x∈S++jc1 G (frK S M),∃ t∈U,x.1=ky t/\x.2.2.text=t/\x.2.2.refs=jaZ (nodeOf t):=fun x A=>by
  rcases bW.1 A with A | A
  ·exact hK.is x A
  ·obtain⟨t,Q,e1,e2⟩:=(o x A).2.1
   exact⟨t,hs t (h.sub t Q),e1,by rw[e2];rfl,by rw[e2];rfl⟩
 have a0:Kp U (addS S G M (jaF m).text):=by
  refine⟨fun x' a1=>?_,jro hK.cnt K hF O,joo hK.cnt hK.full K O⟩
  rw[jcw]at a1
  obtain⟨x,A,rfl⟩:=bI.1 a1
  exact a4 x A
 have E:ky (jaF m).text∈(addS S G M (jaF m).text).map (·.1):=by
  rw[jee];exact jdo.1 (ji7 O (by rw[O.is];exact bK))
 have a2:∀ k,atL (addS S G M (jaF m).text) k=(atL (S++jc1 G (frK S M)) k).map (jh8 ((frK S M).flatMap (jbZ G)) (shaB (jaF m).text)):=fun k=>by
  rw[jcw];exact jiF (jh8 ((frK S M).flatMap (jbZ G)) (shaB (jaF m).text)) (fun _=>rfl) _ k
 refine⟨a0,fun k=>?_,fun k=>?_,jxY a3 K O,?_,fun x A=>?_,fun n hn hb=>jov hb hn K⟩
 ·constructor
  ·intro J
   rw[jee,bZ,bW]at J;rcases J with J | J
   ·exact .inl J
   ·obtain⟨x,A,rfl⟩:=bI.1 J
    obtain⟨t,Q,e1,_⟩:=(o x A).2.1
    exact .inr ⟨t,h.sub t Q,e1⟩
  ·rintro (J |⟨t,Q,rfl⟩)
   ·rw[jee,bZ,bW];exact .inl J
   ·exact jo4 w hU a0 h.ok hs E t Q
 ·rw[a2]
  have H:(if k=ky (jaF m).text then (1:Int)else 0)=((cK [shaB (jaF m).text] k:Nat):Int):=by
   rw[jlx];unfold ky;split <;> rfl
  rw[H];unfold atL;rw[iO];cases hS:List.find? (fun x=>decide (k=x.1)) S with
  | some y =>
   have a5:=(ja7 (L:=S) (k:=k) hS).2;show y.2.2.held+((cK [shaB (jaF m).text] y.1:Nat):Int)=y.2.2.held+_;rw[a5]
  | none =>
   cases hP2:List.find? (fun x=>decide (k=x.1)) (jc1 G (frK S M))with
   | some y =>
    have hy:=ja7 (L:=jc1 G (frK S M)) (k:=k) hP2
    obtain⟨t,Q,e1,e2⟩:=(o y hy.1).2.1
    show y.2.2.held+((cK [shaB (jaF m).text] y.1:Nat):Int)=0+_;rw[hy.2,e2];rfl
   | none =>
    show (0:Int)=0+_;rw[jlx]
    have:k≠(shaB (jaF m).text).data.toList:=fun e=>by
     have Z:=a2 k;have X:=jdo.2 E;unfold ky at X;rw[<-e,Z]at X;unfold atL at X;rw[iO,hS,hP2]at X;cases X
    rw[if_neg this];rfl
 ·have Z:=jns (S:=S) (G:=G) (M:=M) (top:=(jaF m).text)
  have X:=jgk (S:=S) (M:=M) (fun x A=>O.at' A);have h3:=(jer L).2.2;rw[<-K,bU]at h3;omega
 ·rw[jcw]at A
  obtain⟨z,H,rfl⟩:=bI.1 A
  rcases bW.1 H with H | H
  ·exact .inl (bI.2 ⟨z,H,rfl⟩)
  ·exact .inr (hA.news z (o z H).1)
theorem jpU{m:vL}(h:jaD m=0):jaB (jaF m)=(jaF m).text :: belowM m:=by
 rw[jfs h];show jaB (.mk _ _)=_;rw[jaB];rfl
theorem jva(S:vT){m:vL}(h:jaD m=0):Part S m (newM S m):=
 ⟨h,rfl,fun t e=>(jbb _ _).2 (jst h e),fun t e=>by
  have e:=(jbb (jaB (jaF m)) t).1 e;rw[jpU h]at e;unfold newM;rcases bX.1 e with rfl | e
  ·exact .inl bK
  ·cases hl:lackB S t with
   | true=>exact .inl (bH _ (cU.2 ⟨(jbb _ _).2 e,hl⟩))
   | false =>
    refine .inr (jdo.1 ?_);unfold lackB at hl;unfold ky;cases ha:atL S (shaB t).data.toList with
    | none=>rw[ha]at hl;cases hl
    | some x=>rfl⟩
theorem AddK.ahead{w w1:vW}{U:vM}{S:vT}{m:vL}{L:vM}{S':vT}(h:AddK w1 U S m L S')(hw:w.heap.size<=w1.heap.size):AddK w U S m L S':=
 ⟨h.kp,h.key,h.held,h.sum,h.len,fun x o=>(h.blk x o).imp id (fun e=>bG hw e),h.bd⟩
structure ComY(w:World)(s bm:Nat)(room:Int)(U:vM)(S:vT)(m:vL)(L:vM)(e:Ending)(w':World)(S':vT):Prop where
 res:e=.returned (.tuple #[.string (rootM m),.int .i64 0])
 st:jaT w' s bm room S'
 add:AddK w U S m L S'
 kp:jae (fun z=>z=bm\/z∈S.map (·.2.1)) w w'
 fits:(S'.length:Int)<=room\/room < S.length
def ComF(w:vW)(room:Int)(S:vT)(L:vM)(e:Ending)(w':vW):Prop:=e=.returned (.tuple #[.string ⟨#[]⟩,.int .i64 3])/\Ext w w'/\room < (S.length:Int)+(L.length:Int)
theorem jnT(w0 w:vW){U:vM}(hU:InjL U){S:vT}(hK:Kp U S){m:vL}{L:vM}(hp:Part S m L)(hs:∀ t∈jaV m,t∈U)(hl:L.length<=1000){s bm:Nat}{room:Int}{e:Ending}{w':vW}(hE:Ext w0 w)(h:jnR False w s bm room S L e w') :
  ComF w0 room S L e w'\/∃ S',ComY w0 s bm room U S m L e w' S':=by
 rcases h with⟨k,hwhy,_,rfl,hE2⟩ |⟨top,G,M,htop,hY⟩
 ·obtain⟨rfl,E⟩:=hp.why w hwhy
  exact .inl ⟨rfl,hE.trans hE2,E⟩
 ·have o:top=(jaF m).text:=by have:=hp.head;rw[htop]at this;exact bN this
  subst o;refine .inr ⟨_,hY.res,hY.st,(hp.add w hU hK hs hl hY).ahead hE.size,(hE.mono (fun _ _ e=>e.elim)).trans hY.kp,?_⟩;have H:=hY.fits;have A:=jns (S:=S) (G:=G) (M:=M) (top:=(jaF m).text);have A:(jkd (shaB (jaF m).text).data.toList (jeE ((frK S M).flatMap (jbZ G)) (S++jc1 G (frK S M)))).length<=S.length+(frK S M).length:=A;omega
theorem jAF(w:vW){U:vM}(hU:InjL U){S:vT}(hK:Kp U S){l:vL}{cs:List Chg}(h0:jaY l cs=0)(hs:∀ t∈jaV (jby l cs),t∈U){s bm:Nat}{room:Int}{e:Ending}{w':vW}(h:ComP w s bm room S l cs e w') :
  ComF w room S (newM S (jby l cs)) e w'\/∃ S',ComY w s bm room U S (jby l cs) (newM S (jby l cs)) e w' S':=by
 rcases h with⟨h1,_⟩ |⟨_,w1,hE,h⟩
 ·exact absurd h0 h1
 ·have m:jaD (jby l cs)=0:=jca h0
  exact jnT w w1 hU hK (jva S m) hs (by have:=jkC (S:=S) m;omega) hE h
theorem jkh(w:vW){U:vM}(hU:InjL U){S:vT}(hK:Kp U S){l:vL}{cs:List Chg}(h0:jaY l cs=0)(hs:∀ t∈jaV (jby l cs),t∈U){s bm:Nat}{room:Int}{e:Ending}{w':vW}(h:ComP w s bm room S l cs e w')(hr:(S.length:Int)+((newM S (jby l cs)).length:Int)<=room) :
  ∃ S',ComY w s bm room U S (jby l cs) (newM S (jby l cs)) e w' S':=by
 rcases jAF w hU hK h0 hs h with⟨_,_,h3⟩ | h3
 ·omega
 ·exact h3
theorem AddK.more{w:vW}{U:vM}(hU:InjL U){S:vT}{m:vL}{L:vM}{S':vT}(h:AddK w U S m L S'){l:vL}(hl:∀ t∈jaV l,t∈U)(hM:HasM S l):HasM S' l:=
 h.kp.has w hU hM.ok hl ((h.key _).2 (.inl (by
  obtain⟨x,e,_⟩:=hM.has _ (jc2 _)
  exact jdo.1 (by rw[e];rfl))))
theorem AddK.has{w:vW}{U:vM}(hU:InjL U){S:vT}{m:vL}{L:vM}{S':vT}(h:AddK w U S m L S')(hm:jaD m=0)(hl:∀ t∈jaV m,t∈U):HasM S' m:=
 h.kp.has w hU hm hl ((h.key _).2 (.inr ⟨_,bE (jk2 hm).head,rfl⟩))
end
section
open Go Go.RowKit
attribute [local go_sem] Oper.semAt_some
structure jgL(l:vL)(w:World)(s bm:Nat)(S:vT)(w':World):Prop where
 ext:Ext w w'
 st:jaT w' s bm 2000 S
 add:∃ W,AddK W (jaV l) [] l (jaV l) S
 few:fewB l=true
 inj:InjL (jaV l)
 ok:jaD l=0
 bnew:w.heap.size<=bm
 snew:w.heap.size<=s
 ne:s≠bm
 new:∀ x∈S,w.heap.size<=x.2.1
def jtL(l:vL)(w:vW)(e:Ending)(w':vW):Prop:=∃ s bm S,e=.returned (.tuple #[.pointer (some ⟨s,0,none⟩),.string (shaB (jaF l).text)])/\jgL l w s bm S w'
def jyp(l:vL)(w:vW)(e:Ending)(w':vW):Prop:=jyo l w e w'\/jtL l w e w'
theorem jgL.key{l:vL}{w w':vW}{s bm:Nat}{S:vT}(h:jgL l w s bm S w')(k:Key):k∈S.map (·.1)↔∃ t∈jaV l,k=ky t:=by
 obtain⟨W,e⟩:=h.add
 rw[e.key];simp
theorem jgL.kp{l:vL}{w w':vW}{s bm:Nat}{S:vT}(h:jgL l w s bm S w'):Kp (jaV l) S:=by
 obtain⟨W,e⟩:=h.add
 exact e.kp
theorem jgL.has{l:vL}{w w':vW}{s bm:Nat}{S:vT}(h:jgL l w s bm S w'):HasM S l:=
 h.kp.has w h.inj h.ok (fun _ h=>h) ((h.key _).2 ⟨_,bE (jk2 h.ok).head,rfl⟩)
theorem jgL.len{l:vL}{w w':vW}{s bm:Nat}{S:vT}(h:jgL l w s bm S w'):S.length<=121:=by
 obtain⟨W,e⟩:=h.add
 have m:=e.len;have o:=jb5 h.ok;simp at m;omega
theorem jgL.hb{l:vL}{w w':vW}{s bm:Nat}{S:vT}(h:jgL l w s bm S w'):∀ x∈S,x.2.2.held<=1:=by
 obtain⟨W,e⟩:=h.add
 exact e.bd 0 vO (fun x m=>by cases m)
theorem juI(w:vW)(hc:jbW w)(he:ErrT w)(v:vV)(l:vL)(hv:RdP w v l)(hn:l.length<=9223372036854775807)(hs:jdH l) :
  vQ 5 #[v] w (jyp l w):=by
 have HC:=Hd hc;have b7:=Hd he;have HV:=Hd hv;have HS:=Hd hs;have HN:=Hd hn
 obtain⟨a,c,rfl⟩:=hv.sl;clear hc hv hs hn he;go_enter Tryz.func5,Tryz.ntmps5;go_wp2_with fail
 refine vH (jrJ w _ l HV.o HN.o HS.o) fun w2 J=>?_
 obtain⟨fw,a0⟩:=vE (fewB l)
 have a7:=Hd a0;rw[<-a0];clear a0
 by_cases hcl:jaD l=0
 case neg =>
  go_wp2_with fail
  refine vH (jl7 w2 _ l (HV.o.ext J.o) HN.o HS.o hcl) fun w3 H=>?_;have O:=Hd (J.o.trans H);have a8:=Hd hcl
  obtain⟨x,X⟩:=vE (jaD l)
  rw[<-X]at hcl ⊢;have c8:(x == 0)=false:=by simpa using hcl
  have c7:(x != 0)=true:=by simpa using hcl
  clear hcl X J;go_wp2_with fail
  refine (jtk w3 2000).mono ?_;rintro e w4 ⟨s,bm,rfl,H,_,_,_,_⟩;have K:=Hd (O.o.trans H);clear H O;go_wp2_with fail
  refine (jmV w4 (HC.o.ext K.o) _ [] (.inl ⟨none,0,rfl,rfl⟩) (by simp)).mono ?_;rintro e w5 ⟨b,rfl,_,H⟩;have A:=Hd (K.o.trans H);clear H K;cases fw with
  | false =>
   go_wp2_with fail
   go_ret2;exact .inl ⟨rfl,A.o,fun h=>a8.o h.2.1⟩
  | true =>
   go_wp2_with fail
   go_ret2;exact .inl ⟨rfl,A.o,fun h=>a8.o h.2.1⟩
 have m:=Hd hcl;clear hcl;go_wp2_with fail
 refine (joN w2 _ l (HC.o.ext J.o) (HV.o.ext J.o) m.o).mono ?_;rintro e w3 ⟨u3,n3,rfl,Z⟩;have Z:SRow w2 w3 u3 n3 (jaV l):=Z
 obtain⟨L,hL⟩:=vE (jaV l)
 have a5:=jb5 m.o;have Q:=Hd hL;rw[<-hL]at Z a5;have b8:L.length=n3:=by have:=Z.len;simpa using this
 have a9:=Z.rd
 obtain⟨a3,c3,e3⟩:=Z.sl
 have O:=Hd (J.o.trans Z.ext);subst e3;have b0:=Hd a9;subst b8;clear Z a9 J hL;go_wp2_with fail
 refine (jtk w3 2000).mono ?_;rintro e w4 ⟨s,bm,rfl,H,hS,b1,b2,b3⟩;have K:=Hd (O.o.trans H);have HZ:=Hd (bB O.o.size b1);have b4:=Hd (bB b2 b3);have b5:=Hd (show jaT w4 s bm 2000 []from hS);have a1:=Hd (b0.o.ext H);clear H hS O b0 b1 b2 b3;go_wp2_with fail
 refine (jmV w4 (HC.o.ext K.o) _ L a1.o vO).mono ?_;rintro e w5 ⟨b,rfl,hb,H⟩;have A:=Hd (K.o.trans H);have b9:=Hd (b5.o.ext H);have c0:=Hd (a1.o.ext H);have HB:=Hd hb;clear H K b5 a1 hb;cases fw with
 | false =>
  go_wp2_with fail
  go_ret2;exact .inl ⟨rfl,A.o,fun h=>by have:=a7.o;rw[h.1]at this;cases this⟩
 | true =>
  cases b with
  | false =>
   go_wp2_with fail
   go_ret2;refine .inl ⟨rfl,A.o,fun h=>?_⟩
   have:=HB.o.2 (by rw[Q.o];exact h.2.2)
   cases this
  | true =>
   have HI:=Hd (show InjL (jaV l) by rw[<-Q.o];exact HB.o.1 rfl);have c1:=Hd (show jyD L by rw[Q.o];exact jqv w m.o (by have:=jb5 m.o;exact bG this vI));have b6:=Hd (show L[0]?=some (jaF l).text by rw[Q.o];exact (jk2 m.o).head)
   obtain⟨tp,a2⟩:=vE (jaF l).text
   rw[<-a2]at b6;have c9:=Hd a2;clear a2;go_wp2_with fail
   have c2:=Hd (jgQ c1.o.node);refine (jj4 w5 (HC.o.ext A.o) (b7.o.ext A.o) s bm 2000 [] b9.o _ L c0.o False c2.o (by have:=jb5 m.o;rw[Q.o];omega) tp b6.o vI vI (by simp) (fun x X=>by cases X) (fun x X=>by cases X)).mono ?_;rintro e w6 hP;rw[Q.o]at hP;have E:=joS [] m.o;rcases hP with⟨k,hwhy,_,_,_⟩ |⟨top,G,M,htop,hY⟩
   ·have h1:=(E.why w hwhy).2
    have h2:=jb5 m.o;simp at h1;omega
   have a6:top=(jaF l).text:=by have:=E.head;rw[htop]at this;exact bN this
   subst a6;have hK:=E.add w5 HI.o (Kp.none _) (fun _ h=>h) (by have:=jb5 m.o;omega) hY;have c4:=hY.res;subst c4;have HF:=Hd (bB hY.st hK);have a4:=hY.kp;have c5:=Hd (A.o.trans' a4 (fun z hz e=>by
    rcases e with e | e
    ·have:=HZ.o;omega
    ·simp at e))
   have c6:=Hd (bB A.o.size a4.size);clear hY hK a4 htop E;go_wp2_with fail
   go_ret2;exact .inr ⟨s,bm,_,rfl,⟨c5.o,HF.o.1,⟨w5,HF.o.2⟩,a7.o.symm,HI.o,m.o,by have:=HZ.o;omega,by have:=HZ.o;have:=b4.o;omega,b4.o.2,fun x X=>by
    rcases HF.o.2.blk x X with h | h
    ·simp at h
    ·have:=c6.o;omega⟩⟩
structure Tst(W0 W:World)(s bm:Nat)(room:Int)(U:vM)(S:vT)(n:Nat):Prop where
 ext:Ext W0 W
 st:jaT W s bm room S
 kp:Kp U S
 len:S.length<=n
 bnew:W0.heap.size<=bm
 new:∀ x∈S,W0.heap.size<=x.2.1
 hb:∀ x∈S,x.2.2.held<=n
theorem Tst.grow{W0 W W':vW}{s bm:Nat}{room:Int}{U:vM}{S:vT}{n:Nat}(h:Tst W0 W s bm room U S n)(k:Ext W W'):Tst W0 W' s bm room U S n:=
 ⟨h.ext.trans k,h.st.ext k,h.kp,h.len,h.bnew,h.new,h.hb⟩
theorem Tst.more{W0 W:vW}{s bm:Nat}{room:Int}{U V:vM}{S:vT}{n:Nat}(h:Tst W0 W s bm room U S n)(hs:∀ t∈U,t∈V):Tst W0 W s bm room V S n:=
 ⟨h.ext,h.st,h.kp.mono hs,h.len,h.bnew,h.new,h.hb⟩
theorem Tst.bds{W0 W:vW}{s bm:Nat}{room:Int}{U:vM}{S:vT}{n:Nat}(h:Tst W0 W s bm room U S n)(hn:n<=5000):S.length<=100000/\(∀ x∈S,0<=x.2.2.used/\x.2.2.used<=1000000000)/\(∀ x∈S,0<=x.2.2.held/\x.2.2.held<=1000000000):=
 ⟨by have:=h.len;omega,h.kp.bd (by have:=h.len;omega),fun x e=>⟨h.kp.cnt.held x e,by have:=h.hb x e;omega⟩⟩
theorem Tst.add{W0 W W':vW}{s bm:Nat}{room:Int}{U:vM}{S S':vT}{n k:Nat}{m:vL}{L:vM}{e:Ending}(h:Tst W0 W s bm room U S n)(hL:L.length<=k)(h1:1<=k)(hY:ComY W s bm room U S m L e W' S'):Tst W0 W' s bm room U S' (n+k):=
 ⟨h.ext.trans' hY.kp (fun z E e=>by
  rcases e with e | e
  ·have:=h.bnew;omega
  ·obtain⟨y,o,e⟩:=bI.1 e
   have:=h.new y o;omega),hY.st,hY.add.kp,by have:=hY.add.len;have:=h.len;omega,h.bnew,fun x A=>by
  rcases hY.add.blk x A with e | e
  ·obtain⟨y,o,e⟩:=bI.1 e
   have:=h.new y o;omega
  ·have:=h.ext.size;omega,fun x A=>by
   have:=hY.add.bd n vO h.hb x A
   omega⟩
theorem jgL.tst{l:vL}{w w':vW}{s bm:Nat}{S:vT}(h:jgL l w s bm S w'):Tst w w' s bm 2000 (jaV l) S 121:=
 ⟨h.ext,h.st,h.kp,h.len,h.bnew,h.new,fun x e=>by have:=h.hb x e;omega⟩
theorem ji9(w:vW)(s bm:Nat)(room:Int)(L:vT)(h:jaT w s bm room L)(hl:L.length<=1000000):vQ 10 #[.pointer (some ⟨s,0,none⟩)] w fun e w'=>∃ v,e=.returned v/\SRow w w' v L.length (baL (jea (L.map (·.1)))):=by
 have q1:=h.st.cell (i:=1) (v:=.map (some bm)) vF
 obtain⟨es,ck,hm,a5⟩:=h.mp.mp
 have c5:=jf5 Tryz.ES Tryz.uMapIt hm;have a6:es.length=L.length:=a5.lenL;rw[a6]at c5
 obtain⟨i0,hi,b4,b5,b6⟩:=info_parts Tryz.infoS1
 obtain⟨w1,a0,a1,a7⟩:=run_make_own (P:=Tryz.prog) (w:=w) w.heap.size 30 9 i0 _ 1 Tryz.sStrs.ht hi b4 b5 .i64 .i64 L.length (by rw[b6];omega) (by unfold maxLen;omega) (bM _)
 have k1:Ext w w1:=jae.of_grown a7 (fun _ e=>by cases e);have b7:=ORow.made w a1 a7;have d0:=jaa q1 k1;have H:=hm.keeps k1 (fun g=>g);have d1:=jmy Tryz.ES Tryz.uMapIt H;have HM:=Hd a5;have K1:=Hd k1;have b8:=Hd b7;have b9:=Hd hm;clear h a1 a7 hm a5 hi b4 b5 b6 k1 b7 H;go_enter Tryz.func10,Tryz.ntmps10;go_wp2_with fail
 obtain⟨r,hr⟩:=vE w1.heap.size
 have HR:=Hd hr;rw[<-hr];clear hr;go_loopw [3] (fun v wr=>jAb w r bm ck es v wr) (fun v _=>L.length - slN v)
 case atStart =>
  have hz:=K1.o.size
  refine⟨[],⟨b8.o.mono ((ExtR w1).alloc _),?_,fun x hx=>(by cases hx),List.nodup_nil,fun b hb e=>?_⟩⟩
  ·rw[HR.o];exact Blk.new w1 _
  ·have:=b8.o.lt b hb
   rw[HR.o]at e;omega
 case round =>
  obtain⟨m,E⟩:=hrel
  obtain⟨ad,cp,rfl⟩:=E.row.sl
  have X:=(b9.o).keeps E.row.ext (fun g=>g);have b0:m.length<=es.length:=E.len;rcases jo8 Tryz.ES X E.it HM.o.lt 0 with⟨hl0,hnx⟩ |⟨x,hxl,w2,hnx,hr2,hk2⟩
  ·have hp:=E.done hl0 HM.o.born
   have a2:m.length=L.length:=by rw[hp.length_eq,a6]
   have c0:jea (m.map (·.1))=jea (L.map (·.1)):=by
    rw[jjZ (hp.map _),HM.o.keysL]
   have c6:=Hd c0;have J:=Hd (show ORow 9 1 w wr (.slice ad m.length cp) m.length ((m.map (·.1)).map encStr)from E.row);have a8:=Hd a2;clear E X hp c0 a2 hl0 a0;go_wp2_with fail
   refine vC (jwg J.o (by rw[a8.o];exact hl)) fun w3 Z=>?_;rw[c6.o]at Z;rw[a8.o]at Z ⊢;have c7:=Hd Z;clear Z J a8;go_wp2_with fail
   go_ret
   refine⟨_,rfl,?_⟩
   unfold SRow;rw[jq4];exact c7.o
  ·have d2:w.heap.size<=r:=by rw[HR.o];exact K1.o.size
   have d3:=b9.o.lt;have c1:=X.keeps hk2 (fun e=>by have e:bm=r:=e;omega);have a9:x∈es:=(cU.1 hxl).1;have c2:x.2.2 ∉ m.map (·.2.2):=by have:=(cU.1 hxl).2;simpa [jka]using this
   have c3:=jmx Tryz.ES c1 a9 hr2 HM.o.born;have K:((m++[x]).map (·.2.2)).Nodup:=by
    rw[bZ,fS]
    exact⟨E.nd,by simp,fun a ha b hb e=>by simp at hb;subst hb;subst e;exact c2 ha⟩
   have O:∀ y∈m++[x],y∈es:=fun y hy=>by
    rcases bW.1 hy with hy | hy
    ·exact E.sub y hy
    ·simp at hy;exact hy ▸ a9
   have b1:m.length+1<=L.length:=by
    have:=iB (jgx _ K) (fun y hy=>O y hy)
    rw[a6]at this;simpa using this
   have A:ORow 9 1 w w2 (.slice ad m.length cp) m.length (keyS m):=E.row.keeps hk2 (fun b hb e=>E.ne b hb e) (fun b hb e=>by have e:b=r:=e;omega);have a3:Blk w2 r (.mapIter (some bm) ck (jka (m++[x])) ck):=by
    have e:jka (m++[x])=(jka m).push x.2.2:=by unfold jka;simp
    rw[e];exact hr2
   have Q:=Hd (bB K (bB O E.ne));have J:=Hd A;have c8:=Hd a3;have H:m.length+1<=maxLen:=by unfold maxLen;omega
   have c4:(m.length+1) * 16<=140737488355328:=vO
   have d4:=hr2.lt
   obtain⟨kx,a4⟩:=vE x.1
   have c9:=Hd a4;have b2:(Instr.entry (.pointer (some ⟨r,0,none⟩))).run Tryz.prog w2=.ok (.tuple #[encStr kx,x.2.1]) w2:=by rw[a4];exact c3
   have b3:(Instr.next (.pointer (some ⟨r,0,none⟩)) false 0).run Tryz.prog wr=.ok (.tuple #[.bool true,encStr kx,x.2.1]) w2:=by rw[a4];exact hnx
   obtain⟨n,hn⟩:=vE m.length
   have HN:=Hd hn;rw[<-hn]at H c4 b1 A J Q ⊢;clear E X c1 hxl hr2 hk2 a9 c2 c3 K O A a3 a0 hnx a4 b0 hn;unfold encStr at b2 b3;go_wp2_with (at_builtin;refine jaS Tryz.sStrs (J.o.mono ((ExtR w2).alloc _)) (.tmp 20) (.tmp 22) rfl rfl rfl (jaH (Blk.new w2 _)) (news:=[encStr kx]) (by intro u hu;simp at hu;rcases hu with rfl;rfl) rfl rfl H c4 ?_;intro v' w' r1 r2 r3)
   have HX:=Hd (bB r1 (bB r2 r3))
   obtain⟨d5,d6,rfl⟩:=r1.sl
   clear r1 r2 r3;go_wp2_with fail
   go_roundw
   case rel =>
    obtain⟨r1,r2,r3⟩:=HX.o
    have d7:=((ExtR w2).alloc (.cells #[.string ⟨kx.toArray⟩] 9)).size
    refine⟨m++[x],?_,?_,Q.o.2.1,Q.o.1,?_⟩
    ·have e:keyS (m++[x])=keyS m++[encStr kx]:=by unfold keyS;simp[c9.o]
     rw[e,bF, <-HN.o];exact r1
    ·refine (c8.o.alloc _).keeps r2 (fun e=>Q.o.2.2 r e rfl)
    ·intro b hb e
     rcases r3 with r3 | r3
     ·exact Q.o.2.2 b (r3 ▸ hb) e
     ·have:=r3 b hb;omega
   case measure=>simp[slN];omega
end
section
open Go Go.RowKit
theorem jwB(S G:vT)(M:vM)(top:vB)(k:Key):atL (addS S G M top) k=(atL (S++jc1 G (frK S M)) k).map (jh8 ((frK S M).flatMap (jbZ G)) (shaB top)):=by
 rw[jcw];exact jiF (jh8 ((frK S M).flatMap (jbZ G)) (shaB top)) (fun _=>rfl) _ k
theorem jtR{S G:vT}{M:vM}{top:vB}{k:Key}{x:Nd5}(h:atL S k=some x):atL (addS S G M top) k=some (jh8 ((frK S M).flatMap (jbZ G)) (shaB top) x):=by
 rw[jwB];unfold atL at h ⊢;rw[iO,h];rfl
theorem jtQ{S G:vT}{M:vM}{top t:vB}(h:HasS S t):HasS (addS S G M top) t:=by
 obtain⟨x,e,m⟩:=h
 exact⟨_,jtR e,m⟩
theorem jqL{S G:vT}{M:vM}{top:vB}{l:vL}(h:HasM S l):HasM (addS S G M top) l:=⟨h.ok,fun x e=>jtQ (h.has x e)⟩
section
variable {w:vW} {s bm:Nat} {room:Int} {S:vT} {L:vM} {top:vB} {G:vT} {M:vM} {e:Ending} {w':vW}
theorem AddY.nodesS(h:AddY w s bm room S L top G M e w')(hN:∀ x∈S,∃ n,jbC x.2.2.text n):∀ x∈addS S G M top,∃ n,jbC x.2.2.text n:=fun x o=>by
 rw[jcw]at o
 obtain⟨z,m,rfl⟩:=bI.1 o
 rcases bW.1 m with m | m
 ·exact hN z m
 ·obtain⟨t,A,_,e⟩:=jcG h.given (jbF m).1
  obtain⟨n,E⟩:=h.nodes t A
  refine⟨n,?_⟩
  show jbC z.2.2.text n;rw[e];exact E
theorem AddY.len2(h:AddY w s bm room S L top G M e w'):(addS S G M top).length<=S.length+L.length:=by
 have A:=jns (S:=S) (G:=G) (M:=M) (top:=top);have E:=jgk (S:=S) (M:=M) (fun x m=>h.path.at' m);have o:=(jer L).2.2;rw[<-h.given,bU]at o;omega
theorem AddY.newS(h:AddY w s bm room S L top G M e w'):∀ x∈addS S G M top,x.2.1∈S.map (·.2.1)\/w.heap.size<=x.2.1:=fun x o=>by
 rw[jcw]at o
 obtain⟨z,m,rfl⟩:=bI.1 o
 rcases bW.1 m with m | m
 ·exact .inl (bI.2 ⟨z,m,rfl⟩)
 ·exact .inr (h.news z (jbF m).1)
theorem AddY.cntS(h:AddY w s bm room S L top G M e w')(hl:L.length<=1000)(hc:Cnt S)(hf:jqF S):Cnt (addS S G M top)/\jqF (addS S G M top):=
 ⟨jro hc h.given (jg6 h.given h.nodes hl) h.path,joo hc hf h.given h.path⟩
end
end
end Go.Proofs.YtegloohdmjadoaaGreatDoor
