/- Lemmas; each is under no condition but those that it states. -/
import Derived.Test.YtmobgkphhbmhbaaGreatDoorPb30
namespace Go.Proofs.YtmobgkphhbmhbaaGreatDoor
set_option linter.unusedSimpArgs false
set_option linter.unusedVariables false
set_option maxRecDepth 100000
set_option maxHeartbeats 16000000
open Go Go.RowKit
theorem jpr{m:vL}(h:jap m=0):jao (jav m)=(jav m).text :: belowM m:=by
 rw[jhq h];show jao (.mk _ _)=_;rw[jao];rfl
theorem jou(S:vT){m:vL}(h:jap m=0):Part S m (newM S m):=
 ⟨h,rfl,fun t e=>(jaM _ _).2 (jrP h e),fun t e=>by
  have e:=(jaM (jao (jav m)) t).1 e;rw[jpr h]at e;unfold newM;rcases bJ.1 e with rfl | e
  ·exact .inl bD
  ·cases hl:lackB S t with
   | true=>exact .inl (bC _ (cH.2 ⟨(jaM _ _).2 e,hl⟩))
   | false =>
    refine .inr (jdV.1 ?_);unfold lackB at hl;unfold ky;cases ha:atL S (shaB t).data.toList with
    | none=>rw[ha]at hl;cases hl
    | some x=>rfl⟩
theorem AddK.ahead{w w1:vW}{U:vM}{S:vT}{m:vL}{L:vM}{S':vT}(h:AddK w1 U S m L S')(hw:w.heap.size<=w1.heap.size):AddK w U S m L S':=
 ⟨h.kp,h.key,h.held,h.sum,h.len,fun x o=>(h.blk x o).imp id (fun e=>bK hw e),h.bd⟩
structure ComY(w:World)(s bm:Nat)(room:Int)(U:vM)(S:vT)(m:vL)(L:vM)(e:Ending)(w':World)(S':vT):Prop where
 res:e=.returned (.tuple #[.string (rootM m),.int .i64 0])
 st:jaL w' s bm room S'
 add:AddK w U S m L S'
 kp:jad (fun z=>z=bm\/z∈S.map (·.2.1)) w w'
 fits:(S'.length:Int)<=room\/room < S.length
def ComF(w:vW)(room:Int)(S:vT)(L:vM)(e:Ending)(w':vW):Prop:=e=.returned (.tuple #[.string ⟨#[]⟩,.int .i64 3])/\Ext w w'/\room < (S.length:Int)+(L.length:Int)
theorem jnv(w0 w:vW){U:vM}(hU:InjL U){S:vT}(hK:Kp U S){m:vL}{L:vM}(hp:Part S m L)(hs:∀ t∈jay m,t∈U)(hl:L.length<=1000){s bm:Nat}{room:Int}{e:Ending}{w':vW}(hE:Ext w0 w)(h:jkU False w s bm room S L e w') :
  ComF w0 room S L e w'\/∃ S',ComY w0 s bm room U S m L e w' S':=by
 rcases h with⟨k,hwhy,_,rfl,hE2⟩ |⟨top,G,M,htop,hY⟩
 ·obtain⟨rfl,z⟩:=hp.why w hwhy
  exact .inl ⟨rfl,hE.trans hE2,z⟩
 ·have o:top=(jav m).text:=by have:=hp.head;rw[htop]at this;exact bV this
  subst o;refine .inr ⟨_,hY.res,hY.st,(hp.add w hU hK hs hl hY).ahead hE.size,(hE.mono (fun _ _ e=>e.elim)).trans hY.kp,?_⟩;have A:=hY.fits;have q:=jrs (S:=S) (G:=G) (M:=M) (top:=(jav m).text);have q:(jjU (shaB (jav m).text).data.toList (jev ((frK S M).flatMap (jca G)) (S++jcO G (frK S M)))).length<=S.length+(frK S M).length:=q;omega
theorem jyF(w:vW){U:vM}(hU:InjL U){S:vT}(hK:Kp U S){l:vL}{cs:List Chg}(h0:ja3 l cs=0)(hs:∀ t∈jay (ja2 l cs),t∈U){s bm:Nat}{room:Int}{e:Ending}{w':vW}(h:ComP w s bm room S l cs e w') :
  ComF w room S (newM S (ja2 l cs)) e w'\/∃ S',ComY w s bm room U S (ja2 l cs) (newM S (ja2 l cs)) e w' S':=by
 rcases h with⟨h1,_⟩ |⟨_,w1,hE,h⟩
 ·exact absurd h0 h1
 ·have o:jap (ja2 l cs)=0:=jcb h0
  exact jnv w w1 hU hK (jou S o) hs (by have:=jg5 (S:=S) o;omega) hE h
theorem jth(w:vW){U:vM}(hU:InjL U){S:vT}(hK:Kp U S){l:vL}{cs:List Chg}(h0:ja3 l cs=0)(hs:∀ t∈jay (ja2 l cs),t∈U){s bm:Nat}{room:Int}{e:Ending}{w':vW}(h:ComP w s bm room S l cs e w')(hr:(S.length:Int)+((newM S (ja2 l cs)).length:Int)<=room) :
  ∃ S',ComY w s bm room U S (ja2 l cs) (newM S (ja2 l cs)) e w' S':=by
 rcases jyF w hU hK h0 hs h with⟨_,_,h3⟩ | h3
 ·omega
 ·exact h3
theorem AddK.more{w:vW}{U:vM}(hU:InjL U){S:vT}{m:vL}{L:vM}{S':vT}(h:AddK w U S m L S'){l:vL}(hl:∀ t∈jay l,t∈U)(hM:HasM S l):HasM S' l:=
 h.kp.has w hU hM.ok hl ((h.key _).2 (.inl (by
  obtain⟨x,e,_⟩:=hM.has _ (jbS _)
  exact jdV.1 (by rw[e];rfl))))
theorem AddK.has{w:vW}{U:vM}(hU:InjL U){S:vT}{m:vL}{L:vM}{S':vT}(h:AddK w U S m L S')(hm:jap m=0)(hl:∀ t∈jay m,t∈U):HasM S' m:=
 h.kp.has w hU hm hl ((h.key _).2 (.inr ⟨_,bI (jho hm).head,rfl⟩))
section
attribute [local go_sem] Oper.semAt_some
end
section
attribute [local go_sem] Oper.semAt_some
def twP:vL:=[(⟨#[97]⟩,⟨#[49]⟩),(⟨#[98]⟩,⟨#[50]⟩)]
theorem tw_p:jap twP=0:=by decide +kernel
theorem jmk{m:vL}(h:jap m=0):jcB m=m:=jgz (jf5 (jgc h).2.nodup) (jgc h).2 (jlL m)
theorem jwC:jay twP=[(jav twP).text]:=by decide +kernel
theorem jv9{S:vT}{m:vL}(h:belowM m=[]):newM S m=[(jav m).text]:=by unfold newM;rw[h];rfl
theorem jug(w:vW)(xs:List Chg)(T:TypeId):RdC (w.alloc (.cells (jdB xs).toArray T)) (.slice (some ⟨w.heap.size,0,none⟩) xs.length xs.length) xs:=
 .inr ⟨w.heap.size,0,xs.length,rfl,by simp,bM _,fun j x e=>by
  obtain⟨o,q,z⟩:=jex xs j x e
  exact⟨by rw[cM];exact (Blk.new w _).cellL o,by rw[cM];exact (Blk.new w _).cellL q,by rw[cM];exact (Blk.new w _).cellL z⟩⟩
theorem juh(w:vW)(xs:vL)(T:TypeId):RdP (w.alloc (.cells (jb8 xs).toArray T)) (.slice (some ⟨w.heap.size,0,none⟩) xs.length xs.length) xs:=by
 refine .inr ⟨_,0,_,rfl,(Blk.new w _).lt,bM _,fun j x e=>?_⟩
 obtain⟨o,q⟩:=jdt xs j x e
 exact⟨by rw[cM];exact (Blk.new w _).cellL o,by rw[cM];exact (Blk.new w _).cellL q⟩
theorem jyS{U:vM}{S:vT}(h:Kp U S){k:vB}(hk:k.size≠32):atL S k.data.toList=none:=by
 cases ha:atL S k.data.toList with
 | none=>rfl
 | some y =>
  obtain⟨q,z⟩:=ja6 ha
  obtain⟨t,_,e,_⟩:=h.is y q
  have o:=congrArg List.length (z.symm.trans e);have A:(ky t).length=32:=jbg t;rw[A,jaK]at o;exact absurd o hk
structure jfD(l:vL)(w:World)(s bm:Nat)(S:vT)(w':World):Prop where
 ext:Ext w w'
 st:jaL w' s bm 2000 S
 add:∃ W,AddK W (jay l) [] l (jay l) S
 few:fewB l=true
 inj:InjL (jay l)
 ok:jap l=0
 bnew:w.heap.size<=bm
 snew:w.heap.size<=s
 ne:s≠bm
 new:∀ x∈S,w.heap.size<=x.2.1
def jsT(l:vL)(w:vW)(e:Ending)(w':vW):Prop:=∃ s bm S,e=.returned (.tuple #[.pointer (some ⟨s,0,none⟩),.string (shaB (jav l).text)])/\jfD l w s bm S w'
def jwW(l:vL)(w:vW)(e:Ending)(w':vW):Prop:=jwV l w e w'\/jsT l w e w'
theorem jfD.key{l:vL}{w w':vW}{s bm:Nat}{S:vT}(h:jfD l w s bm S w')(k:Key):k∈S.map (·.1)↔∃ t∈jay l,k=ky t:=by
 obtain⟨W,e⟩:=h.add
 rw[e.key];simp
theorem jfD.kp{l:vL}{w w':vW}{s bm:Nat}{S:vT}(h:jfD l w s bm S w'):Kp (jay l) S:=by
 obtain⟨W,e⟩:=h.add
 exact e.kp
theorem jfD.has{l:vL}{w w':vW}{s bm:Nat}{S:vT}(h:jfD l w s bm S w'):HasM S l:=
 h.kp.has w h.inj h.ok (fun _ h=>h) ((h.key _).2 ⟨_,bI (jho h.ok).head,rfl⟩)
theorem jfD.held{l:vL}{w w':vW}{s bm:Nat}{S:vT}(h:jfD l w s bm S w')(k:Key):jtJ (atL S k)=if k=ky (jav l).text then 1 else 0:=by
 obtain⟨W,e⟩:=h.add
 rw[e.held];show (0:Int)+_=_;omega
theorem jfD.len{l:vL}{w w':vW}{s bm:Nat}{S:vT}(h:jfD l w s bm S w'):S.length<=121:=by
 obtain⟨W,e⟩:=h.add
 have o:=e.len;have q:=jcW h.ok;simp at o;omega
theorem jfD.hb{l:vL}{w w':vW}{s bm:Nat}{S:vT}(h:jfD l w s bm S w'):∀ x∈S,x.2.2.held<=1:=by
 obtain⟨W,e⟩:=h.add
 exact e.bd 0 vO (fun x o=>by cases o)
theorem jn6(w:vW)(hc:jbV w)(he:ErrT w)(v:vV)(l:vL)(hv:RdP w v l)(hn:l.length<=9223372036854775807)(hs:jeN l) :
  vQ 53 #[v] w (jwW l w):=by
 have HC:=Hd hc;have b7:=Hd he;have HV:=Hd hv;have HS:=Hd hs;have HN:=Hd hn
 obtain⟨a,c,rfl⟩:=hv.sl;clear hc hv hs hn he;go_enter Tryz.func53,Tryz.ntmps53;go_wp2_with fail
 refine vH (juX w _ l HV.o HN.o HS.o) fun w2 J=>?_
 obtain⟨fw,a0⟩:=vE (fewB l)
 have a7:=Hd a0;rw[<-a0];clear a0
 by_cases hcl:jap l=0
 case neg =>
  go_wp2_with fail
  refine vH (jlU w2 _ l (HV.o.ext J.o) HN.o HS.o hcl) fun w3 H=>?_;have O:=Hd (J.o.trans H);have a8:=Hd hcl
  obtain⟨x,X⟩:=vE (jap l)
  rw[<-X]at hcl ⊢;have c8:(x == 0)=false:=by simpa using hcl
  have c7:(x != 0)=true:=by simpa using hcl
  clear hcl X J;go_wp2_with fail
  refine (ju5 w3 2000).mono ?_;rintro e w4 ⟨s,bm,rfl,H,_,_,_,_⟩;have K:=Hd (O.o.trans H);clear H O;go_wp2_with fail
  refine (jmC w4 (HC.o.ext K.o) _ [] (.inl ⟨none,0,rfl,rfl⟩) (by simp)).mono ?_;rintro e w5 ⟨b,rfl,_,H⟩;have A:=Hd (K.o.trans H);clear H K;cases fw with
  | false =>
   go_wp2_with fail
   go_ret2;exact .inl ⟨rfl,A.o,fun h=>a8.o h.2.1⟩
  | true =>
   go_wp2_with fail
   go_ret2;exact .inl ⟨rfl,A.o,fun h=>a8.o h.2.1⟩
 have q:=Hd hcl;clear hcl;go_wp2_with fail
 refine (joo w2 _ l (HC.o.ext J.o) (HV.o.ext J.o) q.o).mono ?_;rintro e w3 ⟨u3,n3,rfl,Z⟩;have Z:SRow w2 w3 u3 n3 (jay l):=Z
 obtain⟨L,hL⟩:=vE (jay l)
 have a5:=jcW q.o;have Q:=Hd hL;rw[<-hL]at Z a5;have b8:L.length=n3:=by have:=Z.len;simpa using this
 have a9:=Z.rd
 obtain⟨a3,c3,e3⟩:=Z.sl
 have O:=Hd (J.o.trans Z.ext);subst e3;have b0:=Hd a9;subst b8;clear Z a9 J hL;go_wp2_with fail
 refine (ju5 w3 2000).mono ?_;rintro e w4 ⟨s,bm,rfl,H,hS,b1,b2,b3⟩;have K:=Hd (O.o.trans H);have HZ:=Hd (bB O.o.size b1);have b4:=Hd (bB b2 b3);have b5:=Hd (show jaL w4 s bm 2000 []from hS);have a1:=Hd (b0.o.ext H);clear H hS O b0 b1 b2 b3;go_wp2_with fail
 refine (jmC w4 (HC.o.ext K.o) _ L a1.o vO).mono ?_;rintro e w5 ⟨b,rfl,hb,H⟩;have A:=Hd (K.o.trans H);have b9:=Hd (b5.o.ext H);have c0:=Hd (a1.o.ext H);have HB:=Hd hb;clear H K b5 a1 hb;cases fw with
 | false =>
  go_wp2_with fail
  go_ret2;exact .inl ⟨rfl,A.o,fun h=>by have:=a7.o;rw[h.1]at this;cases this⟩
 | true =>
  cases b with
  | false =>
   go_wp2_with fail
   go_ret2;refine .inl ⟨rfl,A.o,fun h=>?_⟩
   have:=HB.o.2 (by rw[Q.o];exact h.2.2)
   cases this
  | true =>
   have HI:=Hd (show InjL (jay l) by rw[<-Q.o];exact HB.o.1 rfl);have c1:=Hd (show jxc L by rw[Q.o];exact jpW w q.o (by have:=jcW q.o;exact bK this vI));have b6:=Hd (show L[0]?=some (jav l).text by rw[Q.o];exact (jho q.o).head)
   obtain⟨tp,a2⟩:=vE (jav l).text
   rw[<-a2]at b6;have c9:=Hd a2;clear a2;go_wp2_with fail
   have c2:=Hd (jgN c1.o.node);refine (jmz w5 (HC.o.ext A.o) (b7.o.ext A.o) s bm 2000 [] b9.o _ L c0.o False c2.o (by have:=jcW q.o;rw[Q.o];omega) tp b6.o vI vI (by simp) (fun x X=>by cases X) (fun x X=>by cases X)).mono ?_;rintro e w6 hP;rw[Q.o]at hP;have E:=jos [] q.o;rcases hP with⟨k,hwhy,_,_,_⟩ |⟨top,G,M,htop,hY⟩
   ·have h1:=(E.why w hwhy).2
    have h2:=jcW q.o;simp at h1;omega
   have a6:top=(jav l).text:=by have:=E.head;rw[htop]at this;exact bV this
   subst a6;have hK:=E.add w5 HI.o (Kp.none _) (fun _ h=>h) (by have:=jcW q.o;omega) hY;have c4:=hY.res;subst c4;have HF:=Hd (bB hY.st hK);have a4:=hY.kp;have c5:=Hd (A.o.trans' a4 (fun z hz e=>by
    rcases e with e | e
    ·have:=HZ.o;omega
    ·simp at e))
   have c6:=Hd (bB A.o.size a4.size);clear hY hK a4 htop E;go_wp2_with fail
   go_ret2;exact .inr ⟨s,bm,_,rfl,⟨c5.o,HF.o.1,⟨w5,HF.o.2⟩,a7.o.symm,HI.o,q.o,by have:=HZ.o;omega,by have:=HZ.o;have:=b4.o;omega,b4.o.2,fun x X=>by
    rcases HF.o.2.blk x X with h | h
    ·simp at h
    ·have:=c6.o;omega⟩⟩
structure Tst(W0 W:World)(s bm:Nat)(room:Int)(U:vM)(S:vT)(n:Nat):Prop where
 ext:Ext W0 W
 st:jaL W s bm room S
 kp:Kp U S
 len:S.length<=n
 bnew:W0.heap.size<=bm
 new:∀ x∈S,W0.heap.size<=x.2.1
 hb:∀ x∈S,x.2.2.held<=n
theorem Tst.grow{W0 W W':vW}{s bm:Nat}{room:Int}{U:vM}{S:vT}{n:Nat}(h:Tst W0 W s bm room U S n)(k:Ext W W'):Tst W0 W' s bm room U S n:=
 ⟨h.ext.trans k,h.st.ext k,h.kp,h.len,h.bnew,h.new,h.hb⟩
theorem Tst.more{W0 W:vW}{s bm:Nat}{room:Int}{U V:vM}{S:vT}{n:Nat}(h:Tst W0 W s bm room U S n)(hs:∀ t∈U,t∈V):Tst W0 W s bm room V S n:=
 ⟨h.ext,h.st,h.kp.mono hs,h.len,h.bnew,h.new,h.hb⟩
theorem Tst.bds{W0 W:vW}{s bm:Nat}{room:Int}{U:vM}{S:vT}{n:Nat}(h:Tst W0 W s bm room U S n)(hn:n<=5000):S.length<=100000/\(∀ x∈S,0<=x.2.2.used/\x.2.2.used<=1000000000)/\(∀ x∈S,0<=x.2.2.held/\x.2.2.held<=1000000000):=
 ⟨by have:=h.len;omega,h.kp.bd (by have:=h.len;omega),fun x e=>⟨h.kp.cnt.held x e,by have:=h.hb x e;omega⟩⟩
theorem Tst.add{W0 W W':vW}{s bm:Nat}{room:Int}{U:vM}{S S':vT}{n k:Nat}{m:vL}{L:vM}{e:Ending}(h:Tst W0 W s bm room U S n)(hL:L.length<=k)(h1:1<=k)(hY:ComY W s bm room U S m L e W' S'):Tst W0 W' s bm room U S' (n+k):=
 ⟨h.ext.trans' hY.kp (fun z A e=>by
  rcases e with e | e
  ·have:=h.bnew;omega
  ·obtain⟨y,o,e⟩:=bH.1 e
   have:=h.new y o;omega),hY.st,hY.add.kp,by have:=hY.add.len;have:=h.len;omega,h.bnew,fun x q=>by
  rcases hY.add.blk x q with e | e
  ·obtain⟨y,o,e⟩:=bH.1 e
   have:=h.new y o;omega
  ·have:=h.ext.size;omega,fun x q=>by
   have:=hY.add.bd n vO h.hb x q
   omega⟩
theorem jfD.tst{l:vL}{w w':vW}{s bm:Nat}{S:vT}(h:jfD l w s bm S w'):Tst w w' s bm 2000 (jay l) S 121:=
 ⟨h.ext,h.st,h.kp,h.len,h.bnew,h.new,fun x e=>by have:=h.hb x e;omega⟩
end
def dwQ:vL:=[(⟨#[98]⟩,⟨#[50]⟩),(⟨#[99]⟩,⟨#[51]⟩)]
def dwC:List Chg:=[⟨⟨#[97]⟩,⟨#[]⟩,true⟩,⟨⟨#[99]⟩,⟨#[51]⟩,false⟩]
theorem dw_q:jap dwQ=0:=by decide +kernel
theorem dw_e:ja3 twP dwC=0:=by decide +kernel
theorem dw_a:ja2 twP dwC=dwQ:=by unfold ja2;rw[show jc6 twP dwC=dwQ by decide +kernel,jmk dw_q]
theorem jyK:ja3 twP []=0:=by decide +kernel
theorem jyG:ja2 twP []=twP:=by unfold ja2;rw[show jc6 twP []=twP by decide +kernel,jmk tw_p]
def dwU:vM:=[(jav twP).text,(jav dwQ).text]
theorem dw_t:jay dwQ=[(jav dwQ).text]:=by decide +kernel
theorem jqZ:∀ t∈jay twP,t∈dwU:=by rw[jwC];intro t e;rw[bO.1 e];simp[dwU]
theorem jxw:∀ t∈jay dwQ,t∈dwU:=by rw[dw_t];intro t e;rw[bO.1 e];simp[dwU]
theorem jjc:InjL dwU:=by unfold InjL;decide +kernel
theorem jnR:jkV dwU:=fun t e=>by
 rcases bJ.1 e with rfl | e
 ·exact jcj tw_p _ (by rw[jwC];exact bD)
 ·rw[bO.1 e]
  exact jcj dw_q _ (by rw[dw_t];exact bD)
theorem dw_b:belowM dwQ=[]:=by rw[jhq dw_q];decide +kernel
theorem jxv:fewB twP=true:=by decide +kernel
theorem jvH:InjL (jay twP):=fun x o y q e=>jjc x (jqZ x o) y (jqZ y q) e
theorem jxz:rootM dwQ≠rootM twP:=by unfold rootM;decide +kernel
theorem jxx:jbH ⟨#[97]⟩ ⟨#[98]⟩=true:=by decide +kernel
theorem jpm:jbH ⟨#[98]⟩ ⟨#[98]⟩=false:=by decide +kernel
theorem jyL:jbH ⟨#[98]⟩ ⟨#[97]⟩=false:=by decide +kernel
theorem jxy:jbH ⟨#[97]⟩ ⟨#[97]⟩=false:=by decide +kernel
theorem jvI:((⟨#[50]⟩:vB).toList ==(⟨#[50]⟩:vB).toList)=true:=by decide +kernel
theorem jyO:((⟨#[49]⟩:vB).toList ==(⟨#[49]⟩:vB).toList)=true:=by decide +kernel
theorem jyH:jbP twP dwQ=dwC:=by
 unfold jbP;rw[if_pos ⟨tw_p,dw_q⟩];unfold twP dwQ dwC;rw[jaN,if_pos jxx,jaN,if_neg (by rw[jpm];simp),if_neg (by rw[jpm];simp),if_pos jvI];simp[jaN]
theorem jyI:jbP dwQ twP=[⟨⟨#[97]⟩,⟨#[49]⟩,false⟩,⟨⟨#[99]⟩,⟨#[]⟩,true⟩]:=by
 unfold jbP;rw[if_pos ⟨dw_q,tw_p⟩];unfold twP dwQ;rw[jaN,if_neg (by rw[jyL];simp),if_pos jxx,jaN,if_neg (by rw[jpm];simp),if_neg (by rw[jpm];simp),if_pos jvI];simp[jaN]
theorem jyJ:jbP twP twP=[]:=by
 unfold jbP;rw[if_pos ⟨tw_p,tw_p⟩];unfold twP;rw[jaN,if_neg (by rw[jxy];simp),if_neg (by rw[jxy];simp),if_pos jyO,jaN,if_neg (by rw[jpm];simp),if_neg (by rw[jpm];simp),if_pos jvI];simp[jaN]
theorem jbJ{l:vL}{t:vB}:t∈jao (jav l)↔t∈jay l:=(jaM _ _).symm
theorem dw_f{B:vM}(h:jvg twP dwQ B):B=[rootM dwQ]:=by
 have e:∀ k,k∈B↔k=rootM dwQ:=fun k=>by
  rw[h.2];constructor
  ·rintro⟨⟨t,o,rfl⟩,_⟩
   rw[jbJ,dw_t]at o;rw[bO.1 o];rfl
  ·rintro rfl
   refine⟨⟨_,jbS _,rfl⟩,?_⟩
   rintro⟨t,o,e⟩
   rw[jbJ,jwC]at o;rw[bO.1 o]at e;exact jxz e
 have q:=h.1
 match B,q,e with
 | [],_,e=>exact absurd ((e (rootM dwQ)).2 rfl) cJ
 | [x],_,e=>rw[(e x).1 bD]
 | x :: y :: r,q,e =>
  have z:=(e x).1 bD;have A:=(e y).1 (bC _ bD);rw[dH]at q;exact absurd (by rw[z, <-A];exact bD:x∈y :: r) q.1
theorem dw_s:baL (jej ([rootM dwQ].map fun h=>h.data.toList))=[rootM dwQ]:=by
 unfold baL jej
 simp
theorem jqY:∀ c∈dwC,c.key.size<=9223372036854775807/\c.value.size<=9223372036854775807:=by unfold dwC;simp;decide
theorem jxA:jeN twP:=fun p e=>by have:=(jau tw_p).size p e;omega
def jff(c:Chg):Bool:=decide (c.key.size<=20) && decide (c.value.size<=100)
def fewC(l:List Chg):Bool:=l.all jff && decide (l.length<=45)
def jwS(w:vW)(l:List Chg)(i:vV)(wr:vW):Prop:=∃ k:Nat,k<=l.length/\k<=46/\i=.int .i64 k/\Ext w wr/\(l.take k).all jff=true
theorem jqg{l:List Chg}{k:Nat}{p:Chg}(h:l[k]?=some p):(l.take (k+1)).all jff=((l.take k).all jff && jff p):=by
 rw[cE,h,List.all_append];simp
theorem jnw{l:List Chg}{k:Nat}{p:Chg}(h:l[k]?=some p)(hb:jff p=false):fewC l=false:=by
 unfold fewC
 have:l.all jff=false:=by
  rw[gA];intro e
  have:=dS.1 e p (bI h)
  rw[hb]at this;cases this
 rw[this];rfl
theorem jq2(w:vW)(v:vV)(l:List Chg)(hv:RdC w v l)(hn:l.length<=9223372036854775807)(hs:∀ p∈l,p.key.size<=9223372036854775807/\p.value.size<=9223372036854775807) :
  vR 13 #[v] w (.bool (fewC l)):=by
 have HV:=Hd hv;have HS:=Hd hs
 obtain⟨a,c,rfl⟩:=hv.sl;clear hv hs
 obtain⟨R,K⟩:=vE (fewC l)
 rw[<-K];have H:=Hd K;clear K;go_enter Tryz.func13,Tryz.ntmps13;go_wp2_with fail
 go_loopw [3] (fun i wr=>jwS w l i wr) (fun i _=>l.length - (intOf i).toNat)
 case atStart=>exact⟨0,by omega,by omega,rfl,ExtR w,rfl⟩
 case round =>
  obtain⟨k,hk,a1,rfl,hE,e⟩:=hrel
  have q:=Hd hE;have A:=Hd e;clear hE e
  by_cases hlt:k < l.length
  ·have b1:(k:Int) < (l.length:Int):=vO
   by_cases h45:k<=45
   ·have O:(k:Int)<=45:=vO
    obtain⟨p,J⟩:∃ p,l[k]?=some p:=⟨_,bA hlt⟩
    rcases HV.o with⟨_,_,_,h0⟩ |⟨b,o,c1,hh,hb,hc,hcell⟩
    ·rw[h0]at hlt;cases hlt
    cases hh
    obtain⟨Q,X,Z⟩:=hcell k p J
    have Q:=jaa Q q.o;have X:=jaa X q.o;have Z:=jaa Z q.o;have a0:=HS.o p (bI J);have HP:=Hd J
    obtain⟨x,y,gn⟩:=p
    simp only at Q X Z a0;clear hcell hb hc J
    by_cases hx:20 < x.size
    ·have b3:(20:Int) < (x.size:Int):=vO
     have z:=Hd (show R=false by rw[H.o];exact jnw HP.o (by unfold jff;simp;omega));clear hx;go_wp2_with fail
     go_ret
     exact⟨by rw[z.o];rfl,q.o⟩
    ·have b3:¬(20:Int) < (x.size:Int):=vO
     by_cases hy:100 < y.size
     ·have b4:(100:Int) < (y.size:Int):=vO
      have z:=Hd (show R=false by rw[H.o];exact jnw HP.o (by unfold jff;simp;omega));clear hx hy;go_wp2_with fail
      go_ret
      exact⟨by rw[z.o];rfl,q.o⟩
     ·have b4:¬(100:Int) < (y.size:Int):=vO
      have HG:=Hd (show (l.take (k+1)).all jff=true by rw[jqg HP.o,A.o];unfold jff;simp;omega);clear hx hy;go_wp2_with fail
      go_roundw
      case rel=>exact⟨k+1,by omega,by omega,by go_num,q.o,HG.o⟩
      case measure=>exact vJ
   ·have O:¬(k:Int)<=45:=vO
    have b3:¬(l.length:Int)<=45:=vO
    have z:=Hd (show R=false by rw[H.o];unfold fewC;simp;omega);clear h45;go_wp2_with fail
    go_ret
    exact⟨by rw[z.o];rfl,q.o⟩
  ·have E:k=l.length:=vO
   have b1:¬(k:Int) < (l.length:Int):=vO
   have e:=A.o;rw[E,cG]at e
   by_cases h45:l.length<=45
   ·have O:(l.length:Int)<=45:=vO
    have z:=Hd (show R=true by rw[H.o];unfold fewC;rw[e];simp;omega);clear E e h45;go_wp2_with fail
    go_ret
    exact⟨by rw[z.o];rfl,q.o⟩
   ·have O:¬(l.length:Int)<=45:=vO
    have z:=Hd (show R=false by rw[H.o];unfold fewC;simp;omega);clear E e h45;go_wp2_with fail
    go_ret
    exact⟨by rw[z.o];rfl,q.o⟩
theorem jvO{d:Option TypeDesc}(h:jgU d [(false,9,0),(false,9,1),(false,4,2)]=true):∃ f g e:Field,d=some (.struct #[f,g,e])/\(f.name ≠ "_"/\f.type=9/\f.offset=0)/\(g.name ≠ "_"/\g.type=9/\g.offset=1)/\e.name ≠ "_"/\e.type=4/\e.offset=2:=by
 cases d with
 | none=>cases h
 | some d =>
  cases d <;> try (cases h;done)
  rename_i fs
  obtain⟨l⟩:=fs
  rcases l with _ |⟨f,_ |⟨g,_ |⟨e,_ |⟨z,r⟩⟩⟩⟩ <;> simp[jgU]at h
  obtain⟨o,q,A⟩:=h
  exact⟨f,g,e,rfl,o,q,A⟩
theorem Tryz.chgFields:jgU (Tryz.prog.underlying 59) [(false,9,0),(false,9,1),(false,4,2)]=true:=vY
theorem Tryz.chgHeld:Tryz.prog.stoodInHeld 59=false:=vY
theorem Tryz.boolAgg(w:vW):(isAgg 4).run Tryz.prog w=.ok false w:=vY
theorem jxD(d:Nat)(a b:Bool)(w:vW):(Op.equalIn (d+1) 4 (.bool a) (.bool b)).run Tryz.prog w=.ok (a == b) w:=by
 simp[Op.equalIn,bT,run_underlying Tryz.underlying4,Result.andThen,cI]
theorem jut(x:vB):(x == x)=true:=by rw[jhM];simp
theorem jv7(x y:vB)(g:Bool)(w:vW):(binOp .neq 59 (.agg #[.string x,.string y,.bool g]) (.agg #[.string x,.string y,.bool g])).run Tryz.prog w=.ok (.bool false) w:=by
 obtain⟨f,k,e,H,⟨J,K,O⟩,⟨Q,X,Z⟩,h7,h8,h9⟩:=jvO Tryz.chgFields
 have o:∀ (u v z:vV) w,(part 9 #[u,v,z] 0).run Tryz.prog w=.ok u w:=fun u v z w=>by
  simp[part,bT,Tryz.strAgg,Result.andThen,cI]
 have q:∀ (u v z:vV) w,(part 9 #[u,v,z] 1).run Tryz.prog w=.ok v w:=fun u v z w=>by
  simp[part,bT,Tryz.strAgg,Result.andThen,cI]
 have A:∀ (u v z:vV) w,(part 4 #[u,v,z] 2).run Tryz.prog w=.ok z w:=fun u v z w=>by
  simp[part,bT,Tryz.boolAgg,Result.andThen,cI]
 have he:∀ d,(Op.equalIn (d+2) 59 (.agg #[.string x,.string y,.bool g]) (.agg #[.string x,.string y,.bool g])).run Tryz.prog w=.ok true w:=fun d=>by
  rw[Op.equalIn];simp only[bT,run_underlying H,Result.andThen];simp[bT,Result.andThen,Sem.run,Tryz.chgHeld,J,K,O,Q,X,Z,h7,h8,h9,o,q,A,jvM,jxD,jut]
 have E:(Op.equal 59 (.agg #[.string x,.string y,.bool g]) (.agg #[.string x,.string y,.bool g])).run Tryz.prog w=.ok true w:=he 9998;simp only[binOp,bT,E,Result.andThen,cI];rfl
theorem Tryz.isChange:jgm (Tryz.prog.underlying 59)=true:=vY
theorem Tryz.szChange:(Tryz.prog.info? 59).map (·.size)=some 3:=vY
theorem joe{w:vW}{b o:Nat}{x y:vB}{g:Bool}(h1:w.cell? ⟨b,o,none⟩=some (.string x))(h2:w.cell? ⟨b,o+1,none⟩=some (.string y))(h3:w.cell? ⟨b,o+2,none⟩=some (.bool g)):(Instr.loadAt 59 (.pointer (some ⟨b,o,none⟩))).run Tryz.prog w=.ok (.agg #[.string x,.string y,.bool g]) w:=by
 obtain⟨z,q⟩:=jfA Tryz.isChange
 refine jdS (xs:=[.string x,.string y,.bool g]) q Tryz.szChange (fun j v e=>?_);rw[Addr.add_lit]
 match j,e with
 | 0,e=>simp at e;subst e;exact h1
 | 1,e=>simp at e;subst e;exact h2
 | 2,e=>simp at e;subst e;exact h3
 | j+3,e=>simp at e
def jyt(w:vW)(l:List Chg)(v:vV)(wr:vW):Prop:=∃ i:Nat,i<=l.length/\v=.int .i64 i/\Ext w wr
theorem jst(w:vW)(v u:vV)(l:List Chg)(hv:RdC w v l)(hu:RdC w u l)(hn:l.length<=1000000):vR 25 #[v,u] w (.bool true):=by
 obtain⟨a,c,A⟩:=hv.sl
 obtain⟨a',c',z⟩:=hu.sl
 have HV:=Hd hv;have HU:=Hd hu;subst A;subst z;clear hv hu;go_enter Tryz.func25,Tryz.ntmps25;go_wp2_with fail
 go_loopw [5] (fun i wr=>jyt w l i wr) (fun i _=>l.length - (intOf i).toNat)
 case atStart=>exact⟨0,by omega,rfl,ExtR w⟩
 case round =>
  obtain⟨i,hi,rfl,Q⟩:=hrel
  have q:=Hd Q;clear Q
  by_cases hlt:i < l.length
  ·rcases HV.o with⟨_,_,_,h0⟩ |⟨b,o,c1,hh,hb,hc,hcell⟩
   ·rw[h0]at hlt;cases hlt
   rcases HU.o with⟨_,_,_,h0⟩ |⟨b',o',c2,hh',hb',hc',hcell'⟩
   ·rw[h0]at hlt;cases hlt
   cases hh;cases hh'
   obtain⟨p,E⟩:∃ p,l[i]?=some p:=⟨_,bA hlt⟩
   obtain⟨X,Z,q3⟩:=hcell i p E
   obtain⟨q4,q5,q6⟩:=hcell' i p E
   have H:Hid (∀ w1,Ext wr w1->(Instr.loadAt 59 (.pointer (some ⟨b,o+i * 3,none⟩))).run Tryz.prog w1=.ok (.agg #[.string p.key,.string p.value,.bool p.gone]) w1):=fun w1 e=>joe (jaa X (q.o.trans e)) (jaa Z (q.o.trans e)) (jaa q3 (q.o.trans e));have J:Hid (∀ w1,Ext wr w1->(Instr.loadAt 59 (.pointer (some ⟨b',o'+i * 3,none⟩))).run Tryz.prog w1=.ok (.agg #[.string p.key,.string p.value,.bool p.gone]) w1):=fun w1 e=>joe (jaa q4 (q.o.trans e)) (jaa q5 (q.o.trans e)) (jaa q6 (q.o.trans e));have K:=Hd (fun w=>jv7 p.key p.value p.gone w);have b1:(i:Int) < (l.length:Int):=vO
   clear hcell hcell' E X Z q3 q4 q5 q6 hc hc' hb hb';go_wp2_with fail
   refine jak [0,1,2,3,4,5,6,7,8] Ext ExtR ExtT vY vY vY ?_;iterate 3 refine vK ?_
   refine qKL ⟨b,o+i * 3,none⟩ _ rfl (fun w1 e=>H.o w1 ((jam wr).trans e)) ?_;refine vS ?_;iterate 3 refine vK ?_
   refine qKL ⟨b',o'+i * 3,none⟩ _ rfl (fun w1 e=>J.o w1 ((jam wr).trans e)) ?_;refine vS ?_;refine jcp _ (.bool false) rfl vY rfl (fun w1 e=>jtA rfl rfl vY (K.o w1)) ?_;refine vS ?_;refine qKE (fun w3 he=>?_);have O:=Hd ((q.o.trans (jam wr)).trans he);clear he;go_wp2_with fail
   go_roundw
   case rel=>exact⟨i+1,by omega,by go_num,O.o⟩
   case measure=>exact vJ
  ·have b1:¬(i:Int) < (l.length:Int):=vO
   go_wp2_with fail
   go_ret
   exact⟨rfl,q.o⟩
end Go.Proofs.YtmobgkphhbmhbaaGreatDoor
