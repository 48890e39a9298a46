/- Lemmas; each is under no condition but those that it states. -/
import Derived.Test.YtegloohdmjadoaaGreatDoorPu32
namespace Go.Proofs.YtegloohdmjadoaaGreatDoor
set_option linter.unusedSimpArgs false
set_option linter.unusedVariables false
set_option maxRecDepth 100000
set_option maxHeartbeats 16000000
section
open Go Go.RowKit
attribute [local go_sem] Oper.semAt_some
theorem jw8(W:vW)(x:vB):vQ 112 #[.string x] W fun e w'=>e=.returned (.tuple #[])/\w'=W:=by
 go_enter Tryz.func112,Tryz.ntmps112;go_wp2_with fail
 refine bodyPost_end (results_none rfl _ _ _) rfl ?_
 exact⟨rfl,rfl⟩
theorem jAB(W:vW)(s bm:Nat)(room:Int)(S:vT)(hs:jaT W s bm room S)(k:vB)(y:Nd5)(hy:atL S k.data.toList=some y)(f:Nat)(n:jad)(hg:jbI (InlD f) n)(ht:y.2.2.text=jaO n) :
  vR 87 #[.pointer (some ⟨s,0,none⟩),.string k,.func (.func 112) #[] #[]] W (.tuple #[n.V,.bool true]):=by
 have hn:=(hg.one (inlP f)).refs;have HN:=Hd hn;have HG:=Hd hg;have HL:=Hd (n.cells_len hn);have m:=fun w (h:jaT w s bm room S)=>ji8 w s bm room S k h;rw[hy]at m;simp only[gB,optV]at m;have J:=Hd m;have HS:=Hd hs
 obtain⟨t,K⟩:=vE y.2.2.text
 rw[<-K]at J ht;have HT:=Hd ht;clear m hs hg ht hn hy K;go_enter Tryz.func87,Tryz.ntmps87;go_wp2_with (refine jaj Tryz.allocNode rfl rfl ?_;intro W1 O E)
 refine vC (J.o W1 (HS.o.ext E)) fun w3 H=>?_;have Q:=Hd (O.keeps H (fun h=>h));have X:=Hd (E.trans H);clear H O E;go_wp2_with fail
 refine (jw8 w3 t).mono ?_;rintro e w4 ⟨rfl,rfl⟩;go_wp2_with fail
 rw[HT.o];refine vC (jiz (inlP f) w4 n HG.o) fun w5 H=>?_;rw[<-HT.o];have A:=Q.o.keeps H (fun h=>h);have Z:=Hd H;clear H Q;unfold jad.V;go_wp2_with (first |(refine jaj Tryz.allocNode rfl rfl ?_;intro W5 a3 a1;refine jag (vs:=n.cells) rfl rfl rfl rfl a3 (by rw[HL.o];rfl) (by rw[HL.o];exact Tryz.szNode) n.one ?_;intro W6 a4 a2;have a0:=(A.keeps a1 (fun h=>h)).keeps a2 (by have:=A.lt;omega)) |(refine jaf 110 (.tmp 10) rfl rfl _ _ rfl (jaq _ _ n HN.o a4) ?_) |(refine jag (vs:=n.cells) rfl rfl rfl rfl a0 (by rw[HL.o];rfl) (by rw[HL.o];exact Tryz.szNode) n.one ?_;intro W8 a5 a6))
 refine bodyPost_ret (jaC rfl rfl rfl (jas W8 _ n HN.o a5)) rfl ?_;have a7:Ext W W6:=(((X.o.trans Z.o).trans a1)).trans' a2 (fun x hx e=>by have e:x=w5.heap.size:=e;have:=Z.o.size;have:=X.o.size;omega)
 exact⟨rfl,a7.trans' a6 (fun x hx e=>by have e:x=W.heap.size:=e;omega)⟩
section
variable (w0:vW) (s bm:Nat) (room:Int) (S:vT) (rb:Nat)
structure RdS0:Prop where
 st:jaT w0 s bm room S
 nodes:jec S
 new:w0.heap.size<=rb
def jqI(f:Nat):Prop:=∀ n d,jbI (InlD d) n->∀ (W:vW) (left:Nat),Ext w0 W->RdAt W rb s left->left<=f->left<=160->vQ 113 #[.pointer (some ⟨rb,0,none⟩),n.V] W (RdO W rb s (jbT (gRef S) f n left))
def RefC(f:Nat):Prop:=∀ r d,MayP (InlD d) r->∀ (W:vW) (left:Nat),Ext w0 W->RdAt W rb s left->left<=f->left<=160->vQ 149 #[.pointer (some ⟨rb,0,none⟩),.string r] W (RdO W rb s ((gRef S r).bind fun m=>jbT (gRef S) f m left))
noncomputable def gHash(h:vB):Option jad:=(atL S h.data.toList).map fun x=>nodeOf x.2.2.text
def jyn(f:Nat):Prop:=∀ h,∀ (W:vW) (left:Nat),Ext w0 W->RdAt W rb s left->left<=f->left<=160->vQ 81 #[.pointer (some ⟨rb,0,none⟩),.string h] W (RdO W rb s ((gHash S h).bind fun m=>jbT (gRef S) f m left))
end
theorem RdAt.ext{W W':vW}{rb s left:Nat}(h:RdAt W rb s left)(e:Ext W W'):RdAt W' rb s left:=h.keeps e (fun e=>e)
theorem jrU(w0:vW)(s bm:Nat)(room:Int)(S:vT)(rb:Nat)(hR:RdS0 w0 s bm room S rb)(h:vB)(W:vW)(left:Nat)(m:Ext w0 W)(hr:RdAt W rb s left)(ha:atL S h.data.toList=none) :
  vQ 81 #[.pointer (some ⟨rb,0,none⟩),.string h] W (RdO W rb s none):=by
 have A:=jq2 W s bm room S (hR.st.ext m) (.func (.func 112) #[] #[]) h ha;have H:=Hd A;have X:=Hd hr;unfold RdAt at hr;have q0:=hr.cell (i:=0) (v:=.pointer (some ⟨s,0,none⟩)) vF;clear A hr hR m ha;go_enter Tryz.func81,Tryz.ntmps81;go_wp2_with fail
 refine H.o.mono ?_;rintro e w1 ⟨rfl,m⟩;have Q:=Hd m;clear m;unfold jad.V;go_wp2_with (first |(refine jaj Tryz.allocNode rfl rfl ?_;intro W5 J K;refine jag (vs:=jav.cells) rfl rfl rfl rfl J rfl Tryz.szNode jav.one ?_;intro Z a0 O))
 go_ret2;have E:Ext W Z:=(Q.o.trans K).trans' O (fun x hx e=>by have e:x=w1.heap.size:=e;have:=Q.o.size;omega)
 exact⟨E.mono (fun _ _ e=>e.elim),_,left,rfl,.inl rfl,X.o.ext E⟩
theorem jrT(w0:vW)(s bm:Nat)(room:Int)(S:vT)(rb:Nat)(hR:RdS0 w0 s bm room S rb)(f:Nat)(hN:jqI w0 s S rb f)(h:vB)(W:vW)(left:Nat)(H:Ext w0 W)(hr:RdAt W rb s left)(hf:left<=f)(h160:left<=160)(y:Nd5)(ha:atL S h.data.toList=some y) :
  vQ 81 #[.pointer (some ⟨rb,0,none⟩),.string h] W (RdO W rb s (jbT (gRef S) f (nodeOf y.2.2.text) left)):=by
 obtain⟨n0,J⟩:=hR.nodes y (ja7 ha).1
 have hn:=jci J
 obtain⟨n,K⟩:=vE (nodeOf y.2.2.text)
 rw[<-K]at hn ⊢
 obtain⟨ht,d,hg⟩:=hn
 have E:=(hg.one (inlP d)).refs;have a4:=Hd E;have HL:=Hd (n.cells_len E);have O:=jAB W s bm room S (hR.st.ext H) h y ha d n hg ht;have a5:=Hd O;have HR:=Hd hr;have Q:=Hd (show ∀ w,Ext W w->vQ 113 #[.pointer (some ⟨rb,0,none⟩),n.V] w (RdO w rb s (jbT (gRef S) f n left))from fun w e=>hN n d hg w left (H.trans e) (hr.ext e) hf h160);unfold RdAt at hr;have q0:=hr.cell (i:=0) (v:=.pointer (some ⟨s,0,none⟩)) vF
 obtain⟨o,ho⟩:=vE (jbT (gRef S) f n left)
 rw[<-ho]at Q ⊢;clear O hr hR H ha J K ht hg E hN ho;go_enter Tryz.func81,Tryz.ntmps81;go_wp2_with fail
 refine a5.o.mono ?_;rintro e w1 ⟨rfl,H⟩;have HE:=Hd H;clear H;unfold jad.V;go_wp2_with (first |(refine jaj Tryz.allocNode rfl rfl ?_;intro W5 X Z;refine jag (vs:=n.cells) rfl rfl rfl rfl X (by rw[HL.o];rfl) (by rw[HL.o];exact Tryz.szNode) n.one ?_;intro W6 a0 a1) |(refine jaf 110 (.tmp 6) rfl rfl _ _ rfl (jaq _ _ n a4.o a0) ?_))
 have a2:Ext W W6:=(HE.o.trans Z).trans' a1 (fun x hx e=>by have e:x=w1.heap.size:=e;have:=HE.o.size;omega);have HX:=Hd a2;clear a2 X Z a0 a1;refine (Q.o W6 HX.o).mono ?_;intro e w7 hO
 obtain⟨hk,a3⟩:=hO
 cases o with
 | none =>
  obtain⟨v,l,rfl,hv,m⟩:=a3
  have A:=Hd (bB hk (bB hv m));clear hk m;rcases hv with rfl |⟨T,x,rfl⟩
  ·go_wp2_with fail
   go_ret2
   exact⟨(HX.o.mono (fun _ _ e=>e.elim)).trans A.o.1,_,l,rfl,.inl rfl,A.o.2.2⟩
  ·go_wp2_with fail
   go_ret2
   exact⟨(HX.o.mono (fun _ _ e=>e.elim)).trans A.o.1,_,l,rfl,.inr ⟨T,x,rfl⟩,A.o.2.2⟩
 | some Pl =>
  obtain⟨P,l⟩:=Pl
  obtain⟨T,x,rfl,hP,m⟩:=a3
  have A:=Hd (bB hk (bB hP m));clear hk hP m;go_wp2_with fail
  go_ret2
  exact⟨(HX.o.mono (fun _ _ e=>e.elim)).trans A.o.1,T,x,rfl,A.o.2.1.mono (fun z hz=>⟨bG HX.o.size hz.1,hz.2⟩),A.o.2.2⟩
theorem js9(w0:vW)(s bm:Nat)(room:Int)(S:vT)(rb:Nat)(hR:RdS0 w0 s bm room S rb)(f:Nat)(hN:jqI w0 s S rb f):jyn w0 s S rb f:=by
 intro h W left m o A e;unfold gHash;cases ha:atL S h.data.toList with
 | none=>exact jrU w0 s bm room S rb hR h W left m o ha
 | some y=>exact jrT w0 s bm room S rb hR f hN h W left m o A e y ha
end
section
open Go Go.RowKit
attribute [local go_sem] Oper.semAt_some
theorem jiC(r:vB):jkr r=jcL r:=by
 unfold jkr jcL;cases cutN r <;> rfl
theorem jvm(w0:vW)(s:Nat)(S:vT)(rb:Nat)(f:Nat)(hH:jyn w0 s S rb f)(r h:vB)(hrh:jcL r=some h)(hs:r.size<=1000)(W:vW)(left:Nat)(J:Ext w0 W)(hr:RdAt W rb s left)(hf:left<=f)(h160:left<=160) :
  vQ 149 #[.pointer (some ⟨rb,0,none⟩),.string r] W (RdO W rb s ((gHash S h).bind fun m=>jbT (gRef S) f m left)):=by
 have A:=jfB W r vO;rw[jiC,hrh]at A;unfold optV at A;have HA:=Hd A;have X:=Hd (show ∀ w,Ext W w->vQ 81 #[.pointer (some ⟨rb,0,none⟩),.string h] w (RdO w rb s ((gHash S h).bind fun m=>jbT (gRef S) f m left))from fun w e=>hH h w left (J.trans e) (hr.ext e) hf h160)
 obtain⟨o,Z⟩:=vE ((gHash S h).bind fun m=>jbT (gRef S) f m left)
 rw[<-Z]at X ⊢;clear hH hrh hs J hr hf h160 A Z;go_enter Tryz.func149,Tryz.ntmps149;go_wp2_with fail
 refine HA.o.mono ?_;rintro e w1 ⟨rfl,J⟩;have K:=Hd J;clear J;go_wp2_with fail
 refine (X.o w1 K.o).mono ?_;intro e w7 hO
 obtain⟨Q,O⟩:=hO
 cases o with
 | none =>
  obtain⟨v,l,rfl,hv,E⟩:=O
  have H:=Hd (bB Q (bB hv E));clear Q E;rcases hv with rfl |⟨T,x,rfl⟩
  ·go_wp2_with fail
   go_ret2
   exact⟨(K.o.mono (fun _ _ e=>e.elim)).trans H.o.1,_,l,rfl,.inl rfl,H.o.2.2⟩
  ·go_wp2_with fail
   go_ret2
   exact⟨(K.o.mono (fun _ _ e=>e.elim)).trans H.o.1,_,l,rfl,.inr ⟨T,x,rfl⟩,H.o.2.2⟩
 | some Pl =>
  obtain⟨P,l⟩:=Pl
  obtain⟨T,x,rfl,hP,E⟩:=O
  have H:=Hd (bB Q (bB hP E));clear Q hP E;go_wp2_with fail
  go_ret2
  exact⟨(K.o.mono (fun _ _ e=>e.elim)).trans H.o.1,T,x,rfl,H.o.2.1.mono (fun z hz=>⟨bG K.o.size hz.1,hz.2⟩),H.o.2.2⟩
theorem jxC(w0:vW)(s:Nat)(S:vT)(rb:Nat)(f:Nat)(hN:jqI w0 s S rb f)(r:vB)(d:Nat)(n:jad)(hi:InlD (d+1) r n)(hs:r.size<=1000)(W:vW)(left:Nat)(hE:Ext w0 W)(hr:RdAt W rb s left)(hf:left<=f)(h160:left<=160) :
  vQ 149 #[.pointer (some ⟨rb,0,none⟩),.string r] W (RdO W rb s (jbT (gRef S) f n left)):=by
 have m:=jfB W r vO;rw[jiC,jdM (inlP (d+1)) hi]at m;unfold optV at m;have HA:=Hd m;have H:=(hi.1.one (inlP d)).refs;have a2:=Hd H;have HL:=Hd (n.cells_len H);have HI:=Hd (fun w=>(inlP (d+1)).inl r n hi w);have J:=Hd (show ∀ w,Ext W w->vQ 113 #[.pointer (some ⟨rb,0,none⟩),n.V] w (RdO w rb s (jbT (gRef S) f n left))from fun w e=>hN n d hi.1 w left (hE.trans e) (hr.ext e) hf h160)
 obtain⟨o,ho⟩:=vE (jbT (gRef S) f n left)
 rw[<-ho]at J ⊢;clear hN hi hs hE hr hf h160 m H ho;go_enter Tryz.func149,Tryz.ntmps149;go_wp2_with fail
 refine HA.o.mono ?_;rintro e a3 ⟨rfl,K⟩;have a4:=Hd K;clear K;go_wp2_with fail
 refine vH (HI.o a3) fun w1 hE=>?_;have HE:=Hd (a4.o.trans hE);unfold jad.V;go_wp2_with (first |(refine jaj Tryz.allocNode rfl rfl ?_;intro W5 O Q;refine jag (vs:=n.cells) rfl rfl rfl rfl O (by rw[HL.o];rfl) (by rw[HL.o];exact Tryz.szNode) n.one ?_;intro W6 X Z) |(refine jaf 110 (.tmp 8) rfl rfl _ _ rfl (jaq _ _ n a2.o X) ?_))
 have a0:Ext W W6:=(HE.o.trans Q).trans' Z (fun x hx e=>by have e:x=w1.heap.size:=e;have:=HE.o.size;omega);have HX:=Hd a0;clear a0 O Q X Z;refine (J.o W6 HX.o).mono ?_;intro e w7 hO
 obtain⟨hk,a1⟩:=hO
 cases o with
 | none =>
  obtain⟨v,l,rfl,hv,A⟩:=a1
  have E:=Hd (bB hk (bB hv A));clear hk A;rcases hv with rfl |⟨T,x,rfl⟩
  ·go_wp2_with fail
   go_ret2
   exact⟨(HX.o.mono (fun _ _ e=>e.elim)).trans E.o.1,_,l,rfl,.inl rfl,E.o.2.2⟩
  ·go_wp2_with fail
   go_ret2
   exact⟨(HX.o.mono (fun _ _ e=>e.elim)).trans E.o.1,_,l,rfl,.inr ⟨T,x,rfl⟩,E.o.2.2⟩
 | some Pl =>
  obtain⟨P,l⟩:=Pl
  obtain⟨T,x,rfl,hP,A⟩:=a1
  have E:=Hd (bB hk (bB hP A));clear hk hP A;go_wp2_with fail
  go_ret2
  exact⟨(HX.o.mono (fun _ _ e=>e.elim)).trans E.o.1,T,x,rfl,E.o.2.1.mono (fun z hz=>⟨bG HX.o.size hz.1,hz.2⟩),E.o.2.2⟩
theorem jzM(w0:vW)(s bm:Nat)(room:Int)(S:vT)(rb:Nat)(hR:RdS0 w0 s bm room S rb)(f:Nat)(hN:jqI w0 s S rb f):RefC w0 s S rb f:=by
 intro r d A W left E H J e;have K:r.size<=1000:=by have:=A.size (inlP d);omega
 unfold gRef;rcases A with hh |⟨m,hi⟩
 ·obtain⟨h,O,Q⟩:=hh
  have o:jcL r=some h:=by rw[Q];exact jeh O
  rw[o];exact jvm w0 s S rb f (js9 w0 s bm room S rb hR f hN) r h o K W left E H J e
 ·cases d with
  | zero=>exact hi.elim
  | succ d =>
   rw[jdM (inlP (d+1)) hi];show Calls _ _ _ W (RdO W rb s (jbT (gRef S) f (inlOf r) left));rw[jkw w0 hi];exact jxC w0 s S rb f hN r d m hi K W left E H J e
theorem jl6(W:vW)(rb s:Nat)(n:jad)(hr:RdAt W rb s 0):vQ 113 #[.pointer (some ⟨rb,0,none⟩),n.V] W (RdO W rb s none):=by
 have A:=hr.lt;have m:=hr.ext ((ExtR W).alloc (.cells n.cells.toArray 110));have E:=Hd m;unfold RdAt at m;have H:=m.cell (i:=1) (v:=.int .i64 0) vF;clear m hr;unfold jad.V;go_enter Tryz.func113,Tryz.ntmps113;go_wp2_with fail
 go_ret2
 exact⟨((ExtR W).alloc _).mono (fun _ _ e=>e.elim),_,0,rfl,.inl rfl,E.o⟩
theorem jsz(W:vW)(rb s k:Nat)(hk:k<=160)(q v:vB)(rs:vM)(hr:RdAt W rb s (k+1)):vQ 113 #[.pointer (some ⟨rb,0,none⟩),(jad.mk 1 q v rs).V] W (RdO W rb s (some (.leaf q v,k))):=by
 have a4:=hr.lt;have a5:W.heap.size≠rb:=vO
 obtain⟨O,m⟩:=vE (W.setCell ⟨rb,1,none⟩ (.int .i64 (k:Int)))
 obtain⟨H,A⟩:=vE (O.alloc (.cells (jad.cells ⟨1,q,v,rs⟩).toArray 110))
 have X:RdAt O rb s k:=by rw[m];exact Blk.set_same (i:=1) hr _
 have Z:O.heap.size=W.heap.size:=by rw[m];exact gG _ _ _
 have E:Ext O H:=by rw[A];exact (ExtR O).alloc _
 have Q:Blk H W.heap.size (.cells (jad.cells ⟨1,q,v,rs⟩).toArray 110):=by rw[<-Z,A];exact Blk.new O _
 have J:RdAt H rb s k:=X.ext E;have K:jae (fun z=>z=rb) W H:=(show jae (fun z=>z=rb) W O by rw[m];exact jae.oneSet _ ⟨rb,1,none⟩ _).trans (E.mono (fun _ _ e=>e.elim));have a2:=Hd (bB J (bB K Q));have hA:=hr.ext ((ExtR W).alloc (.cells (jad.cells ⟨1,q,v,rs⟩).toArray 110));unfold RdAt at hA;have q1:=hA.cell (i:=1) (v:=.int .i64 ((k:Int)+1)) vF;have f1:(W.alloc (.cells (jad.cells ⟨1,q,v,rs⟩).toArray 110)).frozen? ⟨rb,1,none⟩=false:=hA.frozen;have e0:(jad.cells ⟨1,q,v,rs⟩)[0]?=some (.int .i64 1):=rfl;have e1:(jad.cells ⟨1,q,v,rs⟩)[1]?=some (.string q):=rfl;have e2:(jad.cells ⟨1,q,v,rs⟩)[2]?=some (.string v):=rfl;have HW:=Hd (bB m A);clear hr hA X E J K Q m A;unfold jad.V;go_enter Tryz.func113,Tryz.ntmps113;go_wp2_with fail
 go_ret2
 obtain⟨m,A⟩:=HW.o
 rw[<-m, <-A]
 obtain⟨J,K,Q⟩:=a2.o
 have a0:Ext H (H.alloc (.cells #[.string q,.string v] 197)):=(ExtR H).alloc _;have a3:=Blk.new H (.cells #[.string q,.string v] 197);have hz:H.heap.size=W.heap.size+1:=by rw[A,bR,Z]
 have a1:Blk (H.alloc (.cells #[.string q,.string v] 197)) (W.heap.size+1) (.cells #[.string q,.string v] 197):=by rw[<-hz];exact a3
 exact⟨K.trans (a0.mono (fun _ _ e=>e.elim)),_,_,rfl,⟨_,rfl,⟨Nat.le_succ _,a1.lt⟩,a1⟩,J.ext a0⟩
theorem jsA(W:vW)(rb s k:Nat)(hk:k<=160)(q v:vB)(rs:vM)(hr:RdAt W rb s (k+1)):vQ 113 #[.pointer (some ⟨rb,0,none⟩),(jad.mk 0 q v rs).V] W (RdO W rb s (some (.no,k))):=by
 have a2:=hr.lt;have a3:W.heap.size≠rb:=vO
 obtain⟨K,m⟩:=vE (W.setCell ⟨rb,1,none⟩ (.int .i64 (k:Int)))
 obtain⟨X,A⟩:=vE (K.alloc (.cells (jad.cells ⟨0,q,v,rs⟩).toArray 110))
 have Q:RdAt K rb s k:=by rw[m];exact Blk.set_same (i:=1) hr _
 have a0:K.heap.size=W.heap.size:=by rw[m];exact gG _ _ _
 have E:Ext K X:=by rw[A];exact (ExtR K).alloc _
 have O:Blk X W.heap.size (.cells (jad.cells ⟨0,q,v,rs⟩).toArray 110):=by rw[<-a0,A];exact Blk.new K _
 have H:RdAt X rb s k:=Q.ext E;have J:jae (fun z=>z=rb) W X:=(show jae (fun z=>z=rb) W K by rw[m];exact jae.oneSet _ ⟨rb,1,none⟩ _).trans (E.mono (fun _ _ e=>e.elim));have a1:=Hd (bB H (bB J O));have Z:=hr.ext ((ExtR W).alloc (.cells (jad.cells ⟨0,q,v,rs⟩).toArray 110));unfold RdAt at Z;have q1:=Z.cell (i:=1) (v:=.int .i64 ((k:Int)+1)) vF;have f1:(W.alloc (.cells (jad.cells ⟨0,q,v,rs⟩).toArray 110)).frozen? ⟨rb,1,none⟩=false:=Z.frozen;have e0:(jad.cells ⟨0,q,v,rs⟩)[0]?=some (.int .i64 0):=rfl;have HW:=Hd (bB m A);clear hr Z Q E H J O m A;unfold jad.V;go_enter Tryz.func113,Tryz.ntmps113;go_wp2_with fail
 go_ret2
 obtain⟨m,A⟩:=HW.o
 rw[<-m, <-A]
 obtain⟨H,J,O⟩:=a1.o
 exact⟨J,_,_,rfl,rfl,H⟩
theorem ju0(w0:vW)(s:Nat)(S:vT)(rb f:Nat)(hRef:RefC w0 s S rb f)(hnew:w0.heap.size<=rb)(W:vW)(k:Nat)(hE0:Ext w0 W)(hk:k<=f)(h160:k<=159)(q v r:vB)(rs:vM)(d:Nat)(hm:MayP (InlD d) r)(hr:RdAt W rb s (k+1)):vQ 113 #[.pointer (some ⟨rb,0,none⟩),(jad.mk 2 q v (r :: rs)).V] W (RdO W rb s ((gRef S r).bind fun m=>(jbT (gRef S) f m k).map fun x=>(.ext q x.1,x.2))):=by
 have b9:=hr.lt;have b4:W.heap.size≠rb:=vO
 obtain⟨W1,E⟩:=vE (W.setCell ⟨rb,1,none⟩ (.int .i64 (k:Int)))
 obtain⟨J,H⟩:=vE (W1.alloc (.cells (jad.cells ⟨2,q,v,r :: rs⟩).toArray 110))
 have a4:RdAt W1 rb s k:=by rw[E];exact Blk.set_same (i:=1) hr _
 have a5:W1.heap.size=W.heap.size:=by rw[E];exact gG _ _ _
 have K:Ext W1 J:=by rw[H];exact (ExtR W1).alloc _
 have a6:Blk J W.heap.size (.cells (jad.cells ⟨2,q,v,r :: rs⟩).toArray 110):=by rw[<-a5,H];exact Blk.new W1 _
 have X:RdAt J rb s k:=a4.ext K;have a1:jae (fun z=>z=rb) W J:=(show jae (fun z=>z=rb) W W1 by rw[E];exact jae.oneSet _ ⟨rb,1,none⟩ _).trans (K.mono (fun _ _ e=>e.elim));have a2:=Hd (bB X (bB a1 a6));have hA:=hr.ext ((ExtR W).alloc (.cells (jad.cells ⟨2,q,v,r :: rs⟩).toArray 110));unfold RdAt at hA;have q1:=hA.cell (i:=1) (v:=.int .i64 ((k:Int)+1)) vF;have f1:(W.alloc (.cells (jad.cells ⟨2,q,v,r :: rs⟩).toArray 110)).frozen? ⟨rb,1,none⟩=false:=hA.frozen;have e0:(jad.cells ⟨2,q,v,r :: rs⟩)[0]?=some (.int .i64 2):=rfl;have e1:(jad.cells ⟨2,q,v,r :: rs⟩)[1]?=some (.string q):=rfl;have e3:(jad.cells ⟨2,q,v,r :: rs⟩)[3]?=some (.string r):=rfl;have a7:Ext w0 J:=hE0.trans' a1 (fun x hx e=>by have e:x=rb:=e;omega);have HC:=Hd (hRef r d hm J k a7 X hk vO);have b5:(jad.cells ⟨2,q,v,r :: rs⟩).toArray.size=(jad.cells ⟨2,q,v,r :: rs⟩).length:=by simp
 have a0:rb < J.heap.size:=X.lt;have c0:=Hd a0
 obtain⟨o,ho⟩:=vE ((gRef S r).bind fun m=>jbT (gRef S) f m k)
 have a8:((gRef S r).bind fun m=>(jbT (gRef S) f m k).map fun x=>(PA.ext q x.1,x.2))=o.map fun x=>(PA.ext q x.1,x.2):=by
  rw[ho];cases gRef S r with
  | none=>rfl
  | some m=>rfl
 rw[<-ho]at HC;rw[a8];have HW:=Hd (bB E H);have a9:J.heap.size=W.heap.size+1:=by rw[H,bR,a5]
 have b6:=Hd a9;have b7:=hr;clear hRef hnew hE0 hm hr hA a4 K X a1 a6 a7 ho a8 a9 b5 a0 b7;unfold jad.V;go_enter Tryz.func113,Tryz.ntmps113;go_wp2_with fail
 rw[<-E, <-H];clear E H q1 f1;refine HC.o.mono ?_;intro e O hO
 obtain⟨Q,b0⟩:=hO
 have b1:=a2.o.2.2.keeps Q (fun e=>b4 (by exact e));have q7:=b1.cellL (i:=1) e1;have a3:=Hd (a2.o.2.1.trans Q);have b2:=a2.o.2.2.lt;have b8:=Hd (show W.heap.size<=O.heap.size/\W.heap.size+1=J.heap.size/\J.heap.size<=O.heap.size from⟨bG (iJ b2) Q.size,b6.o.symm,Q.size⟩);clear Q b1 b2;cases o with
 | none =>
  obtain⟨v7,l,rfl,hv,A⟩:=b0
  have HZ:=Hd A;clear A;rcases hv with rfl |⟨T,x,rfl⟩
  ·go_wp2_with fail
   go_ret2
   exact⟨a3.o.trans (((ExtR O).alloc _).mono (fun _ _ e=>e.elim)),_,l,rfl,.inr ⟨_,_,rfl⟩,HZ.o.ext ((ExtR O).alloc _)⟩
  ·go_wp2_with fail
   go_ret2
   exact⟨a3.o.trans (((ExtR O).alloc _).mono (fun _ _ e=>e.elim)),_,l,rfl,.inr ⟨_,_,rfl⟩,HZ.o.ext ((ExtR O).alloc _)⟩
 | some Pl =>
  obtain⟨P,l⟩:=Pl
  obtain⟨T,x,rfl,hP,A⟩:=b0
  have HZ:=Hd (bB hP A);clear hP A;go_wp2_with fail
  go_ret2
  obtain⟨hP,A⟩:=HZ.o
  have Z:Ext O (O.alloc (.cells #[.string q,.iface T x] 200)):=(ExtR O).alloc _;have b3:=Blk.new O (.cells #[.string q,.iface T x] 200)
  obtain⟨z1,z2,z3⟩:=b8.o
  refine⟨a3.o.trans (Z.mono (fun _ _ e=>e.elim)),_,_,rfl,⟨_,T,x,jlg J O,rfl,⟨by omega,b3.lt⟩,b3,hP.keeps Z _ _ _ (fun _ _ e=>e),fun e=>by have:=e.2;omega,fun z hz=>⟨by have:=hz.1;omega,bJ hz.2 Z.size⟩⟩,A.ext Z⟩
theorem jjS{R:jad->Nat->Option (PA × Nat)}{G:vB->Option jad}{rs:vM}{k left:Nat}(h:jfh R G rs k left=none):∀ d,jfh R G rs (k+d) left=none
 | 0=>h
 | d+1=>by
  show jfh R G rs (k+d+1) left=none;rw[jfD,jjS h d];rfl
structure jyv(W:World)(rb s bb:Nat)(G:vB->Option jad)(R:jad->Nat->Option (PA × Nat))(v:vB)(rs:vM)(left:Nat)(iv:Value)(wr:World)(k:Nat)(ks:Nat->PA)(l:Nat)(vk:Nat->Value)(Dk:Nat->Nat->Prop)(D:Nat->Prop):Prop where
 le:k<=16
 iv:iv=.int .i64 (k:Int)
 rd:jfh R G rs k left=some (ks,l)
 br:BrAt v ks bb vk Dk D wr
 since:∀ z,D z->W.heap.size<=z
 rdr:RdAt wr rb s l
 kp:jae (fun z=>z=rb) W wr
theorem jkY{W:vW}{b:Nat}{n:jad}(hr:n.refs.length=16)(hB:Blk W b (.cells n.cells.toArray 110)):(Instr.loadAt 108 (.pointer (some ⟨b,3,none⟩))).run Tryz.prog W=.ok (.agg (n.refs.map Value.string).toArray) W:=by
 have e:W.rangeAt b 3 (n.refs.map Value.string):=fun j v o=>hB.cellL (by
  unfold jad.cells;rw[show 3+j=j+3 by omega];simpa using o)
 have m:=run_loadVar_mid (P:=Tryz.prog) W b 3 108 _ _ e Tryz.uRefs rfl (by simp only[bU,hr];exact Tryz.iRefs);simp[Instr.loadAt,Instr.sureAddr,cA,Result.andThen,m]
theorem jxp(w0:vW)(s:Nat)(S:vT)(rb f:Nat)(hRef:RefC w0 s S rb f)(hnew:w0.heap.size<=rb)(W:vW)(k0:Nat)(hE0:Ext w0 W)(hk:k0<=f)(h160:k0<=159)(q v:vB)(rs:vM)(d:Nat)(hrl:rs.length=16)(hm:∀ r∈rs,r.size≠0->MayP (InlD d) r)(hr:RdAt W rb s (k0+1)):vQ 113 #[.pointer (some ⟨rb,0,none⟩),(jad.mk 3 q v rs).V] W (RdO W rb s ((jfh (jbT (gRef S) f) (gRef S) rs 16 k0).map fun x=>(.br v x.1,x.2))):=by
 have d7:=hr.lt;have e9:W.heap.size≠rb:=vO
 obtain⟨W1,A⟩:=vE (W.setCell ⟨rb,1,none⟩ (.int .i64 (k0:Int)))
 obtain⟨W2,E⟩:=vE (W1.alloc (.cells (jad.cells ⟨3,q,v,rs⟩).toArray 110))
 have c2:RdAt W1 rb s k0:=by rw[A];exact Blk.set_same (i:=1) hr _
 have b0:W1.heap.size=W.heap.size:=by rw[A];exact gG _ _ _
 have Z:Ext W1 W2:=by rw[E];exact (ExtR W1).alloc _
 have b1:Blk W2 W.heap.size (.cells (jad.cells ⟨3,q,v,rs⟩).toArray 110):=by rw[<-b0,E];exact Blk.new W1 _
 have b2:RdAt W2 rb s k0:=c2.ext Z;have b3:jae (fun z=>z=rb) W W2:=(show jae (fun z=>z=rb) W W1 by rw[A];exact jae.oneSet _ ⟨rb,1,none⟩ _).trans (Z.mono (fun _ _ e=>e.elim));have d8:=Hd (bB b2 (bB b3 b1));have hA:=hr.ext ((ExtR W).alloc (.cells (jad.cells ⟨3,q,v,rs⟩).toArray 110));unfold RdAt at hA;have q1:=hA.cell (i:=1) (v:=.int .i64 ((k0:Int)+1)) vF;have f1:(W.alloc (.cells (jad.cells ⟨3,q,v,rs⟩).toArray 110)).frozen? ⟨rb,1,none⟩=false:=hA.frozen;have e0:(jad.cells ⟨3,q,v,rs⟩)[0]?=some (.int .i64 3):=rfl;have e2:(jad.cells ⟨3,q,v,rs⟩)[2]?=some (.string v):=rfl
 obtain⟨W3,J⟩:=vE (W2.alloc (.cells #[.string v,.nilIface,.nilIface,.nilIface,.nilIface,.nilIface,.nilIface,.nilIface,.nilIface,.nilIface,.nilIface,.nilIface,.nilIface,.nilIface,.nilIface,.nilIface,.nilIface] 204))
 have Q:Ext W2 W3:=by rw[J];exact (ExtR W2).alloc _
 have c3:W2.heap.size=W.heap.size+1:=by rw[E,bR,b0]
 have b4:Blk W3 (W.heap.size+1) (.cells (brC v (fun _=>.nilIface)).toArray 204):=by rw[<-c3,J];exact Blk.new W2 _
 have a0:BrAt v (fun _=>.nil) (W.heap.size+1) (fun _=>.nilIface) (fun _ _=>False) (fun x=>x=W.heap.size+1) W3:=
  ⟨rfl,b4,fun i _=>⟨rfl,fun e=>e,fun _ e=>e.elim⟩,fun _ _ _ _ _ _ e=>e.elim,fun x e=>by rw[e];exact b4.lt⟩
 have b5:=jkY (n:=⟨3,q,v,rs⟩) hrl (b1.keeps Q (fun e=>e));have c4:=Hd (show jyv W rb s (W.heap.size+1) (gRef S) (jbT (gRef S) f) v rs k0 (.int .i64 0) W3 0 (fun _=>.nil) k0 (fun _=>.nilIface) (fun _ _=>False) (fun x=>x=W.heap.size+1)from⟨by omega,rfl,rfl,a0,fun z e=>by rw[e];omega,b2.ext Q,b3.trans (Q.mono (fun _ _ e=>e.elim))⟩);have c1:=Hd hRef;have HM:=Hd hm;have d9:=Hd hrl;have e1:=Hd hE0;have e3:=Hd hnew;have e4:=Hd d7;have HF:=Hd hk
 obtain⟨o,ho⟩:=vE ((jfh (jbT (gRef S) f) (gRef S) rs 16 k0).map fun x=>(PA.br v x.1,x.2))
 have HO:=Hd ho;rw[<-ho];have HW:=Hd (bB A (bB E J));have c5:=Hd (show W.heap.size+1≠rb by omega);rw[J,E,A]at b5;clear hRef hnew hE0 hm hr hA c2 Z b2 b3 b1 A E J Q b4 a0 hrl ho c3 hk;unfold jad.V;go_enter Tryz.func113,Tryz.ntmps113;go_wp2_with (refine jaf 108 (.tmp 59) rfl rfl _ _ rfl b5 ?_)
 obtain⟨A,E,J⟩:=HW.o
 rw[<-A, <-E, <-J]
 obtain⟨bb,c6⟩:=vE (W.heap.size+1)
 rw[<-c6]at c4 c5 ⊢;clear A E J HW b5 q1 f1 b0 c6 d8;go_loopw [61] (fun iv wr=>∃ k ks l vk Dk D,jyv W rb s bb (gRef S) (jbT (gRef S) f) v rs k0 iv wr k ks l vk Dk D) (fun iv _=>16 - (intOf iv).toNat)
 case atStart=>exact⟨0,_,_,_,_,_,c4.o⟩
 case round =>
  obtain⟨k,ks,l,vk,Dk,D,h⟩:=hrel
  obtain⟨f0,rfl,c7,a0,c8,c9,d0⟩:=h
  have b6:=Hd c7;have K:=Hd a0;have a1:=Hd c8;have b7:=Hd c9;have O:=Hd d0;clear c7 a0 c8 c9 d0
  by_cases hlt:k < 16
  ·obtain⟨r,a2⟩:∃ r,rs[k]?=some r:=⟨_,bA (by have:=d9.o;omega)⟩
   have f2:(Instr.index 108 (.agg (rs.map Value.string).toArray) (.int .i64 (k:Int))).run Tryz.prog wr=.ok (.string r) wr:=jeN Tryz.uRefs Tryz.strOne Tryz.strAgg _ k hlt _ (by rw[bV,a2];rfl) wr;have b8:rs.getD k ⟨#[]⟩=r:=by rw[bC,a2];rfl
   have H:=jfD (jbT (gRef S) f) (gRef S) rs k k0;rw[b6.o,b8]at H;have H:jfh (jbT (gRef S) f) (gRef S) rs (k+1) k0=if r.size=0 then some (ks,l)else (gRef S r).bind fun m=>(jbT (gRef S) f m l).map fun y=>(setK ks k y.1,y.2):=H
   by_cases hr0:r.size=0
   ·rw[if_pos hr0]at H
    have e5:=jbj hr0;subst e5;have f3:(⟨#[]⟩:vB).toList.isEmpty=true:=by rw[bL];rfl
    have a6:=Hd H;clear H a2 hr0 b8;go_wp2;go_roundw
    case rel=>exact⟨k+1,ks,l,vk,Dk,D,by omega,by go_num,a6.o,K.o,a1.o,b7.o,O.o⟩
    case measure=>exact vJ
   ·rw[if_neg hr0]at H
    have e8:=jc7 hr0;have d1:Ext w0 wr:=e1.o.trans' O.o (fun x hx e=>by have e:x=rb:=e;have:=e3.o;omega);have e6:l<=k0:=jkQ (fun m l y h=>bG (jkR (gRef S) f m l y h) (Nat.sub_le _ _)) k k0 _ b6.o;have HC:=Hd (c1.o r d (HM.o r (bE a2) hr0) wr l d1 b7.o (by have:=HF.o;omega) vO)
    obtain⟨o1,b9⟩:=vE ((gRef S r).bind fun m=>jbT (gRef S) f m l)
    rw[<-b9]at HC;have a4:jfh (jbT (gRef S) f) (gRef S) rs (k+1) k0=o1.map fun y=>(setK ks k y.1,y.2):=by
     rw[H,b9];cases gRef S r with
     | none=>rfl
     | some m=>rfl
    have a6:=Hd a4;have f4:=Hd (K.o.lt bb K.o.mem);clear H a4 a2 hr0 b8 d1 e6 b9;go_wp2_with fail
    refine HC.o.mono ?_;intro e w7 hO
    obtain⟨d2,d3⟩:=hO
    have a7:=Hd d2;clear d2;cases o1 with
    | none =>
     obtain⟨v7,l7,rfl,hv,a3⟩:=d3
     have HZ:=Hd a3;clear a3;have d4:=Hd (show o=none by
      rw[HO.o]
      have:=jjS (k:=k+1) a6.o (15 - k)
      rw[show k+1+(15 - k)=16 by omega]at this;rw[this];rfl)
     rcases hv with rfl |⟨T,x,rfl⟩
     ·go_wp2_with fail
      go_ret2;rw[d4.o]
      exact⟨O.o.trans a7.o,_,l7,rfl,.inl rfl,HZ.o⟩
     ·go_wp2_with fail
      go_ret2;rw[d4.o]
      exact⟨O.o.trans a7.o,_,l7,rfl,.inl rfl,HZ.o⟩
    | some Pl =>
     obtain⟨P,l7⟩:=Pl
     obtain⟨T,x,rfl,hP,a3⟩:=d3
     have a5:∀ z,D z->¬ z=rb:=fun z X e=>by have:=a1.o z X;have:=e4.o;omega
     have a8:=K.o.keeps a7.o (fun z X=>a5 z X);have hg:=a8.give hlt hP (fun z X=>⟨fun e=>by have:=K.o.lt z e;have:=X.1;omega,X.2⟩)
     obtain⟨W8,a9⟩:=vE (w7.setCell ⟨bb,1+k,none⟩ (.iface T x))
     rw[<-a9]at hg;have c0:jae (fun z=>z=bb) w7 W8:=by rw[a9];exact jae.oneSet w7 ⟨bb,1+k,none⟩ (.iface T x)
     have d5:RdAt W8 rb s l7:=a3.keeps c0 (fun e=>c5.o e.symm);have d6:jae (fun z=>z=rb) W W8:=(O.o.trans a7.o).trans' c0 (fun z X e=>by have e:z=bb:=e;have:=a1.o bb K.o.mem;omega)
     obtain⟨old,q7⟩:∃ v,w7.cell? ⟨bb,1+k,none⟩=some v:=⟨_,a8.blk.cellL (bA (by rw[jgR];omega))⟩
     have f7:w7.frozen? ⟨bb,1+k,none⟩=false:=a8.blk.frozen;have HG:=Hd (bB hg (bB d5 (bB d6 (show ∀ z,(D z\/jlg wr w7 z)->W.heap.size<=z from fun z X=>X.elim (a1.o z) (fun e=>bG O.o.size e.1)))));have e7:=Hd a9;clear hP a3 a5 a8 hg c0 d5 d6 a9;go_wp2_with fail
     rw[<-e7.o];clear q7 f7;go_roundw
     case rel=>exact⟨k+1,_,l7,_,_,_,by omega,by go_num,a6.o,HG.o.1,HG.o.2.2.2,HG.o.2.1,HG.o.2.2.1⟩
     case measure=>exact vJ
  ·obtain rfl:k=16:=vO
   go_wp2_with fail
   go_ret2;rw[HO.o,b6.o]
   exact⟨O.o,_,_,rfl,K.o.pa.at'.mono (fun z X=>⟨a1.o z X,K.o.lt z X⟩),b7.o⟩
theorem jtc(w0:vW)(s bm:Nat)(room:Int)(S:vT)(rb:Nat)(hR:RdS0 w0 s bm room S rb):∀ f,jqI w0 s S rb f
 | 0=>fun n d J W left E o K A=>by
  obtain rfl:left=0:=vO
  rw[jjT];exact jl6 W rb s n o
 | f+1=>fun n d J W left E o K A=>by
  have e:=jzM w0 s bm room S rb hR f (jtc w0 s bm room S rb hR f);cases left with
  | zero =>
   rw[jjT];exact jl6 W rb s n o
  | succ k =>
   rw[jes,if_neg (iA k)];cases J with
   | none=>exact jsA W rb s k vO _ _ _ o
   | leaf p v h1 h2 h3=>exact jsz W rb s k vO p v _ o
   | ext p r h1 h2 h3 =>
    have H:MayP (InlD d) r:=h3.imp id (fun ⟨m,H,_⟩=>⟨m,H⟩);exact ju0 w0 s S rb f e hR.new W k E vO vO p ⟨#[]⟩ r (jam 15) d H o
   | branch v rs h1 h2 h3 h4=>exact jxp w0 s S rb f e hR.new W k E vO vO ⟨#[]⟩ v rs d h1 h3 o
def jAo(W:vW)(o:Option (PA × Nat))(e:Ending)(w':vW):Prop:=Ext W w'/\match o with
 | some (P,_)=>∃ T x,e=.returned (.tuple #[.iface T x,.bool true])/\PaAt P (.iface T x) (jlg W w') w'
 | none=>∃ v,e=.returned (.tuple #[v,.bool false])/\(v=.nilIface\/∃ T x,v=.iface T x)
noncomputable def readR(S:vT)(root:vB):Option (PA × Nat):=(gHash S root).bind fun m=>jbT (gRef S) 160 m 160
theorem jx1(W:vW)(s bm:Nat)(room:Int)(S:vT)(hs:jaT W s bm room S)(hN:jec S)(root:vB) :
  vQ 43 #[.pointer (some ⟨s,0,none⟩),.string root] W (jAo W (readR S root)):=by
 obtain⟨H,m⟩:=vE (W.alloc (.cells #[.pointer (some ⟨s,0,none⟩),.int .i64 160] 135))
 have A:Ext W H:=by rw[m];exact (ExtR W).alloc _
 have J:RdAt H W.heap.size s 160:=by rw[m];exact Blk.new W _
 have Q:RdS0 W s bm room S W.heap.size:=⟨hs,hN,bM _⟩;have O:=js9 W s bm room S W.heap.size Q 160 (jtc W s bm room S W.heap.size Q 160) root H 160 A J (bM _) (bM _)
 obtain⟨o,X⟩:=vE (readR S root)
 have O:vQ 81 #[.pointer (some ⟨W.heap.size,0,none⟩),.string root] H (RdO H W.heap.size s o):=by rw[X];exact O
 have HC:=Hd O;have HE:=Hd A;have HW:=Hd m;rw[<-X];clear hs hN J Q O X A m;go_enter Tryz.func43,Tryz.ntmps43;go_wp2_with fail
 rw[<-HW.o];refine HC.o.mono ?_;intro e w7 hO
 obtain⟨hk,K⟩:=hO
 have hX:Ext W w7:=HE.o.trans' hk (fun x hx e=>by have e:x=W.heap.size:=e;omega);have Z:=Hd hX;clear hk hX;cases o with
 | none =>
  obtain⟨v,l,rfl,hv,E⟩:=K
  clear E;rcases hv with rfl |⟨T,x,rfl⟩
  ·go_wp2_with fail
   go_ret2
   exact⟨Z.o,_,rfl,.inl rfl⟩
  ·go_wp2_with fail
   go_ret2
   exact⟨Z.o,_,rfl,.inr ⟨T,x,rfl⟩⟩
 | some Pl =>
  obtain⟨P,l⟩:=Pl
  obtain⟨T,x,rfl,hP,E⟩:=K
  have HZ:=Hd hP;clear hP E;go_wp2_with fail
  go_ret2
  exact⟨Z.o,T,x,rfl,HZ.o.mono (fun z hz=>⟨bG HE.o.size hz.1,hz.2⟩)⟩
theorem jkq(w:vW){S:vT}{f:Nat}{m:vL}(h:jax f m)(hn:m≠[])(hS:32<=(jac (f+1) m).text.size->HasS S (jac (f+1) m).text):gRef S (refB (jac (f+1) m).text)=some (jao (jac f) m):=by
 have e:=(good f m h).2.1 hn;unfold gRef
 by_cases hz:(jac (f+1) m).text.size < 32
 ·have A:=e.may.2 hz
  rw[jdM (inlP (f+1)) A,jkw w A]
 ·rw[jgA hz,jeh (jbA _)]
  obtain⟨x,o,H⟩:=hS vO
  have o:atL S (shaB (jac (f+1) m).text).data.toList=some x:=o;show (atL S (shaB (jac (f+1) m).text).data.toList).map (fun x=>nodeOf x.2.2.text)=_;rw[o];show some (nodeOf x.2.2.text)=_;have E:jbC (jac (f+1) m).text (jao (jac f) m):=⟨e.text,f,e.good⟩;rw[H,jdz w (jci E) E]
theorem jqk(w:vW)(S:vT):∀ (g:Nat) (l:vL),jax g l->(∀ x∈jaA (jar (jac g) l),32<=x.size->HasS S x)->∀ (f left:Nat),cntT g l<=left->left<=f->jbT (gRef S) f (jao (jac g) l) left=some (ja4 (g+1) l,left - cntT g l):=by
 intro g;have A:∀ (g:Nat) (l:vL),l.length<=1->cntT g l=1->∀ (f left:Nat),cntT g l<=left->left<=f->jbT (gRef S) f (jao (jac g) l) left=some (ja4 (g+1) l,left - cntT g l):=by
  intro g l hl hc f left Q h2;rw[hc]at Q ⊢;cases f with
  | zero=>omega
  | succ f =>
   rw[jes,if_neg vO]
   by_cases h0:l.length=0
   ·have e:jao (jac g) l=jav:=by unfold jao;rw[if_pos h0]
    rw[e,jbU _ h0];rfl
   ·have a1:l.length=1:=vO
    have e:jao (jac g) l=⟨1,(l.getD 0 pd).1,(l.getD 0 pd).2,jam 16⟩:=by unfold jao;rw[if_neg h0,if_pos a1]
    rw[e,jbY _ a1];rfl
 induction g with
 | zero =>
  intro l h hS f left Q h2;exact A 0 l (jbM h) rfl f left Q h2
 | succ g ih =>
  intro l h hS f left Q h2
  by_cases hl:l.length<=1
  ·exact A (g+1) l hl (by unfold cntT;rw[if_pos hl]) f left Q h2
  have X:2<=l.length:=vO
  have H:∀ m,jax g m->m≠[]->(∀ x∈jaA (jbo (jac (g+1) m)),x∈jaA (jar (jac (g+1)) l))->(32<=(jac (g+1) m).text.size->HasS S (jac (g+1) m).text)/\∀ x∈jaA (jar (jac g) m),32<=x.size->HasS S x:=by
   intro m hm a4 J
   refine⟨fun hz=>hS _ (J _ ?_) hz,fun x Z hz=>?_⟩
   ·rw[jhR vO];exact jc2 _
   ·by_cases hs:(jac (g+1) m).text.size < 32
    ·have a5:=(good g m hm).2.1 a4
     have e:(jac (g+1) m).kids=[]:=a5.small hs;have e:jar (jac g) m=[]:=e;rw[e]at Z;cases Z
    ·refine hS x (J x ?_) hz
     rw[jhR hs];exact bH _ Z
  cases f with
  | zero =>
   exfalso
   have:1<=cntT (g+1) l:=by unfold cntT;omega
   omega
  | succ f =>
   by_cases hk:0 < comK l
   ·obtain⟨K,k2,_,_⟩:=jfZ h X hk
    have eB:jar (jac (g+1)) l=jbo (jac (g+1) (jak (comK l) l)):=by unfold jar;rw[if_neg vO,if_pos hk]
    have eN:jao (jac (g+1)) l=⟨2,(l.getD 0 pd).1.extract 0 (comK l),⟨#[]⟩,refB (jac (g+1) (jak (comK l) l)).text :: jam 15⟩:=by unfold jao;rw[if_neg vO,if_neg vO,if_pos hk]
    have eC:cntT (g+1) l=1+cntT g (jak (comK l) l):=by
     show 1+(if l.length<=1 then 0 else if 0 < comK l then cntT g (jak (comK l) l)else _)=_;rw[if_neg vO,if_pos hk]
    obtain⟨s1,s2⟩:=H _ K k2 (fun x Z=>by rw[eB];exact Z)
    rw[eC]at Q ⊢;rw[jes,if_neg vO,eN,jdv _ X hk];show ((gRef S (refB (jac (g+1) (jak (comK l) l)).text)).bind fun m=>(jbT (gRef S) f m (left - 1)).map fun x=>(PA.ext ((l.getD 0 pd).1.extract 0 (comK l)) x.1,x.2))=_;rw[jkq w K k2 s1];show (jbT (gRef S) f (jao (jac g) (jak (comK l) l)) (left - 1)).map _=_;rw[ih _ K s2 f (left - 1) vO vO];show some (_,left - 1 - cntT g (jak (comK l) l))=some (_,left - (1+cntT g (jak (comK l) l)))
    congr 2
    omega
   ·have eB:jar (jac (g+1)) l=(List.range 16).flatMap fun i=>if (cutL i l).length=0 then []else jbo (jac (g+1) (jak 1 (cutL i l))):=by unfold jar;rw[if_neg vO,if_neg hk]
    obtain⟨rs,a2⟩:=vE ((List.range 16).map fun i=>if (cutL i l).length=0 then (⟨#[]⟩:vB)else refB (jac (g+1) (jak 1 (cutL i l))).text)
    have eN:jao (jac (g+1)) l=⟨3,⟨#[]⟩,if (l.getD 0 pd).1.size=0 then (l.getD 0 pd).2 else ⟨#[]⟩,rs⟩:=by rw[a2];unfold jao;rw[if_neg vO,if_neg vO,if_neg hk]
    obtain⟨c,hc⟩:∃ c:Nat->Nat,c=fun i=>if (cutL i l).length=0 then 0 else cntT g (jak 1 (cutL i l)):=⟨_,rfl⟩
    have eC:cntT (g+1) l=1+sumF c 16:=by
     rw[hc];show 1+(if l.length<=1 then 0 else if 0 < comK l then _ else _)=_;rw[if_neg vO,if_neg hk]
    obtain⟨o,E⟩:∃ o:Nat->PA,o=fun i=>if (cutL i l).length=0 then PA.nil else ja4 (g+1) (jak 1 (cutL i l)):=⟨_,rfl⟩
    rw[eC]at Q ⊢;have a0:∀ k,k<=16->jfh (jbT (gRef S) f) (gRef S) rs k (left - 1)=some (fun i=>if i < k then o i else .nil,left - 1 - sumF c k):=by
     intro k;induction k with
     | zero=>intro _;simp[jfh,sumF]
     | succ k ihk =>
      intro a6;rw[jfD,ihk vO];have a3:rs.getD k ⟨#[]⟩=if (cutL k l).length=0 then (⟨#[]⟩:vB)else refB (jac (g+1) (jak 1 (cutL k l))).text:=by rw[a2,jg5 _ vO]
      show (if (rs.getD k ⟨#[]⟩).size=0 then some (_,left - 1 - sumF c k)else (gRef S (rs.getD k ⟨#[]⟩)).bind fun m=>(jbT (gRef S) f m (left - 1 - sumF c k)).map fun y=>(setK (fun i=>if i < k then o i else .nil) k y.1,y.2))=_;have O:sumF c (k+1)=sumF c k+c k:=rfl
      by_cases hc0:(cutL k l).length=0
      ·rw[a3,if_pos hc0,if_pos (show (⟨#[]⟩:vB).size=0 from rfl),O]
       have e1:c k=0:=by rw[hc];exact if_pos hc0
       have e2:o k=.nil:=by rw[E];exact if_pos hc0
       rw[e1,fX]
       congr 2
       funext i
       by_cases hi:i < k
       ·rw[if_pos hi,if_pos vO]
       ·rw[if_neg hi]
        by_cases he:i=k
        ·rw[he,if_pos vO,e2]
        ·rw[if_neg vO]
      ·obtain⟨K,k2⟩:=jgo h hc0
       obtain⟨s1,s2⟩:=H _ K k2 (fun x Z=>by
        rw[eB,jg3];exact fA.2 ⟨k,dZ.2 vO,by rw[if_neg hc0];exact Z⟩)
       have e1:c k=cntT g (jak 1 (cutL k l)):=by rw[hc];exact if_neg hc0
       have e2:o k=ja4 (g+1) (jak 1 (cutL k l)):=by rw[E];exact if_neg hc0
       have a7:sumF c (k+1)<=sumF c 16:=by
        have:=jeu c (k+1) (15 - k)
        rwa [show k+1+(15 - k)=16 by omega]at this
       rw[a3,if_neg hc0,if_neg (jkS K k2),jkq w K k2 s1];show (jbT (gRef S) f (jao (jac g) (jak 1 (cutL k l))) (left - 1 - sumF c k)).map _=_;rw[ih _ K s2 f _ vO vO, <-e1, <-e2,O];show some (setK _ k (o k),_)=some (_,_)
       congr 2
       ·funext i
        unfold setK
        by_cases he:i=k
        ·rw[if_pos he,he,if_pos vO]
        ·rw[if_neg he]
         show (if i < k then o i else PA.nil)=_
         by_cases hi:i < k
         ·rw[if_pos hi,if_pos vO]
         ·rw[if_neg hi,if_neg vO]
       ·omega
    rw[jes,if_neg vO,eN,jeL _ X hk];show (jfh (jbT (gRef S) f) (gRef S) rs 16 (left - 1)).map (fun x=>(PA.br (if (l.getD 0 pd).1.size=0 then (l.getD 0 pd).2 else ⟨#[]⟩) x.1,x.2))=_;rw[a0 16 (bM _), <-E];show some (PA.br _ (fun i=>if i < 16 then o i else .nil),left - 1 - sumF c 16)=some (PA.br _ o,left - (1+sumF c 16));have e3:(fun i=>if i < 16 then o i else .nil)=o:=by
     funext i
     by_cases hi:i < 16
     ·rw[if_pos hi]
     ·rw[if_neg hi,E]
      show PA.nil=if (cutL i l).length=0 then PA.nil else _
      rw[if_pos (by
       cases hz:(cutL i l).length with
       | zero=>rfl
       | succ n=>exact absurd (jyY h (i:=i) vO) hi)]
    rw[e3]
    congr 2
    omega
theorem jkg:∀ (g:Nat) (l:vL),jax g l->cntP (ja4 (g+1) l)=cntT g l:=by
 intro g;have e:∀ (g:Nat) (l:vL),l.length<=1->cntP (ja4 (g+1) l)=1:=by
  intro g l o
  by_cases h0:l.length=0
  ·rw[jbU _ h0];rfl
  ·rw[jbY _ vO];rfl
 induction g with
 | zero=>intro l h;exact e 0 l (jbM h)
 | succ g ih =>
  intro l h
  by_cases o:l.length<=1
  ·rw[e _ l o]
   show 1=1+(if l.length<=1 then 0 else _);rw[if_pos o]
  have m:2<=l.length:=vO
  show _=1+(if l.length<=1 then 0 else if 0 < comK l then cntT g (jak (comK l) l)else sumF (fun i=>if (cutL i l).length=0 then 0 else cntT g (jak 1 (cutL i l))) 16);rw[if_neg o]
  by_cases hk:0 < comK l
  ·rw[if_pos hk,jdv _ m hk]
   show 1+cntP (ja4 (g+1) (jak (comK l) l))=_;rw[ih _ (jfZ h m hk).1]
  ·rw[if_neg hk,jeL _ m hk]
   show 1+sumF (fun i=>cntP (if (cutL i l).length=0 then PA.nil else ja4 (g+1) (jak 1 (cutL i l)))) 16=_
   congr 2
   funext i
   by_cases hc:(cutL i l).length=0
   ·rw[if_pos hc,if_pos hc];rfl
   ·rw[if_neg hc,if_neg hc,ih _ (jgo h hc).1]
theorem jkf{l:vL}(h:jtN l):cntT 12 (jaM l)<=118:=by
 have e:=jbx h
 by_cases hn:jaM l=[]
 ·rw[hn];decide
 ·have m:=(jyX 12 _ e hn).all
  have o:=h.len;have A:(jaM l).length=l.length:=by unfold jaM;rw[bU]
  omega
theorem js1(w:vW){S:vT}{l:vL}(h:HasM S l):∃ k,readR S (shaB (jaF l).text)=some (ja4 13 (jaM l),k):=by
 have m:=jbx (jaG h.ok)
 obtain⟨x,e,A⟩:=h.has _ (jc2 _)
 have e:atL S (shaB (jaF l).text).data.toList=some x:=e;have o:jbC (jaF l).text (jao (jac 12) (jaM l)):=⟨rfl,12,(good 12 _ m).1⟩;unfold readR gHash;rw[e];show ∃ k,jbT (gRef S) 160 (nodeOf x.2.2.text) 160=_;rw[A,jdz w (jci o) o];have H:=jkf (jaG h.ok)
 exact⟨_,jqk w S 12 _ m (fun y E _=>h.has y (bH _ E)) 160 160 vO (bM _)⟩
end
section
open Go Go.RowKit
end
section
open Go Go.RowKit
attribute [local go_sem] Oper.semAt_some
def ErrT(w:vW):Prop:=w.cell? ⟨1,0,none⟩=some (.iface 250 (.agg #[.pointer (some ⟨3,211,none⟩)]))
theorem ErrT.ext{w w':vW}(h:ErrT w)(k:Ext w w'):ErrT w':=jaa h k
structure WrAt(z g:Nat)(v:Value)(T:vM)(W:World):Prop where
 lo:z<=g
 var:Blk W g (.cells #[v] 98)
 row:W.ownsRow 0 9 1 v T.length (T.map Value.string)
 own:∀ b,v.ownBlock=some b->z<=b/\b≠g/\b < W.heap.size
 nil:T=[]->v=.slice none 0 0
theorem WrAt.ext{z g:Nat}{v:vV}{T:vM}{W W':vW}(h:WrAt z g v T W)(e:Ext W W'):WrAt z g v T W':=
 ⟨h.lo,h.var.keeps e (fun g=>g),jbl h.row e,fun b hb=>⟨(h.own b hb).1,(h.own b hb).2.1,bJ (h.own b hb).2.2 e.size⟩,h.nil⟩
theorem WrAt.off{z g:Nat}{v:vV}{T:vM}{W W':vW}{F:BSet}(h:WrAt z g v T W)(e:jae F W W')(h1:¬ F g)(h2:∀ b,v.ownBlock=some b->¬ F b):WrAt z g v T W':=
 ⟨h.lo,h.var.keeps e h1,ja2 h.row e h2,fun b hb=>⟨(h.own b hb).1,(h.own b hb).2.1,bJ (h.own b hb).2.2 e.size⟩,h.nil⟩
structure WrTo(z g:Nat)(v:Value)(W W':World)(v':Value)(T':vM):Prop where
 at':WrAt z g v' T' W'
 kp:jae (fun b=>b=g\/v.ownBlock=some b) W W'
 sub:∀ b,v'.ownBlock=some b->v.ownBlock=some b\/W.heap.size<=b
theorem WrTo.refl{z g:Nat}{v:vV}{T:vM}{W W':vW}(h:WrAt z g v T W)(e:Ext W W'):WrTo z g v W W' v T:=⟨h.ext e,e.mono (fun _ _ h=>h.elim),fun b hb=>.inl hb⟩
theorem WrTo.trans{z g:Nat}{v v' v'':vV}{T T':vM}{W W' W'':vW}(h:WrTo z g v W W' v' T)(k:WrTo z g v' W' W'' v'' T'):WrTo z g v W W'' v'' T':=
 ⟨k.at',h.kp.trans' k.kp (fun x m e=>by
  rcases e with e | e
  ·exact .inl e
  ·rcases h.sub x e with e | e
   ·exact .inr e
   ·omega),fun b hb=>by
  rcases k.sub b hb with e | e
  ·exact h.sub b e
  ·exact .inr (bG h.kp.size e)⟩
theorem WrTo.ext{z g:Nat}{v v':vV}{T:vM}{W W' W'':vW}(h:WrTo z g v W W' v' T)(e:Ext W' W''):WrTo z g v W W'' v' T:=h.trans (WrTo.refl h.at' e)
theorem WrTo.blk{z g:Nat}{v v':vV}{T:vM}{W W':vW}(h:WrTo z g v W W' v' T){b:Nat}{o:Obj}(hB:Blk W b o)(h1:b≠g)(h2:v.ownBlock≠some b):Blk W' b o:=hB.keeps h.kp (fun e=>e.elim h1 h2)
theorem WrTo.ext0{z g:Nat}{v v':vV}{T T':vM}{W0 W W':vW}(h:WrTo z g v W W' v' T')(k:WrAt z g v T W)(e:Ext W0 W)(hz:W0.heap.size<=z):Ext W0 W':=
 e.trans' h.kp (fun x m e=>by
  rcases e with e | e
  ·have:=k.lo;omega
  ·have:=(k.own x e).1;omega)
theorem WrTo.fill{z g:Nat}{v v':vV}{T:vM}{W W' W'':vW}(h:WrTo z g v W W' v' T){L:Nat}(e:jae (fun b=>b=L) W' W'')(h1:L≠g)(h2:v'.ownBlock≠some L)(h3:W.heap.size<=L):WrTo z g v W W'' v' T:=
 ⟨h.at'.off e (fun x=>h1 x.symm) (fun b hb x=>h2 (by rw[hb,x])),h.kp.trans' e (fun x m y=>by have y:x=L:=y;omega),h.sub⟩
theorem WrTo.ahead{z g:Nat}{v v':vV}{T:vM}{W0 W W':vW}(e:Ext W0 W)(h:WrTo z g v W W' v' T):WrTo z g v W0 W' v' T:=
 ⟨h.at',(e.mono (fun _ _ h=>h.elim)).trans' h.kp (fun x m e=>e),fun b hb=>(h.sub b hb).imp id (fun k=>bG e.size k)⟩
def FoP(z g:Nat)(v:vV)(W:vW)(r:vV)(T:vM)(e:Ending)(w':vW):Prop:=e=.returned r/\∃ v',WrTo z g v W w' v' T
structure jpw(n:jad):Prop where
 refs:n.refs.length=16
 call:∀ w,jbW w->ErrT w->vQ 62 #[n.V] w fun e w'=>(∃ k:Int,e=.returned (.tuple #[.string (putN n),.int .i64 k]))/\Ext w w'
theorem jmi{d:Nat}{n:jad}(h:jbI (InlD d) n):jpw n:=⟨(h.one (inlP d)).refs,fun w _ _=>by
 rw[jme h];exact (jjL (inlP d) w n h).mono fun e w' h=>⟨⟨0,h.1⟩,h.2⟩⟩
def PutP:PA->Prop
 | .nil=>True
 | .no=>jpw jav
 | .leaf q v=>jpw ⟨1,q,v,jam 16⟩
 | .ext q n=>jpw (nodeP (.ext q n))/\PutP n
 | .br v ks=>jpw (nodeP (.br v ks))/\∀ i,PutP (ks i)
theorem PutP.node{P:PA}(h:PutP P)(hn:P.isNil=false):jpw (nodeP P):=by
 cases P with
 | nil=>cases hn
 | no=>exact h
 | leaf q v=>exact h
 | ext q n=>exact h.1
 | br v ks=>exact h.1
theorem jey:∀ (P:PA),P.isNil=false->(underP P).length+1<=cntP P
 | .nil,h=>by cases h
 | .no,_=>bM _
 | .leaf _ _,_=>bM _
 | .ext q n,_=>by
  show (bigs (textP n)++underP n).length+1<=1+cntP n;rw[bF];have e:=jhH (textP n);cases hn:n.isNil with
  | true=>rw[jbv hn];exact bM _
  | false =>
   have:=jey n hn
   omega
 | .br v ks,_=>by
  show ((List.range 16).flatMap fun i=>if (ks i).isNil then []else bigs (textP (ks i))++underP (ks i)).length+1<=1+sumF (fun i=>cntP (ks i)) 16
  have:=jgj (fun i=>if (ks i).isNil then []else bigs (textP (ks i))++underP (ks i)) (fun i=>cntP (ks i)) (fun i=>by
   show (if (ks i).isNil=true then ([]:vM)else bigs (textP (ks i))++underP (ks i)).length<=cntP (ks i);cases hn:(ks i).isNil with
   | true=>rw[if_pos rfl];exact cD _
   | false =>
    rw[if_neg ff,bF];have e:=jhH (textP (ks i))
    have:=jey (ks i) hn
    omega) 16
  omega
def jyl(P:PA):Prop:=∀ (w0 W:vW) (T:TypeId) (x:vV) (D:Nat->Prop) (g:Nat) (v:vV) (Tx:vM),jbW w0->ErrT w0->PaO P (.iface T x) D w0->Ext w0 W->WrAt w0.heap.size g v Tx W->Tx.length+cntP P<=100000 ->
 vQ (jl9 P) #[x,.pointer (some ⟨g,0,none⟩)] W (FoP w0.heap.size g v W (nodeP P).V (Tx++underP P))
def TopC(P:PA):Prop:=∀ (w0 W:vW) (T:TypeId) (x:vV) (D:Nat->Prop) (g:Nat) (v:vV) (Tx:vM),jbW w0->ErrT w0->PaO P (.iface T x) D w0->Ext w0 W->WrAt w0.heap.size g v Tx W->Tx.length+cntP P<=100000 ->
 vQ 47 #[.pointer (some ⟨g,0,none⟩),.iface T x] W (FoP w0.heap.size g v W (.string (textP P)) (Tx++underP P))
def jwA(P:PA):Prop:=∀ (w0 W:vW) (T:TypeId) (x:vV) (D:Nat->Prop) (g:Nat) (v:vV) (Tx:vM),jbW w0->ErrT w0->PaO P (.iface T x) D w0->Ext w0 W->WrAt w0.heap.size g v Tx W->Tx.length+cntP P<=100000 ->
 vQ 221 #[.pointer (some ⟨g,0,none⟩),.iface T x] W (FoP w0.heap.size g v W (.string (refB (textP P))) (Tx++(bigs (textP P)++underP P)))
theorem ju2(z g:Nat)(v:vV)(Tx:vM)(W:vW)(h:WrAt z g v Tx W):vQ 241 #[.agg #[],.pointer (some ⟨g,0,none⟩)] W (FoP z g v W jav.V Tx):=by
 have H:=Hd h;clear h;go_enter Tryz.func241,Tryz.ntmps241;go_wp2_with (first |(refine jaj Tryz.allocNode rfl rfl ?_;intro Q m A;simp only[bR]at m) |(refine jag (vs:=jav.cells) rfl rfl rfl rfl m rfl Tryz.szNode jav.one ?_;intro O E J))
 have K:Ext W (W.alloc (.cells #[] 206)):=(ExtR W).alloc _;refine bodyPost_ret (jbL rfl rfl (jas O _ jav rfl E)) rfl ?_
 exact⟨rfl,v,WrTo.refl H.o ((K.trans A).trans' J (fun x X e=>by have e:x=W.heap.size+1:=e;omega))⟩
def jAJ(q u:vB):List vV:=jcb 1 q u ⟨#[]⟩
theorem jxj(w0:vW)(z g:Nat)(v:vV)(Tx:vM)(W:vW)(hE:Ext w0 W)(q u:vB)(b:Nat)(hB:Blk w0 b (.cells #[.string q,.string u] 197))(h:WrAt z g v Tx W):vQ 224 #[.pointer (some ⟨b,0,none⟩),.pointer (some ⟨g,0,none⟩)] W (FoP z g v W (jad.V ⟨1,q,u,jam 16⟩) Tx):=by
 have H:=Hd h;have Q0:=Hd (jaa (hB.cell (i:=0) (v:=.string q) vF) hE);have Q1:=Hd (jaa (hB.cell (i:=1) (v:=.string u) vF) hE);have Z:=hB.lt;have E:=Hd (show ¬ b=W.heap.size by have:=hE.size;omega);clear h hB hE Z;go_enter Tryz.func224,Tryz.ntmps224;go_wp2_with (refine jaj Tryz.allocNode rfl rfl ?_;intro W4 J O)
 have a0:=Hd J;have m:=Hd O;clear J O;refine vS ?_;refine jaJ [0,1,2,3,4,5,6,7,8,9] [9] Ext (jae (fun z=>z=W.heap.size)) ExtR ExtT (fun x y z h k=>jae.trans h k) (fun x y h=>h.mono (fun _ _ h=>h.elim)) vY vY vY ?_
 refine vD ?_
 refine qDV _ ((.pointer (some ⟨b,0,none⟩))) rfl (fun w1 _=>by kernel_rfl) ?_;refine vS ?_
 refine vD ?_
 refine qDL ⟨b,0,none⟩ _ rfl (fun w1 h1=>jaE (fun w=>by kernel_rfl) (jan (jaa Q0.o m.o) (((jae.refl (fun z=>z=W.heap.size) W4).drew).trans h1) (by exact E.o))) ?_;refine vS ?_
 refine vD ?_
 refine qDV _ ((.pointer (some ⟨b,0,none⟩))) rfl (fun w1 _=>by kernel_rfl) ?_;refine vS ?_
 refine vD ?_
 refine qDL ⟨b,1,none⟩ _ rfl (fun w1 h1=>jaE (fun w=>by kernel_rfl) (jan (jaa Q1.o m.o) (((jae.refl (fun z=>z=W.heap.size) W4).drew).trans h1) (by exact E.o))) ?_;refine vS ?_
 refine vD ?_
 refine qDH _ rfl (fun w5 Q K hK=>?_);have hX:=(jai W4).trans Q;refine jlb (vs:=jAJ q u) rfl rfl rfl (a0.o.keeps hX (fun h=>h)) rfl Tryz.szNode (jcc _ _ _ _) ?_;intro W6 X A;have H6:=Hd (bB X ((m.o.trans hX).trans' A (fun x hx e=>by have e:x=W.heap.size:=e;omega)));refine vS ?_;refine hK _ _ A ?_;clear hK K Q hX X A;refine qDE (fun w7 Q=>?_);have a1:=H6.o.1.keeps Q (fun h=>h);have a2:=H6.o.2.trans Q;go_wp2_with fail
 refine bodyPost_ret (jbL rfl rfl (jas w7 _ ⟨1,q,u,jam 16⟩ rfl a1)) rfl ?_
 exact⟨rfl,v,WrTo.refl H.o a2⟩
theorem jtG(P:PA)(hn:P.isNil=false)(hp:PutP P)(hF:jyl P):TopC P:=by
 intro w0 W T x D g v Tx H J K O Q hl;have hf:=hF w0 W T x D g v Tx H J K O Q hl;have hm:=K.at'.meth.form;have hm:∀ w,(Go.method (410+1) T x "guilloche/trie.form").run Tryz.prog w=.ok (jl9 P,x) w:=hm;have a2:=jpR P;have m:=hp.node hn;rw[jmH hn];have HN:Hid (∀ w,Ext w0 w->vQ 62 #[(nodeP P).V] w fun e w'=>(∃ k:Int,e=.returned (.tuple #[.string (putN (nodeP P)),.int .i64 k]))/\Ext w w'):=fun w e=>m.call w (H.ext e) (J.ext e);have X:=Hd hf;have HW:=Hd (bB Q O)
 obtain⟨U,hU⟩:=vE (Tx++underP P)
 rw[<-hU]at X ⊢
 obtain⟨n,A⟩:=vE (nodeP P)
 rw[<-A]at X HN ⊢;clear hf H J K O Q hl m hn hp hF hU A;go_enter Tryz.func47,Tryz.ntmps47;go_wp2_with fail
 refine X.o.mono ?_;rintro e w1 ⟨rfl,v1,Z⟩;have HT:=Hd Z;have a0:=Hd (Z.ext0 HW.o.1 HW.o.2 (bM _));clear Z;go_wp2_with fail
 refine (HN.o w1 a0.o).mono ?_;rintro e w2 ⟨⟨k,rfl⟩,E⟩;have a1:=Hd E;clear E;go_wp2_with fail
 go_ret
 exact⟨rfl,v1,HT.o.ext a1.o⟩
end
section
open Go Go.RowKit
end
section
open Go Go.RowKit
attribute [local go_sem] Oper.semAt_some
end
section
open Go Go.RowKit
end
section
open Go Go.RowKit
attribute [local go_sem] Oper.semAt_some
end
section
open Go Go.RowKit
end
section
open Go Go.RowKit
attribute [local go_sem] Oper.semAt_some
theorem jw9{y h:vB}(E:jkr y=some h):je1 y:=by
 unfold jkr at E;cases A:cutN y with
 | none=>rw[A]at E;cases E
 | some r =>
  rw[A]at E;have E:jgl y r=some h:=E;unfold jgl at E;rw[Option.filter_eq_some_iff]at E
  obtain⟨H,J⟩:=E
  have J:h.size=32:=by simpa using J
  unfold jff at H
  by_cases hr:r.1=false/\r.2.1+r.2.2=y.size
  case neg=>rw[if_neg hr]at H;cases H
  rw[if_pos hr]at H;have H:=bN H
  obtain⟨b,o,n⟩:=r
  obtain⟨hb,K⟩:=hr
  have hb:b=false:=hb;have K:o+n=y.size:=K;subst hb
  refine⟨h,J,?_⟩
  have X:n=32:=by
   have e:=congrArg ByteArray.size H;rw[cH]at e;simp only at e;omega
  obtain⟨⟨l⟩⟩:=y
  cases l with
  | nil=>exact absurd (jkj A).1 vI
  | cons a t =>
   have A:cutN ⟨(a :: t).toArray⟩=some (false,o,n):=A;rw[jgg]at A
   obtain⟨m,O⟩:=vE (if a.toNat < 192 then a.toNat - 128 else a.toNat - 192)
   rw[<-O]at A
   by_cases h4:a.toNat < 128
   ·rw[if_pos h4]at A
    have:=(Prod.mk.inj (Prod.mk.inj (bN A)).2).2;omega
   rw[if_neg h4]at A
   by_cases h5:m<=55
   ·rw[if_pos h5]at A
    split at A
    ·have Q:=(Prod.mk.inj (bN A)).1
     have Z:=(Prod.mk.inj (Prod.mk.inj (bN A)).2).1;have e3:=(Prod.mk.inj (Prod.mk.inj (bN A)).2).2;have Q:¬ 192<=a.toNat:=of_decide_eq_false Q;rw[if_pos vO]at O;have ha:a=160:=dM.1 (by show a.toNat=160;omega);have ht:h=⟨t.toArray⟩:=by
      rw[<-H, <-Z,X];apply ByteArray.ext;apply Array.ext';have a0:o+n=t.length+1:=K;rw[cX,fF,dQ];show ((a :: t).drop 1).take (1+32 - 1)=t;rw[iH,List.drop_zero,bQ vO]
     unfold jap;rw[if_neg vO,J,ht,ha];apply ByteArray.ext;apply Array.ext';rw[cW,fO];rfl
    ·cases A
   ·rw[if_neg h5]at A
    split at A
    ·rename_i n' hl
     split at A
     ·have e3:=(Prod.mk.inj (Prod.mk.inj (bN A)).2).2
      have:=(jdi hl).2.2.2.1
      omega
     ·cases A
    ·cases A
def GetE(s:vB):Prop:=∀ w,ErrT w->vQ 65 #[.string s] w (jtJ w)
theorem WrAt.push{z g:Nat}{v v':vV}{Tx New:vM}{W w6:vW}(h:WrAt z g v Tx W){n:Nat}(hn:n=(Tx++New).length)(r1:w6.ownsRow 0 9 1 v' n ((Tx++New).map Value.string))(r2:jae (fun b=>v.ownBlock=some b) W w6)(r3:v'.ownBlock=v.ownBlock\/∀ b,v'.ownBlock=some b->W.heap.size<=b)(hz:z<=W.heap.size)(h0:New≠[]) :
  WrTo z g v W (w6.setCell ⟨g,0,none⟩ v') v' (Tx++New):=by
 subst hn;have A:=h.var.keeps r2 (fun e=>(h.own g e).2.1 rfl);have E:=jae.oneSet w6 ⟨g,0,none⟩ v';have H:=h.var.lt;have m:∀ b,v'.ownBlock=some b->v.ownBlock=some b\/W.heap.size<=b:=fun b hb=>by
  rcases r3 with r3 | r3
  ·exact .inl (r3 ▸ hb)
  ·exact .inr (r3 b hb)
 have o:∀ b,v'.ownBlock=some b->b≠g:=fun b hb=>by
  rcases m b hb with e | e
  ·exact (h.own b e).2.1
  ·omega
 refine⟨⟨h.lo,A.set_same (i:=0) _,ja2 r1 E (fun b hb e=>o b hb e),fun b hb=>⟨?_,o b hb,bJ (jwb r1 hb) E.size⟩,fun e=>?_⟩,?_,m⟩
 ·rcases m b hb with e | e
  ·exact (h.own b e).1
  ·omega
 ·exact absurd (List.append_eq_nil_iff.1 e).2 h0
 ·exact ((r2.mono (fun x _ e=>.inr e):jae (fun b=>b=g\/v.ownBlock=some b) W w6)).trans' E (fun x J e=>.inl e)
theorem WrAt.sameTo{z g:Nat}{v:vV}{Tx:vM}{W:vW}(h:WrAt z g v Tx W):WrTo z g v W (W.setCell ⟨g,0,none⟩ v) v Tx:=by
 have K:=jae.oneSet W ⟨g,0,none⟩ v;have m:=h.var.set_same (i:=0) v
 exact⟨⟨h.lo,m,ja2 h.row K (fun b hb e=>(h.own b hb).2.1 e),fun b hb=>⟨(h.own b hb).1,(h.own b hb).2.1,bJ (h.own b hb).2.2 K.size⟩,h.nil⟩,K.mono (fun x _ e=>.inl e),fun b hb=>.inl hb⟩
theorem WrAt.same{z g:Nat}{v:vV}{Tx:vM}{W:vW}(h:WrAt z g v Tx W):WrAt z g v Tx (W.setCell ⟨g,0,none⟩ v):=h.sameTo.at'
theorem jnu{W:vW}{T:TypeId}{sz:Nat}{a:Option Addr}{n c:Nat}{xs:List vV}(h:W.ownsRow 0 T sz (.slice a n c) n xs)(h0:n≠0):∃ b,a=some ⟨b,0,none⟩:=by
 obtain⟨_,⟨m,e⟩ |⟨g,o,A,e,_⟩⟩:=h
 ·injection m with _ m _
  exact absurd m h0
 ·injection e with e _ _
  exact⟨g,e⟩
theorem jhh{W:vW}{T:TypeId}{b n c:Nat}{xs:List vV}(h:W.ownsRow 0 T 1 (.slice (some ⟨b,0,none⟩) n c) n xs){j:Nat}{u:vV}(hj:xs[j]?=some u):W.cell? ⟨b,j,none⟩=some u:=by
 have e:=(bO.1 hj).1;have m:=h.1;rw[h.cellAt j vO,hj]
theorem juG(t:vB)(h:¬ t.size < 32):jkr (refB t)=some (shaB t):=by
 rw[jiC];unfold refB;rw[if_neg h];exact jeh (jbA _)
theorem jnl(t:vB)(h:t.size < 32):jkr (refB t)=none:=by
 unfold refB;rw[if_pos h];cases e:jkr t with
 | none=>rfl
 | some x =>
  have:=(jw9 (y:=t) (h:=x) e).size
  omega
theorem js2(t:vB):(refB t).size<=33:=by
 unfold refB;split
 ·omega
 ·exact Nat.le_of_eq (je1.size ⟨_,jbA t,rfl⟩)
theorem jsK{W:vW}{T:TypeId}{sz:Nat}{a:Option Addr}{n c:Nat}{xs:List vV}(h:W.ownsRow 0 T sz (.slice a n c) n xs):n<=c:=by
 obtain⟨_,⟨A,e⟩ |⟨g,m,o,e,E,H,J,K⟩⟩:=h
 ·omega
 ·injection e with _ _ e
  omega
theorem jqC(P:PA)(hT:TopC P)(hz:(textP P).size < 32)(w0 W:vW)(T:TypeId)(x:vV)(D:Nat->Prop)(g:Nat)(v:vV)(Tx:vM)(hc:jbW w0)(J:ErrT w0)(hP:PaO P (.iface T x) D w0)(hE:Ext w0 W)(hW:WrAt w0.heap.size g v Tx W)(hl:Tx.length+cntP P<=100000) :
  vQ 221 #[.pointer (some ⟨g,0,none⟩),.iface T x] W (FoP w0.heap.size g v W (.string (refB (textP P))) (Tx++underP P)):=by
 obtain⟨W1,b1⟩:=vE (W.alloc (.cells #[.slice none 0 0] 98))
 have b4:Ext W W1:=by rw[b1];exact (ExtR W).alloc _
 have b5:WrAt w0.heap.size W.heap.size (.slice none 0 0) [] W1:=⟨hE.size,by rw[b1];exact Blk.new W _,fR _ _ _ _,fun b hb=>(by cases hb),fun _=>rfl⟩;have a0:=hT w0 W1 T x D W.heap.size (.slice none 0 0) [] hc J hP (hE.trans b4) b5 (by have:([]:vM).length=0:=rfl;omega);rw[cM]at a0;have a8:=Hd a0;clear a0;have c3:=Hd b1;have d7:=c3;have HG:=Hd hW;have O:=Hd (bB b5 (bB b4 hE));have d8:=hc;have a9:=Hd (fun w (e:Ext w0 w)=>jxB w (textP P) (hc.ext e));have a3:=Hd (fun w=>jfB w (refB (textP P)) (by have:=js2 (textP P);omega));rw[jnl _ hz]at a3;have c4:Tx.length+(underP P).length<=100000:=by
  cases hn:P.isNil with
  | true=>rw[jbv hn];show Tx.length+0<=_;omega
  | false=>have:=jey P hn;omega
 have c5:=Hd c4
 obtain⟨U,hU⟩:=vE (underP P)
 obtain⟨t,ht⟩:=vE (textP P)
 rw[<-ht, <-hU]at a8;rw[<-ht]at a9 a3 ⊢;rw[<-hU]at c5 ⊢;clear hT hz hc J hP hE hW hl b4 b5 c4 hU ht b1 d7 d8;go_enter Tryz.func221,Tryz.ntmps221;go_wp2_with fail
 rw[<-c3.o];refine a8.o.mono ?_;rintro e w2 ⟨rfl,v2,Q⟩;have b6:g≠W.heap.size:=by have:=HG.o.var.lt;omega
 have b0:=Q.ext0 O.o.1 (O.o.2.2.trans O.o.2.1) (bM _);have c6:WrAt w0.heap.size g v Tx w2:=(HG.o.ext O.o.2.1).off Q.kp (fun e=>e.elim b6 (fun e=>by cases e)) (fun b hb e=>e.elim (fun e=>by have:=(HG.o.own b hb).2.2;omega) (fun e=>by cases e));have c7:Ext W w2:=O.o.2.1.trans' Q.kp (fun x hx e=>e.elim (fun e=>by omega) (fun e=>by cases e));have e5:Hid (∀ b,v2.ownBlock=some b->W.heap.size<=b):=(fun b hb=>(Q.sub b hb).elim (fun e=>by cases e) (fun e=>bG O.o.2.1.size e));have a5:=Hd (bB Q.at' (bB c6 (bB c7 b0)));clear Q c6 c7 b0
 obtain⟨h,hh⟩:=vE W.heap.size
 have e6:=Hd (bB b6 hh);rw[<-hh]at a5 ⊢;clear b6 hh;go_wp2_with fail
 refine vH (a9.o w2 a5.o.2.2.2) fun w3 d9=>?_;go_wp2_with fail
 refine vC (a3.o w3) fun w4 X=>?_;have X:=d9.o.trans X;have m:=Hd (bB (a5.o.1.ext X) (bB (a5.o.2.1.ext X) (a5.o.2.2.1.trans X)));clear X;unfold optV;go_wp2_with fail
 obtain⟨i0,c8,e0,e1,e2⟩:=info_parts Tryz.infoStr
 obtain⟨a1,c1,c9⟩:=jaR m.o.2.1.row
 obtain⟨Z,b3⟩:∃ n,n=List.length Tx:=⟨_,rfl⟩
 rw[<-b3]at c9;subst c9;have d0:=Hd b3;have d1:=Hd (show World.ownsRow w4 0 9 1 (.slice a1 Z c1) Z (List.map Value.string Tx) by have h9:=m.o.2.1.row;rw[<-b3]at h9;exact h9);have c0:=Hd (jsK d1.o);have QG:=Hd (m.o.2.1.var.cell (i:=0) (v:=.slice a1 Z c1) vF);clear b3
 by_cases hU0:U=[]
 ·have a6:=m.o.1.nil hU0
  subst a6;have QH:=Hd (m.o.1.var.cell (i:=0) (v:=.slice none 0 0) vF);have b7:=Hd hU0;clear hU0;refine jay [0,1,2,3,4,5,6,7,8,9,10,11,12] [9,12] (Ext) ExtR ExtT vY vY vY ?_;iterate 2 refine vP ?_
  refine qA _ ((.pointer (some ⟨g,0,none⟩))) rfl (fun w1=>by kernel_rfl) ?_;refine vS ?_
  refine vP ?_
  refine qL ⟨g,0,none⟩ _ rfl (fun w1 h1=>jaE (fun w=>by kernel_rfl) (jaa QG.o ((jai _).trans h1))) ?_;refine vS ?_
  refine vP ?_
  refine qA _ ((.pointer (some ⟨h,0,none⟩))) rfl (fun w1=>by kernel_rfl) ?_;refine vS ?_
  refine vP ?_
  refine qL ⟨h,0,none⟩ _ rfl (fun w1 h1=>jaE (fun w=>by kernel_rfl) (jaa QH.o ((jai _).trans h1))) ?_;refine vS ?_;refine qH _ rfl (fun w5 J K hK=>?_);refine jcu (v:=.slice a1 Z c1) (w':=w5) (jdK (jck (i:=i0) Tryz.uStrs c8 a1 Z c1 c0.o 0 w5) vY) (hK _ _ ?_);have d2:=Hd ((jai _).trans J);clear hK K J;refine vS ?_;refine qA _ ((.pointer (some ⟨g,0,none⟩))) rfl (fun w1=>by kernel_rfl) ?_;refine vS ?_
  refine vP ?_
  refine qH _ rfl (fun w8 E K hK=>?_);have A:=m.o.2.1.ext (d2.o.trans E);have q8:w8.cell? ⟨g,0,none⟩=some (.slice a1 Z c1):=A.var.cell (i:=0) vF;have f8:w8.frozen? ⟨g,0,none⟩=false:=A.var.frozen;have d3:WrAt w0.heap.size g (.slice a1 Z c1) Tx (w8.setCell ⟨g,0,none⟩ (.slice a1 Z c1)):=A.same;have H8:=Hd (bB d3 (bB (d2.o.trans E) A));clear A d3 E;go_simp;refine hK _ _ ?_;clear hK K q8 f8;refine qE (fun w7 J=>?_);have H9:=Hd (H8.o.1.ext J);have b8:=Hd J;clear J;go_wp2_with fail
  go_ret;rw[b7.o,cC]
  exact⟨rfl,_,(WrTo.refl HG.o (m.o.2.2.trans H8.o.2.1)).trans ((H8.o.2.2.sameTo).ext b8.o)⟩
 ·obtain⟨a2,c2,a6⟩:=jaR m.o.1.row
  have a7:=m.o.1.row
  obtain⟨n2,b9⟩:∃ n,n=List.length U:=⟨_,rfl⟩
  rw[<-b9]at a6 a7;rw[a6]at a7
  obtain⟨b2,rfl⟩:=jnu a7 (fun e=>hU0 (bD vO))
  subst a6;have e3:=Hd a7;have d4:=Hd b9.symm;have b7:=Hd hU0;have d5:=Hd (show Z+n2<=200000 by have:=c5.o;have:=d0.o;omega);have QH:=Hd (m.o.1.var.cell (i:=0) (v:=.slice (some ⟨b2,0,none⟩) n2 c2) vF);clear hU0 a7 b9;refine jay [0,1,2,3,4,5,6,7,8,9,10,11,12] [9,12] (Ext) ExtR ExtT vY vY vY ?_;iterate 2 refine vP ?_
  refine qA _ ((.pointer (some ⟨g,0,none⟩))) rfl (fun w1=>by kernel_rfl) ?_;refine vS ?_
  refine vP ?_
  refine qL ⟨g,0,none⟩ _ rfl (fun w1 h1=>jaE (fun w=>by kernel_rfl) (jaa QG.o ((jai _).trans h1))) ?_;refine vS ?_
  refine vP ?_
  refine qA _ ((.pointer (some ⟨h,0,none⟩))) rfl (fun w1=>by kernel_rfl) ?_;refine vS ?_
  refine vP ?_
  refine qL ⟨h,0,none⟩ _ rfl (fun w1 h1=>jaE (fun w=>by kernel_rfl) (jaa QH.o ((jai _).trans h1))) ?_;refine vS ?_;refine qH _ rfl (fun w5 J K hK=>?_);have H:=(jai _).trans J;refine jdw w5 (.tmp 37) (.tmp 41) 30 rfl 9 i0 _ 1 16 Tryz.uStrs c8 e0 e1 e2 rfl vI (.slice a1 Z c1) Z _ rfl (jbl d1.o H) ⟨b2,0,none⟩ n2 c2 (U.map Value.string) rfl (by rw[bU,d4.o,iC]) (fun j u hj=>by rw[Addr.add_lit,cF];exact (jhh (jbl e3.o H) hj)) (by intro u hu;obtain⟨y,_,rfl⟩:=bI.1 hu;rfl) (by have:=d5.o;unfold maxLen;omega) (by have:=d5.o;omega) ?_;intro v' w6 r1 r2 r3;have HA:=Hd (bB H (bB r1 (bB r2 r3)))
  obtain⟨a',c',e4⟩:=jaR r1
  subst e4;refine hK _ _ ?_;clear hK K J H r1 r2 r3;refine vS ?_;refine qA _ ((.pointer (some ⟨g,0,none⟩))) rfl (fun w1=>by kernel_rfl) ?_;refine vS ?_
  refine vP ?_
  refine qH _ rfl (fun w8 E K hK=>?_)
  obtain⟨H,r1,r2,r3⟩:=HA.o
  have a4:=m.o.2.1.ext H;have d6:w0.heap.size<=w5.heap.size:=bG a4.lo (iJ a4.var.lt);have hp:=a4.push (n:=Z+n2) (by rw[bF, <-d0.o,d4.o]) (by rw[bZ];exact jbl r1 E) (r2.trans (E.mono (fun _ _ e=>e.elim))) r3 d6 b7.o;have A:=(a4.var.keeps r2 (fun e=>(a4.own g e).2.1 rfl)).keeps E (fun e=>e);have q8:w8.cell? ⟨g,0,none⟩=some (.slice a1 Z c1):=A.cell (i:=0) vF;have f8:w8.frozen? ⟨g,0,none⟩=false:=A.frozen;have H8:=Hd (bB hp H);clear H r1 r2 r3 a4 d6 hp A E;go_simp;refine hK _ _ ?_;clear hK K q8 f8;refine qE (fun w7 J=>?_);have b8:=Hd J;clear J;go_wp2_with fail
  go_ret
  exact⟨rfl,_,((WrTo.refl HG.o (m.o.2.2.trans H8.o.2)).trans H8.o.1).ext b8.o⟩
theorem jvQ(P:PA)(hT:TopC P)(hz:¬(textP P).size < 32)(w0 W:vW)(T:TypeId)(x:vV)(D:Nat->Prop)(g:Nat)(v:vV)(Tx:vM)(hc:jbW w0)(J:ErrT w0)(hP:PaO P (.iface T x) D w0)(hE:Ext w0 W)(hW:WrAt w0.heap.size g v Tx W)(hl:Tx.length+cntP P<=100000) :
  vQ 221 #[.pointer (some ⟨g,0,none⟩),.iface T x] W (FoP w0.heap.size g v W (.string (refB (textP P))) (Tx++(textP P :: underP P))):=by
 obtain⟨W1,b8⟩:=vE (W.alloc (.cells #[.slice none 0 0] 98))
 have c7:Ext W W1:=by rw[b8];exact (ExtR W).alloc _
 have c8:WrAt w0.heap.size W.heap.size (.slice none 0 0) [] W1:=⟨hE.size,by rw[b8];exact Blk.new W _,fR _ _ _ _,fun b hb=>(by cases hb),fun _=>rfl⟩;have a3:=hT w0 W1 T x D W.heap.size (.slice none 0 0) [] hc J hP (hE.trans c7) c8 (by have:([]:vM).length=0:=rfl;omega);rw[cM]at a3;have b3:=Hd a3;clear a3;have d7:=Hd b8;have f5:=d7;have HG:=Hd hW;have O:=Hd (bB c8 (bB c7 hE));have f6:=hc;have b4:=Hd (fun w (e:Ext w0 w)=>jxB w (textP P) (hc.ext e));have a4:=Hd (fun w=>jfB w (refB (textP P)) (by have:=js2 (textP P);omega));rw[juG _ hz]at a4;have d8:Tx.length+(underP P).length<=100000:=by
  cases hn:P.isNil with
  | true=>rw[jbv hn];show Tx.length+0<=_;omega
  | false=>have:=jey P hn;omega
 have c9:=Hd d8
 obtain⟨U,hU⟩:=vE (underP P)
 obtain⟨t,ht⟩:=vE (textP P)
 rw[<-ht, <-hU]at b3;rw[<-ht]at b4 a4 ⊢;rw[<-hU]at c9 ⊢;clear hT hz hc J hP hE hW hl c7 c8 d8 hU ht b8 f5 f6;go_enter Tryz.func221,Tryz.ntmps221;go_wp2_with fail
 rw[<-d7.o];refine b3.o.mono ?_;rintro e w2 ⟨rfl,v2,Q⟩;have d0:g≠W.heap.size:=by have:=HG.o.var.lt;omega
 have b5:=Q.ext0 O.o.1 (O.o.2.2.trans O.o.2.1) (bM _);have d9:WrAt w0.heap.size g v Tx w2:=(HG.o.ext O.o.2.1).off Q.kp (fun e=>e.elim d0 (fun e=>by cases e)) (fun b hb e=>e.elim (fun e=>by have:=(HG.o.own b hb).2.2;omega) (fun e=>by cases e));have e0:Ext W w2:=O.o.2.1.trans' Q.kp (fun x hx e=>e.elim (fun e=>by omega) (fun e=>by cases e));have d5:Hid (∀ b,v2.ownBlock=some b->W.heap.size<=b):=(fun b hb=>(Q.sub b hb).elim (fun e=>by cases e) (fun e=>bG O.o.2.1.size e));have a6:=Hd (bB Q.at' (bB d9 (bB e0 b5)));clear Q d9 e0 b5
 obtain⟨h,hh⟩:=vE W.heap.size
 have e1:=Hd (bB d0 hh);rw[<-hh]at a6 ⊢;clear d0 hh;go_wp2_with fail
 refine vH (b4.o w2 a6.o.2.2.2) fun w3 f7=>?_;go_wp2_with fail
 refine vC (a4.o w3) fun w4 X=>?_;have X:=f7.o.trans X;have m:=Hd (bB (a6.o.1.ext X) (bB (a6.o.2.1.ext X) (a6.o.2.2.1.trans X)));clear X;unfold optV
 obtain⟨i0,a7,b9,c3,c4⟩:=info_parts Tryz.infoStr
 have a8:=m.o.2.1
 obtain⟨a0,c0,f9⟩:=jaR a8.row
 have q4:=a8.var.cell (i:=0) (v:=v) vF;have e2:=Hd (show Tx.length<=100000 by have:=c9.o;omega);have g0:=Hd a8.row;have a9:=Hd a8;clear a8;subst f9;go_wp2_with (at_builtin;refine jbV _ rfl (.tmp 27) (.tmp 29) 30 rfl 9 i0 _ 1 16 Tryz.uStrs a7 b9 c3 c4 rfl vI (.slice a0 Tx.length c0) Tx.length _ rfl (jbl g0.o ((ExtR w4).alloc _)) ⟨w4.heap.size,0,none⟩ 1 1 [.string t] rfl rfl (jaH (Blk.new w4 _)) (by simp[Value.oneCell']) (by have:=e2.o;unfold maxLen;omega) (by have:=e2.o;omega) ?_;intro v' w6 r1 r2 r3;obtain⟨e3,e4,rfl⟩:=jaR r1;have g1:=a9.o.var.lt;have d1:=(a9.o.var.alloc (.cells #[.string t] 9)).keeps r2 (fun e=>(a9.o.own g e).2.1 rfl);have g2:w6.cell? ⟨g,0,none⟩=some (.slice a0 Tx.length c0):=d1.cell (i:=0) vF;have g3:w6.frozen? ⟨g,0,none⟩=false:=d1.frozen)
 obtain⟨wS,e5⟩:=vE (w6.setCell ⟨g,0,none⟩ (.slice e3 (Tx.length+1) e4))
 have b6:=a9.o.ext ((ExtR w4).alloc (.cells #[.string t] 9));have hp:=b6.push (n:=Tx.length+1) (New:=[t]) (by simp) (by rw[bZ];exact r1) r2 r3 (by have:=a9.o.lo;rw[bR];omega) (by simp);rw[<-e5]at hp ⊢;have hp:=WrTo.ahead ((ExtR w4).alloc (.cells #[.string t] 9)) hp;have e6:=m.o.1.off hp.kp (fun e=>e.elim (fun e=>by have:=HG.o.var.lt;have:=e1.o.2;omega) (fun e=>by have:=(HG.o.own h e).2.2;have:=e1.o.2;omega)) (fun b hb e=>by
  have h1:=d5.o b hb;rcases e with e | e
  ·have:=HG.o.var.lt;omega
  ·have:=(HG.o.own b e).2.2;omega)
 have b7:WrTo w0.heap.size g (.slice a0 Tx.length c0) W wS (.slice e3 (Tx.length+1) e4) (Tx++[t]):=(WrTo.refl HG.o m.o.2.2).trans hp;have c5:∃ v1,WrAt w0.heap.size h v2 U wS/\WrAt w0.heap.size g v1 (Tx++[t]) wS/\WrTo w0.heap.size g (.slice a0 Tx.length c0) W wS v1 (Tx++[t]):=⟨_,e6,hp.at',b7⟩
 obtain⟨v1,c5⟩:=c5
 clear m hp b6 e5 e6 b7 g2 g3 d1 r1 r2 r3 g1 q4;have m:=Hd c5;clear c5 a7 b9 c3 c4
 obtain⟨i0,a7,b9,c3,c4⟩:=info_parts Tryz.infoStr
 obtain⟨a1,c1,e7⟩:=jaR m.o.2.1.row
 obtain⟨Z,c6⟩:∃ n,n=List.length (Tx++[t]):=⟨_,rfl⟩
 rw[<-c6]at e7;subst e7;have e8:=Hd c6;have e9:=Hd (show World.ownsRow wS 0 9 1 (.slice a1 Z c1) Z (List.map Value.string (Tx++[t])) by have h9:=m.o.2.1.row;rw[<-c6]at h9;exact h9);have d6:=Hd (jsK e9.o);have QG:=Hd (m.o.2.1.var.cell (i:=0) (v:=.slice a1 Z c1) vF);clear c6
 by_cases hU0:U=[]
 ·have b0:=m.o.1.nil hU0
  subst b0;have QH:=Hd (m.o.1.var.cell (i:=0) (v:=.slice none 0 0) vF);have d2:=Hd hU0;clear hU0;refine jay [0,1,2,3,4,5,6,7,8,9,10,11,12] [9,12] (Ext) ExtR ExtT vY vY vY ?_;iterate 2 refine vP ?_
  refine qA _ ((.pointer (some ⟨g,0,none⟩))) rfl (fun w1=>by kernel_rfl) ?_;refine vS ?_
  refine vP ?_
  refine qL ⟨g,0,none⟩ _ rfl (fun w1 h1=>jaE (fun w=>by kernel_rfl) (jaa QG.o ((jai _).trans h1))) ?_;refine vS ?_
  refine vP ?_
  refine qA _ ((.pointer (some ⟨h,0,none⟩))) rfl (fun w1=>by kernel_rfl) ?_;refine vS ?_
  refine vP ?_
  refine qL ⟨h,0,none⟩ _ rfl (fun w1 h1=>jaE (fun w=>by kernel_rfl) (jaa QH.o ((jai _).trans h1))) ?_;refine vS ?_;refine qH _ rfl (fun w5 J K hK=>?_);refine jcu (v:=.slice a1 Z c1) (w':=w5) (jdK (jck (i:=i0) Tryz.uStrs a7 a1 Z c1 d6.o 0 w5) vY) (hK _ _ ?_);have f0:=Hd ((jai _).trans J);clear hK K J;refine vS ?_;refine qA _ ((.pointer (some ⟨g,0,none⟩))) rfl (fun w1=>by kernel_rfl) ?_;refine vS ?_
  refine vP ?_
  refine qH _ rfl (fun w8 E K hK=>?_);have A:=m.o.2.1.ext (f0.o.trans E);have q8:w8.cell? ⟨g,0,none⟩=some (.slice a1 Z c1):=A.var.cell (i:=0) vF;have f8:w8.frozen? ⟨g,0,none⟩=false:=A.var.frozen;have f1:WrAt w0.heap.size g (.slice a1 Z c1) (Tx++[t]) (w8.setCell ⟨g,0,none⟩ (.slice a1 Z c1)):=A.same;have H8:=Hd (bB f1 (bB (f0.o.trans E) A));clear A f1 E;go_simp;refine hK _ _ ?_;clear hK K q8 f8;refine qE (fun w7 J=>?_);have H9:=Hd (H8.o.1.ext J);have d3:=Hd J;clear J;go_wp2_with fail
  go_ret;rw[d2.o]
  exact⟨rfl,_,(m.o.2.2.ext H8.o.2.1).trans ((H8.o.2.2.sameTo).ext d3.o)⟩
 ·obtain⟨a2,c2,b0⟩:=jaR m.o.1.row
  have b1:=m.o.1.row
  obtain⟨n2,d4⟩:∃ n,n=List.length U:=⟨_,rfl⟩
  rw[<-d4]at b0 b1;rw[b0]at b1
  obtain⟨b2,rfl⟩:=jnu b1 (fun e=>hU0 (bD vO))
  subst b0;have g4:=Hd b1;have f2:=Hd d4.symm;have d2:=Hd hU0;have f3:=Hd (show Z+n2<=200000 by have:=c9.o;have h9:=e8.o;rw[bF,jA]at h9;omega);have QH:=Hd (m.o.1.var.cell (i:=0) (v:=.slice (some ⟨b2,0,none⟩) n2 c2) vF);clear hU0 b1 d4;refine jay [0,1,2,3,4,5,6,7,8,9,10,11,12] [9,12] (Ext) ExtR ExtT vY vY vY ?_;iterate 2 refine vP ?_
  refine qA _ ((.pointer (some ⟨g,0,none⟩))) rfl (fun w1=>by kernel_rfl) ?_;refine vS ?_
  refine vP ?_
  refine qL ⟨g,0,none⟩ _ rfl (fun w1 h1=>jaE (fun w=>by kernel_rfl) (jaa QG.o ((jai _).trans h1))) ?_;refine vS ?_
  refine vP ?_
  refine qA _ ((.pointer (some ⟨h,0,none⟩))) rfl (fun w1=>by kernel_rfl) ?_;refine vS ?_
  refine vP ?_
  refine qL ⟨h,0,none⟩ _ rfl (fun w1 h1=>jaE (fun w=>by kernel_rfl) (jaa QH.o ((jai _).trans h1))) ?_;refine vS ?_;refine qH _ rfl (fun w5 J K hK=>?_);have H:=(jai _).trans J;refine jdw w5 (.tmp 37) (.tmp 41) 30 rfl 9 i0 _ 1 16 Tryz.uStrs a7 b9 c3 c4 rfl vI (.slice a1 Z c1) Z _ rfl (jbl e9.o H) ⟨b2,0,none⟩ n2 c2 (U.map Value.string) rfl (by rw[bU,f2.o,iC]) (fun j u hj=>by rw[Addr.add_lit,cF];exact (jhh (jbl g4.o H) hj)) (by intro u hu;obtain⟨y,_,rfl⟩:=bI.1 hu;rfl) (by have:=f3.o;unfold maxLen;omega) (by have:=f3.o;omega) ?_;intro v' w6 r1 r2 r3;have HA:=Hd (bB H (bB r1 (bB r2 r3)))
  obtain⟨a',c',g5⟩:=jaR r1
  subst g5;refine hK _ _ ?_;clear hK K J H r1 r2 r3;refine vS ?_;refine qA _ ((.pointer (some ⟨g,0,none⟩))) rfl (fun w1=>by kernel_rfl) ?_;refine vS ?_
  refine vP ?_
  refine qH _ rfl (fun w8 E K hK=>?_)
  obtain⟨H,r1,r2,r3⟩:=HA.o
  have a5:=m.o.2.1.ext H;have f4:w0.heap.size<=w5.heap.size:=bG a5.lo (iJ a5.var.lt);have hp:=a5.push (n:=Z+n2) (by rw[bF, <-e8.o,f2.o]) (by rw[bZ];exact jbl r1 E) (r2.trans (E.mono (fun _ _ e=>e.elim))) r3 f4 d2.o;have A:=(a5.var.keeps r2 (fun e=>(a5.own g e).2.1 rfl)).keeps E (fun e=>e);have q8:w8.cell? ⟨g,0,none⟩=some (.slice a1 Z c1):=A.cell (i:=0) vF;have f8:w8.frozen? ⟨g,0,none⟩=false:=A.frozen;have H8:=Hd (bB hp H);clear H r1 r2 r3 a5 f4 hp A E;go_simp;refine hK _ _ ?_;clear hK K q8 f8;refine qE (fun w7 J=>?_);have d3:=Hd J;clear J;go_wp2_with fail
  go_ret;rw[show Tx++t :: U=Tx++[t]++U by rw[cB];rfl]
  exact⟨rfl,_,((m.o.2.2.ext H8.o.2).trans H8.o.1).ext d3.o⟩
theorem jwk(P:PA)(hT:TopC P):jwA P:=by
 intro w0 W T x D g v e m o A E H J;unfold bigs
 by_cases hz:(textP P).size < 32
 ·rw[if_pos hz]
  exact jqC P hT hz w0 W T x D g v e m o A E H J
 ·rw[if_neg hz]
  exact jvQ P hT hz w0 W T x D g v e m o A E H J
theorem jm5(k:Int)(p v r r':vB):(jcb k p v r).toArray.setIfInBounds 3 (.string r')=(jcb k p v r').toArray:=by simp[jcb]
theorem jwZ(w0 W:vW)(q:vB)(n:PA)(T:TypeId)(x:vV)(Dn:Nat->Prop)(b:Nat)(hB:Blk w0 b (.cells #[.string q,.iface T x] 200))(hv:PaO n (.iface T x) Dn w0)(hR:jwA n)(g:Nat)(v:vV)(Tx:vM)(hc:jbW w0)(he:ErrT w0)(hE:Ext w0 W)(hW:WrAt w0.heap.size g v Tx W)(hl:Tx.length+cntP n<=100000) :
  vQ 231 #[.pointer (some ⟨b,0,none⟩),.pointer (some ⟨g,0,none⟩)] W (FoP w0.heap.size g v W (jad.V ⟨2,q,⟨#[]⟩,refB (textP n) :: jam 15⟩) (Tx++(bigs (textP n)++underP n))):=by
 have Q0:=Hd (hB.cell (i:=0) (v:=.string q) vF);have Q1:=Hd (hB.cell (i:=1) (v:=.iface T x) vF);have Q:=Hd (bB hW hE);have X:=Hd (fun w (e:Ext w0 w) (k:WrAt w0.heap.size g v Tx w)=>hR w0 w T x Dn g v Tx hc he hv e k hl)
 obtain⟨t,ht⟩:=vE (refB (textP n))
 obtain⟨U,hU⟩:=vE (Tx++(bigs (textP n)++underP n))
 rw[<-ht, <-hU]at X;rw[<-ht, <-hU];clear hB hv hR hc he hE hW hl ht hU;have c3:∀ w,(Instr.build 110 #[(0,.int .i64 2),(1,.string q)]).run Tryz.prog w=.ok (.agg (jcb 2 q ⟨#[]⟩ ⟨#[]⟩).toArray) w:=fun w=>by kernel_rfl
 go_enter Tryz.func231,Tryz.ntmps231;go_wp2_with (first |(refine jaj (w:=W) Tryz.allocNode rfl rfl ?_;intro m b0 a2;have b1:=Hd b0;have b2:=Hd a2;have q0:=jaa Q0.o (Q.o.2.trans a2);clear b0 a2) |(refine jaj (w:=m) Tryz.allocNode rfl rfl ?_;intro W2 b3 a3) |(refine jag (vs:=jcb 2 q ⟨#[]⟩ ⟨#[]⟩) rfl rfl rfl rfl b3 rfl Tryz.szNode (jcc _ _ _ _) ?_;intro W3 a4 a5;have q1:=jaa (jaa Q1.o (Q.o.2.trans b2.o)) (a3.trans' a5 (fun x hx e=>by have e:x=m.heap.size:=e;omega))))
 have E:Ext m W3:=a3.trans' a5 (fun x hx e=>by have e:x=m.heap.size:=e;omega);have H:=Hd (bB a4 (bB (b1.o.keeps E (fun e=>e)) (b2.o.trans E)));have b4:=b1.o.lt;have HN:=Hd (show W.heap.size < m.heap.size/\m.heap.size < W3.heap.size from⟨b4,a4.lt⟩);clear b3 a3 a4 a5 E b4;refine (X.o W3 (Q.o.2.trans H.o.2.2) (Q.o.1.ext H.o.2.2)).mono ?_;rintro e w4 ⟨rfl,v4,A⟩;have b8:=Q.o.1.var.lt;have a6:m.heap.size≠g:=by have:=HN.o.1;omega
 have a7:v.ownBlock≠some m.heap.size:=fun e=>by have:=(Q.o.1.own _ e).2.2;have:=HN.o.1;omega
 have J:=A.blk H.o.1 a6 a7;have Z:=A.blk H.o.2.1 vO (fun e=>by have:=(Q.o.1.own _ e).2.2;omega);have qf:w4.cell? ⟨m.heap.size,3,none⟩=some (.string ⟨#[]⟩):=J.cellL (i:=3) vF;have ff:w4.frozen? ⟨m.heap.size,3,none⟩=false:=J.frozen
 obtain⟨W5,K⟩:=vE (w4.setCell ⟨m.heap.size,3,none⟩ (.string t))
 have b9:Blk W5 m.heap.size (.cells (jcb 2 q ⟨#[]⟩ t).toArray 110):=by
  have:=J.set_same (i:=3) (.string t)
  rw[jm5]at this;rw[K];exact this
 have a8:jae (fun z=>z=m.heap.size) w4 W5:=by rw[K];exact jae.oneSet w4 ⟨m.heap.size,3,none⟩ (.string t)
 have a0:Blk W5 W.heap.size (.cells jav.cells.toArray 110):=Z.keeps a8 (fun e=>by have:=HN.o.1;have e:W.heap.size=m.heap.size:=e;omega);have b5:v4.ownBlock≠some m.heap.size:=fun e=>by
  rcases A.sub _ e with e | e
  ·exact a7 e
  ·have:=HN.o.2;omega
 have b6:=(WrTo.ahead H.o.2.2 A).fill a8 a6 b5 (by have:=HN.o.1;omega);have a1:v4.ownBlock≠some W.heap.size:=fun e=>by
  rcases A.sub _ e with e | e
  ·have:=(Q.o.1.own _ e).2.2;omega
  ·have:=HN.o.1;have:=HN.o.2;omega
 have O:=Hd (bB b6 (bB a0 (bB a1 (show W.heap.size≠g by omega))));have a9:=Hd K;clear A b8 a6 a7 J Z a8 b5 b6 a1 K a0 q0 q1;have c0:Blk (w4.setCell ⟨m.heap.size,3,none⟩ (.string t)) m.heap.size (.cells (jad.cells ⟨2,q,⟨#[]⟩,t :: jam 15⟩).toArray 110):=by rw[<-a9.o];exact b9
 have c1:Blk (w4.setCell ⟨m.heap.size,3,none⟩ (.string t)) W.heap.size (.cells jav.cells.toArray 110):=by rw[<-a9.o];exact O.o.2.1
 go_wp2_with (refine jaf 110 (.tmp 5) rfl rfl _ _ rfl (jaq _ _ ⟨2,q,⟨#[]⟩,t :: jam 15⟩ rfl c0) ?_;refine jag (vs:=jad.cells ⟨2,q,⟨#[]⟩,t :: jam 15⟩) rfl rfl rfl rfl c1 rfl Tryz.szNode (jad.one _) ?_;intro W8 c2 b7)
 rw[<-a9.o]at b7;refine bodyPost_ret (jbL rfl rfl (jas W8 _ ⟨2,q,⟨#[]⟩,t :: jam 15⟩ rfl c2)) rfl ?_
 exact⟨rfl,v4,O.o.1.fill b7 O.o.2.2.2 O.o.2.2.1 (bM _)⟩
def bfN(u:vB)(rs:vM)(k:Nat):jad:=⟨3,⟨#[]⟩,u,rs.take k++jam (16 - k)⟩
theorem jwM(u:vB){rs:vM}(h:rs.length=16){k:Nat}(hk:k < 16)(r:vB)(hr:rs[k]?=some r):(bfN u rs k).cells.set (3+k) (.string r)=(bfN u rs (k+1)).cells:=by
 have e:(rs.take k++jam (16 - k)).set k r=rs.take (k+1)++jam (16 - (k+1)):=by
  rw[fD _ _ (by simp[h];omega)]
  have:k - (rs.take k).length=0:=by simp[h];omega
  rw[this,show 16 - k=(16 - (k+1))+1 by omega];unfold jam;rw[fC,dJ,bS,hr];simp
 unfold jad.cells bfN;simp only;rw[show 3+k=k+1+1+1 by omega,dB,dB,dB, <-e,gU]
theorem jt6(u:vB){rs:vM}(h:rs.length=16){k:Nat}(hk:k < 16)(hr:rs[k]?=some ⟨#[]⟩):bfN u rs (k+1)=bfN u rs k:=by
 unfold bfN;rw[bS,hr,show 16 - k=(16 - (k+1))+1 by omega];unfold jam;rw[fC];simp
theorem jwL(u:vB){rs:vM}(h:rs.length=16){k:Nat}(hk:k<=16):(bfN u rs k).refs.length=16:=by
 unfold bfN jam;simp[h];omega
theorem jAC(u:vB)(rs:vM):(bfN u rs 0).cells=jcb 3 ⟨#[]⟩ u ⟨#[]⟩:=rfl
theorem jyS(u:vB){rs:vM}(h:rs.length=16):bfN u rs 16=⟨3,⟨#[]⟩,u,rs⟩:=by
 unfold bfN jam;rw[bQ vO];simp
noncomputable def underK(ks:Nat->PA)(k:Nat):vM:=(List.range k).flatMap fun i=>if (ks i).isNil then []else bigs (textP (ks i))++underP (ks i)
theorem jnO(ks:Nat->PA)(k:Nat):underK ks (k+1)=underK ks k++(if (ks k).isNil then []else bigs (textP (ks k))++underP (ks k)):=by
 unfold underK;rw[fT,fN]
 simp
theorem jqz(ks:Nat->PA)(k:Nat):(underK ks k).length<=sumF (fun i=>cntP (ks i)) k:=jgj _ _ (fun i=>by
 show (if (ks i).isNil=true then ([]:vM)else bigs (textP (ks i))++underP (ks i)).length<=cntP (ks i);cases hn:(ks i).isNil with
 | true=>rw[if_pos rfl];exact cD _
 | false =>
  rw[if_neg ff,bF];have e:=jhH (textP (ks i))
  have:=jey (ks i) hn
  omega) k
noncomputable def refsK(ks:Nat->PA):vM:=(List.range 16).map fun i=>if (ks i).isNil then ⟨#[]⟩else refB (textP (ks i))
theorem jdm(ks:Nat->PA):(refsK ks).length=16:=by unfold refsK;simp
theorem jvn(ks:Nat->PA){k:Nat}(hk:k < 16):(refsK ks)[k]?=some (if (ks k).isNil then ⟨#[]⟩else refB (textP (ks k))):=by
 unfold refsK;rw[bV,dW hk];rfl
def jz5(z g:Nat)(v:vV)(W:vW)(L:Nat)(u:vB)(rs:vM)(Tx:vM)(ks:Nat->PA)(iv:vV)(wr:vW):Prop:=
 ∃ k:Nat,k<=16/\iv=.int .i64 k/\∃ v',WrTo z g v W wr v' (Tx++underK ks k)/\Blk wr L (.cells (bfN u rs k).cells.toArray 110)/\Blk wr W.heap.size (.cells jav.cells.toArray 110)/\v'.ownBlock≠some L/\v'.ownBlock≠some W.heap.size
theorem jwN(w0 W:vW)(u:vB)(ks:Nat->PA)(b:Nat)(vk:Nat->vV)(Dk:Nat->Nat->Prop)(hb:BrRd u ks b vk Dk w0)(hR:∀ i,i < 16->(ks i).isNil=false->jwA (ks i))(g:Nat)(v:vV)(Tx:vM)(hc:jbW w0)(he:ErrT w0)(hE:Ext w0 W)(hW:WrAt w0.heap.size g v Tx W)(hl:Tx.length+(1+sumF (fun i=>cntP (ks i)) 16)<=100000) :
  vQ 237 #[.pointer (some ⟨b,0,none⟩),.pointer (some ⟨g,0,none⟩)] W (FoP w0.heap.size g v W (jad.V ⟨3,⟨#[]⟩,u,refsK ks⟩) (Tx++underK ks 16)):=by
 have q0:=jaa (hb.blk.cellL (i:=0) (v:=.string u) vF) hE;have HB:=Hd hb;have HW:=Hd (bB hW hE);have a9:=Hd (fun(k:Nat) (hk:k < 16) (hn:(ks k).isNil=false) (T:TypeId) (x:vV) (hx:vk k=.iface T x) (w:vW) (v':vV) (e:Ext w0 w) (h:WrAt w0.heap.size g v' (Tx++underK ks k) w)=>hR k hk hn w0 w T x (Dk k) g v' (Tx++underK ks k) hc he (hx ▸ hb.kid k hk) e h (by
  have h1:=jqz ks k;have h2:=jeu (fun i=>cntP (ks i)) (k+1) (15 - k);rw[show k+1+(15 - k)=16 by omega]at h2;have h3:sumF (fun i=>cntP (ks i)) k+cntP (ks k)<=sumF (fun i=>cntP (ks i)) 16:=h2;rw[bF];omega))
 have d2:=jkB;clear hR hc he hl;have d3:∀ w,(Instr.build 110 #[(0,.int .i64 3),(2,.string u)]).run Tryz.prog w=.ok (.agg (jcb 3 ⟨#[]⟩ u ⟨#[]⟩).toArray) w:=fun w=>by kernel_rfl
 clear hb hW hE;go_enter Tryz.func237,Tryz.ntmps237;go_wp2_with (first |(refine jaj (w:=W) Tryz.allocNode rfl rfl ?_;intro W1 b0 a1;have a2:=Hd b0;have a3:=Hd a1;have q1:=jaa q0 a1;clear b0 a1) |(refine jaj (w:=W1) Tryz.allocNode rfl rfl ?_;intro W2 b1 b3) |(refine jag (vs:=jcb 3 ⟨#[]⟩ u ⟨#[]⟩) rfl rfl rfl rfl b1 rfl Tryz.szNode (jcc _ _ _ _) ?_;intro W3 a4 b4;have J:Ext W1 W3:=b3.trans' b4 (fun x hx e=>by have e:x=W1.heap.size:=e;omega);have b5:=jbh (HB.o.blk.keeps ((HW.o.2.trans a3.o).trans J) (fun e=>e))) |(refine jaf 202 (.tmp 15) rfl rfl _ _ rfl b5 ?_))
 have Q:=Hd (bB a4 (bB (a2.o.keeps J (fun e=>e)) (a3.o.trans J)));have m:=a2.o.lt;have HN:=Hd (show W.heap.size < W1.heap.size/\W1.heap.size < W3.heap.size from⟨m,a4.lt⟩);clear b1 b3 a4 b4 J m b5 q0 q1
 obtain⟨L,hL⟩:=vE W1.heap.size
 rw[<-hL]at Q HN ⊢;clear hL a2 a3;have HG:=Hd HW.o.1.var.lt;go_loopw [17] (fun iv wr=>jz5 w0.heap.size g v W L u (refsK ks) Tx ks iv wr) (fun iv _=>16 - (intOf iv).toNat)
 case atStart =>
  have:=HN.o
  have hg:=HG.o
  exact⟨0,by omega,rfl,v,by rw[show underK ks 0=[]from rfl,cC];exact WrTo.refl HW.o.1 Q.o.2.2,by rw[jAC];exact Q.o.1,Q.o.2.1,fun e=>by have:=(HW.o.1.own _ e).2.2;omega,fun e=>by have:=(HW.o.1.own _ e).2.2;omega⟩
 case round =>
  obtain⟨k,hk,rfl,v1,hT,b6,b7,b8,b9⟩:=hrel
  have A:=Hd (bB hT (bB b6 (bB b7 (bB b8 b9))));clear hT b6 b7 b8 b9
  by_cases m:k < 16
  ·have c0:=jeO vk m
   have K:=jnO ks k;have E:=jvn ks m;rcases (HB.o.kid k m).at'.kid with⟨hn,hv⟩ |⟨hn,T,x,hv⟩
   ·rw[hn,if_pos rfl,cC]at K
    rw[hn,if_pos rfl]at E;rw[hv]at c0;have c5:=Hd K;have c6:=Hd (jt6 u (jdm ks) m E);clear K hn hv E;go_wp2;go_roundw
    case rel=>exact⟨k+1,by omega,by go_num,v1,by rw[c5.o];exact A.o.1,by rw[c6.o];exact A.o.2.1,A.o.2.2.1,A.o.2.2.2⟩
    case measure=>exact vJ
   ·rw[hn,if_neg ff]at K
    rw[hn,if_neg ff]at E;rw[hv]at c0;have hq:=jdu T x;have H:=Hd (a9.o k m hn T x hv wr v1 (A.o.1.ext0 HW.o.1 HW.o.2 (bM _)) A.o.1.at');rw[cB, <-K]at H
    obtain⟨r,hr⟩:=vE (refB (textP (ks k)))
    rw[<-hr]at E H;have c7:=Hd E;clear K hn hv E hr;have b2:(k:Int) < 16:=vO
    go_wp2_with fail
    refine H.o.mono ?_;rintro e w4 ⟨rfl,v4,O⟩;have a5:L≠g:=by have:=HN.o.1;have:=HG.o;omega
    have c1:W.heap.size≠g:=by have:=HG.o;omega
    have X:=O.blk A.o.2.1 a5 A.o.2.2.2.1;have Z:=O.blk A.o.2.2.1 c1 A.o.2.2.2.2;have a6:∀ y,y < wr.heap.size->v1.ownBlock≠some y->v4.ownBlock≠some y:=fun y hy h1 e=>by
     rcases O.sub y e with e | e
     ·exact h1 e
     ·omega
    have a7:=a6 L A.o.2.1.lt A.o.2.2.2.1;have c2:=a6 W.heap.size A.o.2.2.1.lt A.o.2.2.2.2;have c8:(bfN u (refsK ks) k).cells.length=19:=jad.cells_len _ (jwL u (jdm ks) hk)
    obtain⟨old,qf⟩:∃ v,w4.cell? ⟨L,3+k,none⟩=some v:=⟨_,X.cellL (bA vO)⟩
    have d4:w4.frozen? ⟨L,3+k,none⟩=false:=X.frozen;have a8:=X.set_same (i:=3+k) (.string r);rw[show (bfN u (refsK ks) k).cells.toArray.setIfInBounds (3+k) (.string r)=((bfN u (refsK ks) k).cells.set (3+k) (.string r)).toArray by simp,jwM u (jdm ks) m r c7.o]at a8;have K5:jae (fun z=>z=L) w4 (w4.setCell ⟨L,3+k,none⟩ (.string r)):=jae.oneSet w4 ⟨L,3+k,none⟩ (.string r);have a0:=Z.keeps K5 (fun e=>by have e:W.heap.size=L:=e;have:=HN.o.1;omega);have c3:=(A.o.1.trans O).fill K5 a5 a7 (by have:=HN.o.1;omega);have H5:=Hd (bB c3 (bB a8 (bB a0 (bB a7 c2))));clear O a5 c1 X Z a6 a7 c2 c8 a8 K5 a0 c3;go_wp2_with fail
    go_roundw
    case rel=>exact⟨k+1,by omega,by go_num,v4,H5.o⟩
    case measure=>exact vJ
  ·obtain rfl:k=16:=vO
   have c4:=A.o.2.1;rw[jyS u (jdm ks)]at c4;have c9:=A.o.2.2.1;go_wp2_with (refine jaf 110 (.tmp 5) rfl rfl _ _ rfl (jaq _ _ ⟨3,⟨#[]⟩,u,refsK ks⟩ (jdm ks) c4) ?_;refine jag (vs:=jad.cells ⟨3,⟨#[]⟩,u,refsK ks⟩) rfl rfl rfl rfl c9 (by rw[jad.cells_len _ (jdm ks)];rfl) (by rw[jad.cells_len _ (jdm ks)];exact Tryz.szNode) (jad.one _) ?_;intro W8 d0 d1)
   refine bodyPost_ret (jbL rfl rfl (jas W8 _ ⟨3,⟨#[]⟩,u,refsK ks⟩ (jdm ks) d0)) rfl ?_
   exact⟨rfl,v1,A.o.1.fill d1 (by have:=HG.o;omega) A.o.2.2.2.2 (bM _)⟩
end
section
open Go Go.RowKit
theorem jkJ:∀ (P:PA),PutP P->jyl P
 | .nil=>fun _ w0 W T x D g v o J K h E A H=>by cases h.at'
 | .no=>fun _ w0 W T x D g v o J K h E A H=>by
  have e:Value.iface T x=noV:=h.at';unfold noV at e;injection e with e1 e2;subst e1 e2;show Calls _ _ _ W (FoP w0.heap.size g v W jav.V (o++[]));rw[cC];exact ju2 _ g v o W A
 | .leaf q u=>fun _ w0 W T x D g v o J K h E A H=>by
  obtain⟨b,e,h1,O⟩:=h.at'
  unfold jjj at e;injection e with e1 e2;subst e1 e2;show Calls _ _ _ W (FoP w0.heap.size g v W (jad.V ⟨1,q,u,jam 16⟩) (o++[]));rw[cC];exact jxj w0 _ g v o W E q u b O A
 | .ext q m=>fun Q w0 W T x D g v o J K h E A H=>by
  obtain⟨b,T',x',Dn,e,h1,O,X,h4,h5⟩:=h.at'
  unfold extV at e;injection e with e1 e2;subst e1 e2;have H:o.length+(1+cntP m)<=100000:=H;have Z:m.isNil=false:=by
   cases m with
   | nil=>cases X
   | _=>rfl
  exact jwZ w0 W q m T' x' Dn b O ⟨X,fun z hz=>h.lt z (h5 z hz)⟩ (jwk m (jtG m Z Q.2 (jkJ m Q.2))) g v o J K E A vO
 | .br u ks=>fun Q w0 W T x D g v o J K h E A H=>by
  obtain⟨b,vk,Dk,e,h1,O,X,h4⟩:=h.at'
  unfold brV at e;injection e with e1 e2;subst e1 e2;have hb:BrRd u ks b vk Dk w0:=⟨O,fun i hi=>⟨(X i hi).1,fun z hz=>h.lt z ((X i hi).2.2 z hz)⟩⟩;exact jwN w0 W u ks b vk Dk hb (fun i _ Z=>jwk (ks i) (jtG (ks i) Z (Q.2 i) (jkJ (ks i) (Q.2 i)))) g v o J K E A H
theorem jma:∀ (f:Nat) (l:vL),jax f l->PutP (ja4 (f+1) l):=by
 intro f;induction f with
 | zero =>
  intro l h;have H:=jbM h;have m:=(good 0 l h).1;have o:=(jfC 0 l h).1;rw[<-o]at m;have e:=jmi m
  by_cases h0:l.length=0
  ·rw[jbU _ h0]at e ⊢;exact e
  ·rw[jbY _ vO]at e ⊢;exact e
 | succ f ih =>
  intro l h;have m:=(good (f+1) l h).1;have o:=(jfC (f+1) l h).1;rw[<-o]at m;have e:=jmi m
  by_cases h0:l.length=0
  ·rw[jbU _ h0]at e ⊢;exact e
  by_cases h1:l.length=1
  ·rw[jbY _ h1]at e ⊢;exact e
  have A:2<=l.length:=vO
  by_cases hk:0 < comK l
  ·obtain⟨E,J,_,_⟩:=jfZ h A hk
   rw[jdv _ A hk]at e ⊢
   exact⟨e,ih _ E⟩
  ·rw[jeL _ A hk]at e ⊢
   refine⟨e,fun i=>?_⟩
   show PutP (if (cutL i l).length=0 then PA.nil else ja4 (f+1) (jak 1 (cutL i l)))
   by_cases hc:(cutL i l).length=0
   ·rw[if_pos hc];exact trivial
   ·rw[if_neg hc];exact ih _ (jgo h hc).1
theorem jsR(f:Nat)(l:vL)(h:jax f l):TopC (ja4 (f+1) l):=jtG _ jdC (jma f l h) (jkJ _ (jma f l h))
end
end Go.Proofs.YtegloohdmjadoaaGreatDoor
