/- Lemmas; each is under no condition but those that it states. -/
import Derived.Test.YtepbencaoiompaaGreatDoorPa26
namespace Go.Proofs.YtepbencaoiompaaGreatDoor
set_option linter.unusedSimpArgs false
set_option linter.unusedVariables false
set_option maxRecDepth 100000
set_option maxHeartbeats 16000000
section
open Go Go.RowKit
attribute [local go_sem] Oper.semAt_some
theorem jyr(W:vW)(x:vB):vQ 81 #[.string x] W fun e w'=>e=.returned (.tuple #[])/\w'=W:=by
 go_enter Tryz.func81,Tryz.ntmps81;go_wp2_with fail
 refine bodyPost_end (results_none rfl _ _ _) rfl ?_
 exact⟨rfl,rfl⟩
theorem jBB(W:vW)(s bm:Nat)(room:Int)(S:vT)(hs:jax W s bm room S)(k:vB)(y:Nd5)(hy:atL S k.data.toList=some y)(f:Nat)(n:jad)(hg:jbd (InlD f) n)(ht:y.2.2.text=jaR n) :
  vR 49 #[.pointer (some ⟨s,0,none⟩),.string k,.func (.func 81) #[] #[]] W (.tuple #[n.V,.bool true]):=by
 have hn:=(hg.one (inlP f)).refs;have HN:=Hd hn;have HG:=Hd hg;have HL:=Hd (n.cells_len hn);have q:=fun w (h:jax w s bm room S)=>jdF w s bm room S k h;rw[hy]at q;simp only[fZ,optV]at q;have H:=Hd q;have HS:=Hd hs
 obtain⟨t,J⟩:=vE y.2.2.text
 rw[<-J]at H ht;have HT:=Hd ht;clear q hs hg ht hn hy J;go_enter Tryz.func49,Tryz.ntmps49;go_wp2_with (refine jah Tryz.allocNode rfl rfl ?_;intro W1 K A)
 refine vC (H.o W1 (HS.o.ext A)) fun w3 E=>?_;have O:=Hd (K.keeps E (fun h=>h));have Q:=Hd (A.trans E);clear E K A;go_wp2_with fail
 refine (jyr w3 t).mono ?_;rintro e w4 ⟨rfl,rfl⟩;go_wp2_with fail
 rw[HT.o];refine vC (jf3 (inlP f) w4 n HG.o) fun w5 E=>?_;rw[<-HT.o];have z:=O.o.keeps E (fun h=>h);have X:=Hd E;clear E O;unfold jad.V;go_wp2_with (first |(refine jah Tryz.allocNode rfl rfl ?_;intro W5 a2 Z;refine jae (vs:=n.cells) rfl rfl rfl rfl a2 (by rw[HL.o];rfl) (by rw[HL.o];exact Tryz.szNode) n.one ?_;intro W6 a3 a1;have a0:=(z.keeps Z (fun h=>h)).keeps a1 (by have:=z.lt;omega)) |(refine jaf 99 (.tmp 10) rfl rfl _ _ rfl (jas _ _ n HN.o a3) ?_) |(refine jae (vs:=n.cells) rfl rfl rfl rfl a0 (by rw[HL.o];rfl) (by rw[HL.o];exact Tryz.szNode) n.one ?_;intro W8 a4 a5))
 refine bodyPost_ret (jaj rfl rfl rfl (jai W8 _ n HN.o a4)) rfl ?_;have a6:Ext W W6:=(((Q.o.trans X.o).trans Z)).trans' a1 (fun x hx e=>by have e:x=w5.heap.size:=e;have:=X.o.size;have:=Q.o.size;omega)
 exact⟨rfl,a6.trans' a5 (fun x hx e=>by have e:x=W.heap.size:=e;omega)⟩
section
variable (w0:vW) (s bm:Nat) (room:Int) (S:vT) (rb:Nat)
structure RdS0:Prop where
 st:jax w0 s bm room S
 nodes:jdn S
 new:w0.heap.size<=rb
def jrC(f:Nat):Prop:=∀ n d,jbd (InlD d) n->∀ (W:vW) (left:Nat),Ext w0 W->RdAt W rb s left->left<=f->left<=160->vQ 82 #[.pointer (some ⟨rb,0,none⟩),n.V] W (RdO W rb s (jcb (gRef S) f n left))
def RefC(f:Nat):Prop:=∀ r d,MayP (InlD d) r->∀ (W:vW) (left:Nat),Ext w0 W->RdAt W rb s left->left<=f->left<=160->vQ 120 #[.pointer (some ⟨rb,0,none⟩),.string r] W (RdO W rb s ((gRef S r).bind fun m=>jcb (gRef S) f m left))
noncomputable def gHash(h:vB):Option jad:=(atL S h.data.toList).map fun x=>nodeOf x.2.2.text
def jzD(f:Nat):Prop:=∀ h,∀ (W:vW) (left:Nat),Ext w0 W->RdAt W rb s left->left<=f->left<=160->vQ 53 #[.pointer (some ⟨rb,0,none⟩),.string h] W (RdO W rb s ((gHash S h).bind fun m=>jcb (gRef S) f m left))
end
theorem RdAt.ext{W W':vW}{rb s left:Nat}(h:RdAt W rb s left)(e:Ext W W'):RdAt W' rb s left:=h.keeps e (fun e=>e)
theorem jsR(w0:vW)(s bm:Nat)(room:Int)(S:vT)(rb:Nat)(hR:RdS0 w0 s bm room S rb)(h:vB)(W:vW)(left:Nat)(q:Ext w0 W)(hr:RdAt W rb s left)(ha:atL S h.data.toList=none) :
  vQ 53 #[.pointer (some ⟨rb,0,none⟩),.string h] W (RdO W rb s none):=by
 have z:=joN W s bm room S (hR.st.ext q) (.func (.func 81) #[] #[]) h ha;have E:=Hd z;have Q:=Hd hr;unfold RdAt at hr;have q0:=hr.cell (i:=0) (v:=.pointer (some ⟨s,0,none⟩)) vF;clear z hr hR q ha;go_enter Tryz.func53,Tryz.ntmps53;go_wp2_with fail
 refine E.o.mono ?_;rintro e w1 ⟨rfl,q⟩;have O:=Hd q;clear q;unfold jad.V;go_wp2_with (first |(refine jah Tryz.allocNode rfl rfl ?_;intro W5 H J;refine jae (vs:=jak.cells) rfl rfl rfl rfl H rfl Tryz.szNode jak.one ?_;intro X Z K))
 go_ret2;have A:Ext W X:=(O.o.trans J).trans' K (fun x hx e=>by have e:x=w1.heap.size:=e;have:=O.o.size;omega)
 exact⟨A.mono (fun _ _ e=>e.elim),_,left,rfl,.inl rfl,Q.o.ext A⟩
theorem jsQ(w0:vW)(s bm:Nat)(room:Int)(S:vT)(rb:Nat)(hR:RdS0 w0 s bm room S rb)(f:Nat)(hN:jrC w0 s S rb f)(h:vB)(W:vW)(left:Nat)(H:Ext w0 W)(hr:RdAt W rb s left)(hf:left<=f)(h160:left<=160)(y:Nd5)(ha:atL S h.data.toList=some y) :
  vQ 53 #[.pointer (some ⟨rb,0,none⟩),.string h] W (RdO W rb s (jcb (gRef S) f (nodeOf y.2.2.text) left)):=by
 obtain⟨n0,J⟩:=hR.nodes y (jaU ha).1
 have hn:=jb3 J
 obtain⟨n,K⟩:=vE (nodeOf y.2.2.text)
 rw[<-K]at hn ⊢
 obtain⟨ht,d,hg⟩:=hn
 have E:=(hg.one (inlP d)).refs;have a4:=Hd E;have HL:=Hd (n.cells_len E);have O:=jBB W s bm room S (hR.st.ext H) h y ha d n hg ht;have a5:=Hd O;have HR:=Hd hr;have Q:=Hd (show ∀ w,Ext W w->vQ 82 #[.pointer (some ⟨rb,0,none⟩),n.V] w (RdO w rb s (jcb (gRef S) f n left))from fun w e=>hN n d hg w left (H.trans e) (hr.ext e) hf h160);unfold RdAt at hr;have q0:=hr.cell (i:=0) (v:=.pointer (some ⟨s,0,none⟩)) vF
 obtain⟨o,ho⟩:=vE (jcb (gRef S) f n left)
 rw[<-ho]at Q ⊢;clear O hr hR H ha J K ht hg E hN ho;go_enter Tryz.func53,Tryz.ntmps53;go_wp2_with fail
 refine a5.o.mono ?_;rintro e w1 ⟨rfl,H⟩;have HE:=Hd H;clear H;unfold jad.V;go_wp2_with (first |(refine jah Tryz.allocNode rfl rfl ?_;intro W5 X Z;refine jae (vs:=n.cells) rfl rfl rfl rfl X (by rw[HL.o];rfl) (by rw[HL.o];exact Tryz.szNode) n.one ?_;intro W6 a0 a1) |(refine jaf 99 (.tmp 6) rfl rfl _ _ rfl (jas _ _ n a4.o a0) ?_))
 have a2:Ext W W6:=(HE.o.trans Z).trans' a1 (fun x hx e=>by have e:x=w1.heap.size:=e;have:=HE.o.size;omega);have HX:=Hd a2;clear a2 X Z a0 a1;refine (Q.o W6 HX.o).mono ?_;intro e w7 hO
 obtain⟨hk,a3⟩:=hO
 cases o with
 | none =>
  obtain⟨v,l,rfl,hv,q⟩:=a3
  have A:=Hd (bB hk (bB hv q));clear hk q;rcases hv with rfl |⟨T,x,rfl⟩
  ·go_wp2_with fail
   go_ret2
   exact⟨(HX.o.mono (fun _ _ e=>e.elim)).trans A.o.1,_,l,rfl,.inl rfl,A.o.2.2⟩
  ·go_wp2_with fail
   go_ret2
   exact⟨(HX.o.mono (fun _ _ e=>e.elim)).trans A.o.1,_,l,rfl,.inr ⟨T,x,rfl⟩,A.o.2.2⟩
 | some Pl =>
  obtain⟨P,l⟩:=Pl
  obtain⟨T,x,rfl,hP,q⟩:=a3
  have A:=Hd (bB hk (bB hP q));clear hk hP q;go_wp2_with fail
  go_ret2
  exact⟨(HX.o.mono (fun _ _ e=>e.elim)).trans A.o.1,T,x,rfl,A.o.2.1.mono (fun z hz=>⟨bH HX.o.size hz.1,hz.2⟩),A.o.2.2⟩
theorem jt3(w0:vW)(s bm:Nat)(room:Int)(S:vT)(rb:Nat)(hR:RdS0 w0 s bm room S rb)(f:Nat)(hN:jrC w0 s S rb f):jzD w0 s S rb f:=by
 intro h W left o q z e;unfold gHash;cases ha:atL S h.data.toList with
 | none=>exact jsR w0 s bm room S rb hR h W left o q ha
 | some y=>exact jsQ w0 s bm room S rb hR f hN h W left o q z e y ha
end
section
open Go Go.RowKit
attribute [local go_sem] Oper.semAt_some
theorem jgj(r:vB):jgG r=jcH r:=by
 unfold jgG jcH;cases cutN r <;> rfl
theorem jwy(w0:vW)(s:Nat)(S:vT)(rb:Nat)(f:Nat)(hH:jzD w0 s S rb f)(r h:vB)(hrh:jcH r=some h)(hs:r.size<=1000)(W:vW)(left:Nat)(H:Ext w0 W)(hr:RdAt W rb s left)(hf:left<=f)(h160:left<=160) :
  vQ 120 #[.pointer (some ⟨rb,0,none⟩),.string r] W (RdO W rb s ((gHash S h).bind fun m=>jcb (gRef S) f m left)):=by
 have q:=jdK W r vO;rw[jgj,hrh]at q;unfold optV at q;have HA:=Hd q;have Q:=Hd (show ∀ w,Ext W w->vQ 53 #[.pointer (some ⟨rb,0,none⟩),.string h] w (RdO w rb s ((gHash S h).bind fun m=>jcb (gRef S) f m left))from fun w e=>hH h w left (H.trans e) (hr.ext e) hf h160)
 obtain⟨o,X⟩:=vE ((gHash S h).bind fun m=>jcb (gRef S) f m left)
 rw[<-X]at Q ⊢;clear hH hrh hs H hr hf h160 q X;go_enter Tryz.func120,Tryz.ntmps120;go_wp2_with fail
 refine HA.o.mono ?_;rintro e w1 ⟨rfl,H⟩;have J:=Hd H;clear H;go_wp2_with fail
 refine (Q.o w1 J.o).mono ?_;intro e w7 hO
 obtain⟨O,K⟩:=hO
 cases o with
 | none =>
  obtain⟨v,l,rfl,Z,A⟩:=K
  have E:=Hd (bB O (bB Z A));clear O A;rcases Z with rfl |⟨T,x,rfl⟩
  ·go_wp2_with fail
   go_ret2
   exact⟨(J.o.mono (fun _ _ e=>e.elim)).trans E.o.1,_,l,rfl,.inl rfl,E.o.2.2⟩
  ·go_wp2_with fail
   go_ret2
   exact⟨(J.o.mono (fun _ _ e=>e.elim)).trans E.o.1,_,l,rfl,.inr ⟨T,x,rfl⟩,E.o.2.2⟩
 | some Pl =>
  obtain⟨P,l⟩:=Pl
  obtain⟨T,x,rfl,hP,A⟩:=K
  have E:=Hd (bB O (bB hP A));clear O hP A;go_wp2_with fail
  go_ret2
  exact⟨(J.o.mono (fun _ _ e=>e.elim)).trans E.o.1,T,x,rfl,E.o.2.1.mono (fun z hz=>⟨bH J.o.size hz.1,hz.2⟩),E.o.2.2⟩
theorem jyY(w0:vW)(s:Nat)(S:vT)(rb:Nat)(f:Nat)(hN:jrC w0 s S rb f)(r:vB)(d:Nat)(n:jad)(hi:InlD (d+1) r n)(hs:r.size<=1000)(W:vW)(left:Nat)(hE:Ext w0 W)(hr:RdAt W rb s left)(hf:left<=f)(h160:left<=160) :
  vQ 120 #[.pointer (some ⟨rb,0,none⟩),.string r] W (RdO W rb s (jcb (gRef S) f n left)):=by
 have q:=jdK W r vO;rw[jgj,jc4 (inlP (d+1)) hi]at q;unfold optV at q;have HA:=Hd q;have H:=(hi.1.one (inlP d)).refs;have a2:=Hd H;have HL:=Hd (n.cells_len H);have HI:=Hd (fun w=>(inlP (d+1)).inl r n hi w);have J:=Hd (show ∀ w,Ext W w->vQ 82 #[.pointer (some ⟨rb,0,none⟩),n.V] w (RdO w rb s (jcb (gRef S) f n left))from fun w e=>hN n d hi.1 w left (hE.trans e) (hr.ext e) hf h160)
 obtain⟨o,ho⟩:=vE (jcb (gRef S) f n left)
 rw[<-ho]at J ⊢;clear hN hi hs hE hr hf h160 q H ho;go_enter Tryz.func120,Tryz.ntmps120;go_wp2_with fail
 refine HA.o.mono ?_;rintro e a3 ⟨rfl,K⟩;have a4:=Hd K;clear K;go_wp2_with fail
 refine vH (HI.o a3) fun w1 hE=>?_;have HE:=Hd (a4.o.trans hE);unfold jad.V;go_wp2_with (first |(refine jah Tryz.allocNode rfl rfl ?_;intro W5 O Q;refine jae (vs:=n.cells) rfl rfl rfl rfl O (by rw[HL.o];rfl) (by rw[HL.o];exact Tryz.szNode) n.one ?_;intro W6 X Z) |(refine jaf 99 (.tmp 8) rfl rfl _ _ rfl (jas _ _ n a2.o X) ?_))
 have a0:Ext W W6:=(HE.o.trans Q).trans' Z (fun x hx e=>by have e:x=w1.heap.size:=e;have:=HE.o.size;omega);have HX:=Hd a0;clear a0 O Q X Z;refine (J.o W6 HX.o).mono ?_;intro e w7 hO
 obtain⟨hk,a1⟩:=hO
 cases o with
 | none =>
  obtain⟨v,l,rfl,hv,A⟩:=a1
  have E:=Hd (bB hk (bB hv A));clear hk A;rcases hv with rfl |⟨T,x,rfl⟩
  ·go_wp2_with fail
   go_ret2
   exact⟨(HX.o.mono (fun _ _ e=>e.elim)).trans E.o.1,_,l,rfl,.inl rfl,E.o.2.2⟩
  ·go_wp2_with fail
   go_ret2
   exact⟨(HX.o.mono (fun _ _ e=>e.elim)).trans E.o.1,_,l,rfl,.inr ⟨T,x,rfl⟩,E.o.2.2⟩
 | some Pl =>
  obtain⟨P,l⟩:=Pl
  obtain⟨T,x,rfl,hP,A⟩:=a1
  have E:=Hd (bB hk (bB hP A));clear hk hP A;go_wp2_with fail
  go_ret2
  exact⟨(HX.o.mono (fun _ _ e=>e.elim)).trans E.o.1,T,x,rfl,E.o.2.1.mono (fun z hz=>⟨bH HX.o.size hz.1,hz.2⟩),E.o.2.2⟩
theorem jAX(w0:vW)(s bm:Nat)(room:Int)(S:vT)(rb:Nat)(hR:RdS0 w0 s bm room S rb)(f:Nat)(hN:jrC w0 s S rb f):RefC w0 s S rb f:=by
 intro r d q W left z A E e;have H:r.size<=1000:=by have:=q.size (inlP d);omega
 unfold gRef;rcases q with hh |⟨m,hi⟩
 ·obtain⟨h,J,K⟩:=hh
  have o:jcH r=some h:=by rw[K];exact jdc J
  rw[o];exact jwy w0 s S rb f (jt3 w0 s bm room S rb hR f hN) r h o H W left z A E e
 ·cases d with
  | zero=>exact hi.elim
  | succ d =>
   rw[jc4 (inlP (d+1)) hi];show Calls _ _ _ W (RdO W rb s (jcb (gRef S) f (inlOf r) left));rw[jk2 w0 hi];exact jyY w0 s S rb f hN r d m hi H W left z A E e
theorem jmS(W:vW)(rb s:Nat)(n:jad)(hr:RdAt W rb s 0):vQ 82 #[.pointer (some ⟨rb,0,none⟩),n.V] W (RdO W rb s none):=by
 have z:=hr.lt;have q:=hr.ext ((ExtR W).alloc (.cells n.cells.toArray 99));have A:=Hd q;unfold RdAt at q;have E:=q.cell (i:=1) (v:=.int .i64 0) vF;clear q hr;unfold jad.V;go_enter Tryz.func82,Tryz.ntmps82;go_wp2_with fail
 go_ret2
 exact⟨((ExtR W).alloc _).mono (fun _ _ e=>e.elim),_,0,rfl,.inl rfl,A.o⟩
theorem jtB(W:vW)(rb s k:Nat)(hk:k<=160)(q v:vB)(rs:vM)(hr:RdAt W rb s (k+1)):vQ 82 #[.pointer (some ⟨rb,0,none⟩),(jad.mk 1 q v rs).V] W (RdO W rb s (some (.leaf q v,k))):=by
 have a5:=hr.lt;have a6:W.heap.size≠rb:=vO
 obtain⟨Q,A⟩:=vE (W.setCell ⟨rb,1,none⟩ (.int .i64 (k:Int)))
 obtain⟨J,E⟩:=vE (Q.alloc (.cells (jad.cells ⟨1,q,v,rs⟩).toArray 99))
 have Z:RdAt Q rb s k:=by rw[A];exact Blk.set_same (i:=1) hr _
 have a0:Q.heap.size=W.heap.size:=by rw[A];exact gE _ _ _
 have H:Ext Q J:=by rw[E];exact (ExtR Q).alloc _
 have X:Blk J W.heap.size (.cells (jad.cells ⟨1,q,v,rs⟩).toArray 99):=by rw[<-a0,E];exact Blk.new Q _
 have K:RdAt J rb s k:=Z.ext H;have O:jag (fun z=>z=rb) W J:=(show jag (fun z=>z=rb) W Q by rw[A];exact jag.oneSet _ ⟨rb,1,none⟩ _).trans (H.mono (fun _ _ e=>e.elim));have a3:=Hd (bB K (bB O X));have hA:=hr.ext ((ExtR W).alloc (.cells (jad.cells ⟨1,q,v,rs⟩).toArray 99));unfold RdAt at hA;have q1:=hA.cell (i:=1) (v:=.int .i64 ((k:Int)+1)) vF;have f1:(W.alloc (.cells (jad.cells ⟨1,q,v,rs⟩).toArray 99)).frozen? ⟨rb,1,none⟩=false:=hA.frozen;have e0:(jad.cells ⟨1,q,v,rs⟩)[0]?=some (.int .i64 1):=rfl;have e1:(jad.cells ⟨1,q,v,rs⟩)[1]?=some (.string q):=rfl;have e2:(jad.cells ⟨1,q,v,rs⟩)[2]?=some (.string v):=rfl;have HW:=Hd (bB A E);clear hr hA Z H K O X A E;unfold jad.V;go_enter Tryz.func82,Tryz.ntmps82;go_wp2_with fail
 go_ret2
 obtain⟨A,E⟩:=HW.o
 rw[<-A, <-E]
 obtain⟨K,O,X⟩:=a3.o
 have a1:Ext J (J.alloc (.cells #[.string q,.string v] 205)):=(ExtR J).alloc _;have a4:=Blk.new J (.cells #[.string q,.string v] 205);have hz:J.heap.size=W.heap.size+1:=by rw[E,bK,a0]
 have a2:Blk (J.alloc (.cells #[.string q,.string v] 205)) (W.heap.size+1) (.cells #[.string q,.string v] 205):=by rw[<-hz];exact a4
 exact⟨O.trans (a1.mono (fun _ _ e=>e.elim)),_,_,rfl,⟨_,rfl,⟨fW _,a2.lt⟩,a2⟩,K.ext a1⟩
theorem jtD(W:vW)(rb s k:Nat)(hk:k<=160)(q v:vB)(rs:vM)(hr:RdAt W rb s (k+1)):vQ 82 #[.pointer (some ⟨rb,0,none⟩),(jad.mk 0 q v rs).V] W (RdO W rb s (some (.no,k))):=by
 have a2:=hr.lt;have a3:W.heap.size≠rb:=vO
 obtain⟨O,A⟩:=vE (W.setCell ⟨rb,1,none⟩ (.int .i64 (k:Int)))
 obtain⟨Z,E⟩:=vE (O.alloc (.cells (jad.cells ⟨0,q,v,rs⟩).toArray 99))
 have X:RdAt O rb s k:=by rw[A];exact Blk.set_same (i:=1) hr _
 have a0:O.heap.size=W.heap.size:=by rw[A];exact gE _ _ _
 have H:Ext O Z:=by rw[E];exact (ExtR O).alloc _
 have Q:Blk Z W.heap.size (.cells (jad.cells ⟨0,q,v,rs⟩).toArray 99):=by rw[<-a0,E];exact Blk.new O _
 have J:RdAt Z rb s k:=X.ext H;have K:jag (fun z=>z=rb) W Z:=(show jag (fun z=>z=rb) W O by rw[A];exact jag.oneSet _ ⟨rb,1,none⟩ _).trans (H.mono (fun _ _ e=>e.elim));have a1:=Hd (bB J (bB K Q));have hA:=hr.ext ((ExtR W).alloc (.cells (jad.cells ⟨0,q,v,rs⟩).toArray 99));unfold RdAt at hA;have q1:=hA.cell (i:=1) (v:=.int .i64 ((k:Int)+1)) vF;have f1:(W.alloc (.cells (jad.cells ⟨0,q,v,rs⟩).toArray 99)).frozen? ⟨rb,1,none⟩=false:=hA.frozen;have e0:(jad.cells ⟨0,q,v,rs⟩)[0]?=some (.int .i64 0):=rfl;have HW:=Hd (bB A E);clear hr hA X H J K Q A E;unfold jad.V;go_enter Tryz.func82,Tryz.ntmps82;go_wp2_with fail
 go_ret2
 obtain⟨A,E⟩:=HW.o
 rw[<-A, <-E]
 obtain⟨J,K,Q⟩:=a1.o
 exact⟨K,_,_,rfl,rfl,J⟩
theorem jwa(w0:vW)(s:Nat)(S:vT)(rb f:Nat)(hRef:RefC w0 s S rb f)(hnew:w0.heap.size<=rb)(W:vW)(k:Nat)(hE0:Ext w0 W)(hk:k<=f)(h160:k<=159)(q v r:vB)(rs:vM)(d:Nat)(hm:MayP (InlD d) r)(hr:RdAt W rb s (k+1)):vQ 82 #[.pointer (some ⟨rb,0,none⟩),(jad.mk 2 q v (r :: rs)).V] W (RdO W rb s ((gRef S r).bind fun m=>(jcb (gRef S) f m k).map fun x=>(.ext q x.1,x.2))):=by
 have b9:=hr.lt;have b4:W.heap.size≠rb:=vO
 obtain⟨W1,E⟩:=vE (W.setCell ⟨rb,1,none⟩ (.int .i64 (k:Int)))
 obtain⟨J,H⟩:=vE (W1.alloc (.cells (jad.cells ⟨2,q,v,r :: rs⟩).toArray 99))
 have a4:RdAt W1 rb s k:=by rw[E];exact Blk.set_same (i:=1) hr _
 have a5:W1.heap.size=W.heap.size:=by rw[E];exact gE _ _ _
 have K:Ext W1 J:=by rw[H];exact (ExtR W1).alloc _
 have a6:Blk J W.heap.size (.cells (jad.cells ⟨2,q,v,r :: rs⟩).toArray 99):=by rw[<-a5,H];exact Blk.new W1 _
 have X:RdAt J rb s k:=a4.ext K;have a1:jag (fun z=>z=rb) W J:=(show jag (fun z=>z=rb) W W1 by rw[E];exact jag.oneSet _ ⟨rb,1,none⟩ _).trans (K.mono (fun _ _ e=>e.elim));have a2:=Hd (bB X (bB a1 a6));have hA:=hr.ext ((ExtR W).alloc (.cells (jad.cells ⟨2,q,v,r :: rs⟩).toArray 99));unfold RdAt at hA;have q1:=hA.cell (i:=1) (v:=.int .i64 ((k:Int)+1)) vF;have f1:(W.alloc (.cells (jad.cells ⟨2,q,v,r :: rs⟩).toArray 99)).frozen? ⟨rb,1,none⟩=false:=hA.frozen;have e0:(jad.cells ⟨2,q,v,r :: rs⟩)[0]?=some (.int .i64 2):=rfl;have e1:(jad.cells ⟨2,q,v,r :: rs⟩)[1]?=some (.string q):=rfl;have e3:(jad.cells ⟨2,q,v,r :: rs⟩)[3]?=some (.string r):=rfl;have a7:Ext w0 J:=hE0.trans' a1 (fun x hx e=>by have e:x=rb:=e;omega);have HC:=Hd (hRef r d hm J k a7 X hk vO);have b5:(jad.cells ⟨2,q,v,r :: rs⟩).toArray.size=(jad.cells ⟨2,q,v,r :: rs⟩).length:=by simp
 have a0:rb < J.heap.size:=X.lt;have c0:=Hd a0
 obtain⟨o,ho⟩:=vE ((gRef S r).bind fun m=>jcb (gRef S) f m k)
 have a8:((gRef S r).bind fun m=>(jcb (gRef S) f m k).map fun x=>(PA.ext q x.1,x.2))=o.map fun x=>(PA.ext q x.1,x.2):=by
  rw[ho];cases gRef S r with
  | none=>rfl
  | some m=>rfl
 rw[<-ho]at HC;rw[a8];have HW:=Hd (bB E H);have a9:J.heap.size=W.heap.size+1:=by rw[H,bK,a5]
 have b6:=Hd a9;have b7:=hr;clear hRef hnew hE0 hm hr hA a4 K X a1 a6 a7 ho a8 a9 b5 a0 b7;unfold jad.V;go_enter Tryz.func82,Tryz.ntmps82;go_wp2_with fail
 rw[<-E, <-H];clear E H q1 f1;refine HC.o.mono ?_;intro e O hO
 obtain⟨Q,b0⟩:=hO
 have b1:=a2.o.2.2.keeps Q (fun e=>b4 (by exact e));have q7:=b1.cellL (i:=1) e1;have a3:=Hd (a2.o.2.1.trans Q);have b2:=a2.o.2.2.lt;have b8:=Hd (show W.heap.size<=O.heap.size/\W.heap.size+1=J.heap.size/\J.heap.size<=O.heap.size from⟨bH (Nat.le_of_lt b2) Q.size,b6.o.symm,Q.size⟩);clear Q b1 b2;cases o with
 | none =>
  obtain⟨v7,l,rfl,hv,A⟩:=b0
  have HZ:=Hd A;clear A;rcases hv with rfl |⟨T,x,rfl⟩
  ·go_wp2_with fail
   go_ret2
   exact⟨a3.o.trans (((ExtR O).alloc _).mono (fun _ _ e=>e.elim)),_,l,rfl,.inr ⟨_,_,rfl⟩,HZ.o.ext ((ExtR O).alloc _)⟩
  ·go_wp2_with fail
   go_ret2
   exact⟨a3.o.trans (((ExtR O).alloc _).mono (fun _ _ e=>e.elim)),_,l,rfl,.inr ⟨_,_,rfl⟩,HZ.o.ext ((ExtR O).alloc _)⟩
 | some Pl =>
  obtain⟨P,l⟩:=Pl
  obtain⟨T,x,rfl,hP,A⟩:=b0
  have HZ:=Hd (bB hP A);clear hP A;go_wp2_with fail
  go_ret2
  obtain⟨hP,A⟩:=HZ.o
  have Z:Ext O (O.alloc (.cells #[.string q,.iface T x] 208)):=(ExtR O).alloc _;have b3:=Blk.new O (.cells #[.string q,.iface T x] 208)
  obtain⟨z1,z2,z3⟩:=b8.o
  refine⟨a3.o.trans (Z.mono (fun _ _ e=>e.elim)),_,_,rfl,⟨_,T,x,jha J O,rfl,⟨by omega,b3.lt⟩,b3,hP.keeps Z _ _ _ (fun _ _ e=>e),fun e=>by have:=e.2;omega,fun z hz=>⟨by have:=hz.1;omega,bR hz.2 Z.size⟩⟩,A.ext Z⟩
theorem jki{R:jad->Nat->Option (PA × Nat)}{G:vB->Option jad}{rs:vM}{k left:Nat}(h:je4 R G rs k left=none):∀ d,je4 R G rs (k+d) left=none
 | 0=>h
 | d+1=>by
  show je4 R G rs (k+d+1) left=none;rw[jdU,jki h d];rfl
structure jzO(W:World)(rb s bb:Nat)(G:vB->Option jad)(R:jad->Nat->Option (PA × Nat))(v:vB)(rs:vM)(left:Nat)(iv:Value)(wr:World)(k:Nat)(ks:Nat->PA)(l:Nat)(vk:Nat->Value)(Dk:Nat->Nat->Prop)(D:Nat->Prop):Prop where
 le:k<=16
 iv:iv=.int .i64 (k:Int)
 rd:je4 R G rs k left=some (ks,l)
 br:BrAt v ks bb vk Dk D wr
 since:∀ z,D z->W.heap.size<=z
 rdr:RdAt wr rb s l
 kp:jag (fun z=>z=rb) W wr
theorem jly{W:vW}{b:Nat}{n:jad}(hr:n.refs.length=16)(hB:Blk W b (.cells n.cells.toArray 99)):(Instr.loadAt 97 (.pointer (some ⟨b,3,none⟩))).run Tryz.prog W=.ok (.agg (n.refs.map Value.string).toArray) W:=by
 have e:W.rangeAt b 3 (n.refs.map Value.string):=fun j v q=>hB.cellL (by
  unfold jad.cells;rw[show 3+j=j+3 by omega];simpa using q)
 have o:=run_loadVar_mid (P:=Tryz.prog) W b 3 97 _ _ e Tryz.uRefs rfl (by simp only[cB,hr];exact Tryz.iRefs);simp[Instr.loadAt,Instr.sureAddr,bS,Result.andThen,o]
theorem jyK(w0:vW)(s:Nat)(S:vT)(rb f:Nat)(hRef:RefC w0 s S rb f)(hnew:w0.heap.size<=rb)(W:vW)(k0:Nat)(hE0:Ext w0 W)(hk:k0<=f)(h160:k0<=159)(q v:vB)(rs:vM)(d:Nat)(hrl:rs.length=16)(hm:∀ r∈rs,r.size≠0->MayP (InlD d) r)(hr:RdAt W rb s (k0+1)):vQ 82 #[.pointer (some ⟨rb,0,none⟩),(jad.mk 3 q v rs).V] W (RdO W rb s ((je4 (jcb (gRef S) f) (gRef S) rs 16 k0).map fun x=>(.br v x.1,x.2))):=by
 have d7:=hr.lt;have e9:W.heap.size≠rb:=vO
 obtain⟨W1,A⟩:=vE (W.setCell ⟨rb,1,none⟩ (.int .i64 (k0:Int)))
 obtain⟨W2,E⟩:=vE (W1.alloc (.cells (jad.cells ⟨3,q,v,rs⟩).toArray 99))
 have c2:RdAt W1 rb s k0:=by rw[A];exact Blk.set_same (i:=1) hr _
 have b0:W1.heap.size=W.heap.size:=by rw[A];exact gE _ _ _
 have Z:Ext W1 W2:=by rw[E];exact (ExtR W1).alloc _
 have b1:Blk W2 W.heap.size (.cells (jad.cells ⟨3,q,v,rs⟩).toArray 99):=by rw[<-b0,E];exact Blk.new W1 _
 have b2:RdAt W2 rb s k0:=c2.ext Z;have b3:jag (fun z=>z=rb) W W2:=(show jag (fun z=>z=rb) W W1 by rw[A];exact jag.oneSet _ ⟨rb,1,none⟩ _).trans (Z.mono (fun _ _ e=>e.elim));have d8:=Hd (bB b2 (bB b3 b1));have hA:=hr.ext ((ExtR W).alloc (.cells (jad.cells ⟨3,q,v,rs⟩).toArray 99));unfold RdAt at hA;have q1:=hA.cell (i:=1) (v:=.int .i64 ((k0:Int)+1)) vF;have f1:(W.alloc (.cells (jad.cells ⟨3,q,v,rs⟩).toArray 99)).frozen? ⟨rb,1,none⟩=false:=hA.frozen;have e0:(jad.cells ⟨3,q,v,rs⟩)[0]?=some (.int .i64 3):=rfl;have e2:(jad.cells ⟨3,q,v,rs⟩)[2]?=some (.string v):=rfl
 obtain⟨W3,J⟩:=vE (W2.alloc (.cells #[.string v,.nilIface,.nilIface,.nilIface,.nilIface,.nilIface,.nilIface,.nilIface,.nilIface,.nilIface,.nilIface,.nilIface,.nilIface,.nilIface,.nilIface,.nilIface,.nilIface] 212))
 have Q:Ext W2 W3:=by rw[J];exact (ExtR W2).alloc _
 have c3:W2.heap.size=W.heap.size+1:=by rw[E,bK,b0]
 have b4:Blk W3 (W.heap.size+1) (.cells (brC v (fun _=>.nilIface)).toArray 212):=by rw[<-c3,J];exact Blk.new W2 _
 have a0:BrAt v (fun _=>.nil) (W.heap.size+1) (fun _=>.nilIface) (fun _ _=>False) (fun x=>x=W.heap.size+1) W3:=
  ⟨rfl,b4,fun i _=>⟨rfl,fun e=>e,fun _ e=>e.elim⟩,fun _ _ _ _ _ _ e=>e.elim,fun x e=>by rw[e];exact b4.lt⟩
 have b5:=jly (n:=⟨3,q,v,rs⟩) hrl (b1.keeps Q (fun e=>e));have c4:=Hd (show jzO W rb s (W.heap.size+1) (gRef S) (jcb (gRef S) f) v rs k0 (.int .i64 0) W3 0 (fun _=>.nil) k0 (fun _=>.nilIface) (fun _ _=>False) (fun x=>x=W.heap.size+1)from⟨by omega,rfl,rfl,a0,fun z e=>by rw[e];omega,b2.ext Q,b3.trans (Q.mono (fun _ _ e=>e.elim))⟩);have c1:=Hd hRef;have HM:=Hd hm;have d9:=Hd hrl;have e1:=Hd hE0;have e3:=Hd hnew;have e4:=Hd d7;have HF:=Hd hk
 obtain⟨o,ho⟩:=vE ((je4 (jcb (gRef S) f) (gRef S) rs 16 k0).map fun x=>(PA.br v x.1,x.2))
 have HO:=Hd ho;rw[<-ho];have HW:=Hd (bB A (bB E J));have c5:=Hd (show W.heap.size+1≠rb by omega);rw[J,E,A]at b5;clear hRef hnew hE0 hm hr hA c2 Z b2 b3 b1 A E J Q b4 a0 hrl ho c3 hk;unfold jad.V;go_enter Tryz.func82,Tryz.ntmps82;go_wp2_with (refine jaf 97 (.tmp 59) rfl rfl _ _ rfl b5 ?_)
 obtain⟨A,E,J⟩:=HW.o
 rw[<-A, <-E, <-J]
 obtain⟨bb,c6⟩:=vE (W.heap.size+1)
 rw[<-c6]at c4 c5 ⊢;clear A E J HW b5 q1 f1 b0 c6 d8;go_loopw [61] (fun iv wr=>∃ k ks l vk Dk D,jzO W rb s bb (gRef S) (jcb (gRef S) f) v rs k0 iv wr k ks l vk Dk D) (fun iv _=>16 - (intOf iv).toNat)
 case atStart=>exact⟨0,_,_,_,_,_,c4.o⟩
 case round =>
  obtain⟨k,ks,l,vk,Dk,D,h⟩:=hrel
  obtain⟨f0,rfl,c7,a0,c8,c9,d0⟩:=h
  have b6:=Hd c7;have K:=Hd a0;have a1:=Hd c8;have b7:=Hd c9;have O:=Hd d0;clear c7 a0 c8 c9 d0
  by_cases hlt:k < 16
  ·obtain⟨r,a2⟩:∃ r,rs[k]?=some r:=⟨_,bA (by have:=d9.o;omega)⟩
   have f2:(Instr.index 97 (.agg (rs.map Value.string).toArray) (.int .i64 (k:Int))).run Tryz.prog wr=.ok (.string r) wr:=je5 Tryz.uRefs Tryz.strOne Tryz.strAgg _ k hlt _ (by rw[cA,a2];rfl) wr;have b8:rs.getD k ⟨#[]⟩=r:=by rw[bE,a2];rfl
   have H:=jdU (jcb (gRef S) f) (gRef S) rs k k0;rw[b6.o,b8]at H;have H:je4 (jcb (gRef S) f) (gRef S) rs (k+1) k0=if r.size=0 then some (ks,l)else (gRef S r).bind fun m=>(jcb (gRef S) f m l).map fun y=>(setK ks k y.1,y.2):=H
   by_cases hr0:r.size=0
   ·rw[if_pos hr0]at H
    have e5:=ja1 hr0;subst e5;have f3:(⟨#[]⟩:vB).toList.isEmpty=true:=by rw[bN];rfl
    have a6:=Hd H;clear H a2 hr0 b8;go_wp2;go_roundw
    case rel=>exact⟨k+1,ks,l,vk,Dk,D,by omega,by go_num,a6.o,K.o,a1.o,b7.o,O.o⟩
    case measure=>exact vJ
   ·rw[if_neg hr0]at H
    have e8:=jde hr0;have d1:Ext w0 wr:=e1.o.trans' O.o (fun x hx e=>by have e:x=rb:=e;have:=e3.o;omega);have e6:l<=k0:=jls (fun m l y h=>bH (jlt (gRef S) f m l y h) (Nat.sub_le _ _)) k k0 _ b6.o;have HC:=Hd (c1.o r d (HM.o r (bJ a2) hr0) wr l d1 b7.o (by have:=HF.o;omega) vO)
    obtain⟨o1,b9⟩:=vE ((gRef S r).bind fun m=>jcb (gRef S) f m l)
    rw[<-b9]at HC;have a4:je4 (jcb (gRef S) f) (gRef S) rs (k+1) k0=o1.map fun y=>(setK ks k y.1,y.2):=by
     rw[H,b9];cases gRef S r with
     | none=>rfl
     | some m=>rfl
    have a6:=Hd a4;have f4:=Hd (K.o.lt bb K.o.mem);clear H a4 a2 hr0 b8 d1 e6 b9;go_wp2_with fail
    refine HC.o.mono ?_;intro e w7 hO
    obtain⟨d2,d3⟩:=hO
    have a7:=Hd d2;clear d2;cases o1 with
    | none =>
     obtain⟨v7,l7,rfl,hv,a3⟩:=d3
     have HZ:=Hd a3;clear a3;have d4:=Hd (show o=none by
      rw[HO.o]
      have:=jki (k:=k+1) a6.o (15 - k)
      rw[show k+1+(15 - k)=16 by omega]at this;rw[this];rfl)
     rcases hv with rfl |⟨T,x,rfl⟩
     ·go_wp2_with fail
      go_ret2;rw[d4.o]
      exact⟨O.o.trans a7.o,_,l7,rfl,.inl rfl,HZ.o⟩
     ·go_wp2_with fail
      go_ret2;rw[d4.o]
      exact⟨O.o.trans a7.o,_,l7,rfl,.inl rfl,HZ.o⟩
    | some Pl =>
     obtain⟨P,l7⟩:=Pl
     obtain⟨T,x,rfl,hP,a3⟩:=d3
     have a5:∀ z,D z->¬ z=rb:=fun z X e=>by have:=a1.o z X;have:=e4.o;omega
     have a8:=K.o.keeps a7.o (fun z X=>a5 z X);have hg:=a8.give hlt hP (fun z X=>⟨fun e=>by have:=K.o.lt z e;have:=X.1;omega,X.2⟩)
     obtain⟨W8,a9⟩:=vE (w7.setCell ⟨bb,1+k,none⟩ (.iface T x))
     rw[<-a9]at hg;have c0:jag (fun z=>z=bb) w7 W8:=by rw[a9];exact jag.oneSet w7 ⟨bb,1+k,none⟩ (.iface T x)
     have d5:RdAt W8 rb s l7:=a3.keeps c0 (fun e=>c5.o e.symm);have d6:jag (fun z=>z=rb) W W8:=(O.o.trans a7.o).trans' c0 (fun z X e=>by have e:z=bb:=e;have:=a1.o bb K.o.mem;omega)
     obtain⟨old,q7⟩:∃ v,w7.cell? ⟨bb,1+k,none⟩=some v:=⟨_,a8.blk.cellL (bA (by rw[jhf];omega))⟩
     have f7:w7.frozen? ⟨bb,1+k,none⟩=false:=a8.blk.frozen;have HG:=Hd (bB hg (bB d5 (bB d6 (show ∀ z,(D z\/jha wr w7 z)->W.heap.size<=z from fun z X=>X.elim (a1.o z) (fun e=>bH O.o.size e.1)))));have e7:=Hd a9;clear hP a3 a5 a8 hg c0 d5 d6 a9;go_wp2_with fail
     rw[<-e7.o];clear q7 f7;go_roundw
     case rel=>exact⟨k+1,_,l7,_,_,_,by omega,by go_num,a6.o,HG.o.1,HG.o.2.2.2,HG.o.2.1,HG.o.2.2.1⟩
     case measure=>exact vJ
  ·obtain rfl:k=16:=vO
   go_wp2_with fail
   go_ret2;rw[HO.o,b6.o]
   exact⟨O.o,_,_,rfl,K.o.pa.at'.mono (fun z X=>⟨a1.o z X,K.o.lt z X⟩),b7.o⟩
theorem jt6(w0:vW)(s bm:Nat)(room:Int)(S:vT)(rb:Nat)(hR:RdS0 w0 s bm room S rb):∀ f,jrC w0 s S rb f
 | 0=>fun n d E W left z o H q=>by
  obtain rfl:left=0:=vO
  rw[jkj];exact jmS W rb s n o
 | f+1=>fun n d E W left z o H q=>by
  have e:=jAX w0 s bm room S rb hR f (jt6 w0 s bm room S rb hR f);cases left with
  | zero =>
   rw[jkj];exact jmS W rb s n o
  | succ k =>
   rw[jdV,if_neg (iA k)];cases E with
   | none=>exact jtD W rb s k vO _ _ _ o
   | leaf p v h1 h2 h3=>exact jtB W rb s k vO p v _ o
   | ext p r h1 h2 h3 =>
    have A:MayP (InlD d) r:=h3.imp id (fun ⟨m,A,_⟩=>⟨m,A⟩);exact jwa w0 s S rb f e hR.new W k z vO vO p ⟨#[]⟩ r (jar 15) d A o
   | branch v rs h1 h2 h3 h4=>exact jyK w0 s S rb f e hR.new W k z vO vO ⟨#[]⟩ v rs d h1 h3 o
def jBp(W:vW)(o:Option (PA × Nat))(e:Ending)(w':vW):Prop:=Ext W w'/\match o with
 | some (P,_)=>∃ T x,e=.returned (.tuple #[.iface T x,.bool true])/\PaAt P (.iface T x) (jha W w') w'
 | none=>∃ v,e=.returned (.tuple #[v,.bool false])/\(v=.nilIface\/∃ T x,v=.iface T x)
noncomputable def readR(S:vT)(root:vB):Option (PA × Nat):=(gHash S root).bind fun m=>jcb (gRef S) 160 m 160
theorem joC(W:vW)(s bm:Nat)(room:Int)(S:vT)(hs:jax W s bm room S)(hN:jdn S)(root:vB) :
  vQ 29 #[.pointer (some ⟨s,0,none⟩),.string root] W (jBp W (readR S root)):=by
 obtain⟨H,q⟩:=vE (W.alloc (.cells #[.pointer (some ⟨s,0,none⟩),.int .i64 160] 113))
 have A:Ext W H:=by rw[q];exact (ExtR W).alloc _
 have J:RdAt H W.heap.size s 160:=by rw[q];exact Blk.new W _
 have Q:RdS0 W s bm room S W.heap.size:=⟨hs,hN,bL _⟩;have O:=jt3 W s bm room S W.heap.size Q 160 (jt6 W s bm room S W.heap.size Q 160) root H 160 A J (bL _) (bL _)
 obtain⟨o,X⟩:=vE (readR S root)
 have O:vQ 53 #[.pointer (some ⟨W.heap.size,0,none⟩),.string root] H (RdO H W.heap.size s o):=by rw[X];exact O
 have HC:=Hd O;have HE:=Hd A;have HW:=Hd q;rw[<-X];clear hs hN J Q O X A q;go_enter Tryz.func29,Tryz.ntmps29;go_wp2_with fail
 rw[<-HW.o];refine HC.o.mono ?_;intro e w7 hO
 obtain⟨hk,K⟩:=hO
 have hX:Ext W w7:=HE.o.trans' hk (fun x hx e=>by have e:x=W.heap.size:=e;omega);have Z:=Hd hX;clear hk hX;cases o with
 | none =>
  obtain⟨v,l,rfl,hv,E⟩:=K
  clear E;rcases hv with rfl |⟨T,x,rfl⟩
  ·go_wp2_with fail
   go_ret2
   exact⟨Z.o,_,rfl,.inl rfl⟩
  ·go_wp2_with fail
   go_ret2
   exact⟨Z.o,_,rfl,.inr ⟨T,x,rfl⟩⟩
 | some Pl =>
  obtain⟨P,l⟩:=Pl
  obtain⟨T,x,rfl,hP,E⟩:=K
  have HZ:=Hd hP;clear hP E;go_wp2_with fail
  go_ret2
  exact⟨Z.o,T,x,rfl,HZ.o.mono (fun z hz=>⟨bH HE.o.size hz.1,hz.2⟩)⟩
theorem jkT(w:vW){S:vT}{f:Nat}{m:vL}(h:jav f m)(hn:m≠[])(hS:32<=(jab (f+1) m).text.size->HasS S (jab (f+1) m).text):gRef S (refB (jab (f+1) m).text)=some (jao (jab f) m):=by
 have e:=(good f m h).2.1 hn;unfold gRef
 by_cases hz:(jab (f+1) m).text.size < 32
 ·have q:=e.may.2 hz
  rw[jc4 (inlP (f+1)) q,jk2 w q]
 ·rw[jfT hz,jdc (jbb _)]
  obtain⟨x,o,A⟩:=hS vO
  have o:atL S (shaB (jab (f+1) m).text).data.toList=some x:=o;show (atL S (shaB (jab (f+1) m).text).data.toList).map (fun x=>nodeOf x.2.2.text)=_;rw[o];show some (nodeOf x.2.2.text)=_;have z:jbc (jab (f+1) m).text (jao (jab f) m):=⟨e.text,f,e.good⟩;rw[A,jdR w (jb3 z) z]
theorem jrj(w:vW)(S:vT):∀ (g:Nat) (l:vL),jav g l->(∀ x∈jaH (jat (jab g) l),32<=x.size->HasS S x)->∀ (f left:Nat),cntT g l<=left->left<=f->jcb (gRef S) f (jao (jab g) l) left=some (ja2 (g+1) l,left - cntT g l):=by
 intro g;have q:∀ (g:Nat) (l:vL),l.length<=1->cntT g l=1->∀ (f left:Nat),cntT g l<=left->left<=f->jcb (gRef S) f (jao (jab g) l) left=some (ja2 (g+1) l,left - cntT g l):=by
  intro g l hl hc f left K h2;rw[hc]at K ⊢;cases f with
  | zero=>omega
  | succ f =>
   rw[jdV,if_neg vO]
   by_cases h0:l.length=0
   ·have e:jao (jab g) l=jak:=by unfold jao;rw[if_pos h0]
    rw[e,jcd _ h0];rfl
   ·have a1:l.length=1:=vO
    have e:jao (jab g) l=⟨1,(l.getD 0 pd).1,(l.getD 0 pd).2,jar 16⟩:=by unfold jao;rw[if_neg h0,if_pos a1]
    rw[e,jcj _ a1];rfl
 induction g with
 | zero =>
  intro l h hS f left K h2;exact q 0 l (jbD h) rfl f left K h2
 | succ g ih =>
  intro l h hS f left K h2
  by_cases hl:l.length<=1
  ·exact q (g+1) l hl (by unfold cntT;rw[if_pos hl]) f left K h2
  have O:2<=l.length:=vO
  have A:∀ m,jav g m->m≠[]->(∀ x∈jaH (jbG (jab (g+1) m)),x∈jaH (jat (jab (g+1)) l))->(32<=(jab (g+1) m).text.size->HasS S (jab (g+1) m).text)/\∀ x∈jaH (jat (jab g) m),32<=x.size->HasS S x:=by
   intro m hm a4 E
   refine⟨fun hz=>hS _ (E _ ?_) hz,fun x Q hz=>?_⟩
   ·rw[jgH vO];exact jbE _
   ·by_cases hs:(jab (g+1) m).text.size < 32
    ·have a5:=(good g m hm).2.1 a4
     have e:(jab (g+1) m).kids=[]:=a5.small hs;have e:jat (jab g) m=[]:=e;rw[e]at Q;cases Q
    ·refine hS x (E x ?_) hz
     rw[jgH hs];exact bC _ Q
  cases f with
  | zero =>
   exfalso
   have:1<=cntT (g+1) l:=by unfold cntT;omega
   omega
  | succ f =>
   by_cases hk:0 < comK l
   ·obtain⟨H,X,_,_⟩:=jeo h O hk
    have eB:jat (jab (g+1)) l=jbG (jab (g+1) (jal (comK l) l)):=by unfold jat;rw[if_neg vO,if_pos hk]
    have eN:jao (jab (g+1)) l=⟨2,(l.getD 0 pd).1.extract 0 (comK l),⟨#[]⟩,refB (jab (g+1) (jal (comK l) l)).text :: jar 15⟩:=by unfold jao;rw[if_neg vO,if_neg vO,if_pos hk]
    have eC:cntT (g+1) l=1+cntT g (jal (comK l) l):=by
     show 1+(if l.length<=1 then 0 else if 0 < comK l then cntT g (jal (comK l) l)else _)=_;rw[if_neg vO,if_pos hk]
    obtain⟨s1,s2⟩:=A _ H X (fun x Q=>by rw[eB];exact Q)
    rw[eC]at K ⊢;rw[jdV,if_neg vO,eN,jdM _ O hk];show ((gRef S (refB (jab (g+1) (jal (comK l) l)).text)).bind fun m=>(jcb (gRef S) f m (left - 1)).map fun x=>(PA.ext ((l.getD 0 pd).1.extract 0 (comK l)) x.1,x.2))=_;rw[jkT w H X s1];show (jcb (gRef S) f (jao (jab g) (jal (comK l) l)) (left - 1)).map _=_;rw[ih _ H s2 f (left - 1) vO vO];show some (_,left - 1 - cntT g (jal (comK l) l))=some (_,left - (1+cntT g (jal (comK l) l)))
    congr 2
    omega
   ·have eB:jat (jab (g+1)) l=(List.range 16).flatMap fun i=>if (cutL i l).length=0 then []else jbG (jab (g+1) (jal 1 (cutL i l))):=by unfold jat;rw[if_neg vO,if_neg hk]
    obtain⟨Z,a2⟩:=vE ((List.range 16).map fun i=>if (cutL i l).length=0 then (⟨#[]⟩:vB)else refB (jab (g+1) (jal 1 (cutL i l))).text)
    have eN:jao (jab (g+1)) l=⟨3,⟨#[]⟩,if (l.getD 0 pd).1.size=0 then (l.getD 0 pd).2 else ⟨#[]⟩,Z⟩:=by rw[a2];unfold jao;rw[if_neg vO,if_neg vO,if_neg hk]
    obtain⟨c,hc⟩:∃ c:Nat->Nat,c=fun i=>if (cutL i l).length=0 then 0 else cntT g (jal 1 (cutL i l)):=⟨_,rfl⟩
    have eC:cntT (g+1) l=1+sumF c 16:=by
     rw[hc];show 1+(if l.length<=1 then 0 else if 0 < comK l then _ else _)=_;rw[if_neg vO,if_neg hk]
    obtain⟨o,z⟩:∃ o:Nat->PA,o=fun i=>if (cutL i l).length=0 then PA.nil else ja2 (g+1) (jal 1 (cutL i l)):=⟨_,rfl⟩
    rw[eC]at K ⊢;have a0:∀ k,k<=16->je4 (jcb (gRef S) f) (gRef S) Z k (left - 1)=some (fun i=>if i < k then o i else .nil,left - 1 - sumF c k):=by
     intro k;induction k with
     | zero=>intro _;simp[je4,sumF]
     | succ k ihk =>
      intro a6;rw[jdU,ihk vO];have a3:Z.getD k ⟨#[]⟩=if (cutL k l).length=0 then (⟨#[]⟩:vB)else refB (jab (g+1) (jal 1 (cutL k l))).text:=by rw[a2,jfN _ vO]
      show (if (Z.getD k ⟨#[]⟩).size=0 then some (_,left - 1 - sumF c k)else (gRef S (Z.getD k ⟨#[]⟩)).bind fun m=>(jcb (gRef S) f m (left - 1 - sumF c k)).map fun y=>(setK (fun i=>if i < k then o i else .nil) k y.1,y.2))=_;have J:sumF c (k+1)=sumF c k+c k:=rfl
      by_cases hc0:(cutL k l).length=0
      ·rw[a3,if_pos hc0,if_pos (show (⟨#[]⟩:vB).size=0 from rfl),J]
       have e1:c k=0:=by rw[hc];exact if_pos hc0
       have e2:o k=.nil:=by rw[z];exact if_pos hc0
       rw[e1,gV]
       congr 2
       funext i
       by_cases hi:i < k
       ·rw[if_pos hi,if_pos vO]
       ·rw[if_neg hi]
        by_cases he:i=k
        ·rw[he,if_pos vO,e2]
        ·rw[if_neg vO]
      ·obtain⟨H,X⟩:=jfb h hc0
       obtain⟨s1,s2⟩:=A _ H X (fun x Q=>by
        rw[eB,jho];exact cP.2 ⟨k,dR.2 vO,by rw[if_neg hc0];exact Q⟩)
       have e1:c k=cntT g (jal 1 (cutL k l)):=by rw[hc];exact if_neg hc0
       have e2:o k=ja2 (g+1) (jal 1 (cutL k l)):=by rw[z];exact if_neg hc0
       have a7:sumF c (k+1)<=sumF c 16:=by
        have:=jeK c (k+1) (15 - k)
        rwa [show k+1+(15 - k)=16 by omega]at this
       rw[a3,if_neg hc0,if_neg (jhA H X),jkT w H X s1];show (jcb (gRef S) f (jao (jab g) (jal 1 (cutL k l))) (left - 1 - sumF c k)).map _=_;rw[ih _ H s2 f _ vO vO, <-e1, <-e2,J];show some (setK _ k (o k),_)=some (_,_)
       congr 2
       ·funext i
        unfold setK
        by_cases he:i=k
        ·rw[if_pos he,he,if_pos vO]
        ·rw[if_neg he]
         show (if i < k then o i else PA.nil)=_
         by_cases hi:i < k
         ·rw[if_pos hi,if_pos vO]
         ·rw[if_neg hi,if_neg vO]
       ·omega
    rw[jdV,if_neg vO,eN,je1 _ O hk];show (je4 (jcb (gRef S) f) (gRef S) Z 16 (left - 1)).map (fun x=>(PA.br (if (l.getD 0 pd).1.size=0 then (l.getD 0 pd).2 else ⟨#[]⟩) x.1,x.2))=_;rw[a0 16 (bL _), <-z];show some (PA.br _ (fun i=>if i < 16 then o i else .nil),left - 1 - sumF c 16)=some (PA.br _ o,left - (1+sumF c 16));have e3:(fun i=>if i < 16 then o i else .nil)=o:=by
     funext i
     by_cases hi:i < 16
     ·rw[if_pos hi]
     ·rw[if_neg hi,z]
      show PA.nil=if (cutL i l).length=0 then PA.nil else _
      rw[if_pos (by
       cases hz:(cutL i l).length with
       | zero=>rfl
       | succ n=>exact absurd (jAb h (i:=i) vO) hi)]
    rw[e3]
    congr 2
    omega
theorem jkH:∀ (g:Nat) (l:vL),jav g l->cntP (ja2 (g+1) l)=cntT g l:=by
 intro g;have e:∀ (g:Nat) (l:vL),l.length<=1->cntP (ja2 (g+1) l)=1:=by
  intro g l q
  by_cases h0:l.length=0
  ·rw[jcd _ h0];rfl
  ·rw[jcj _ vO];rfl
 induction g with
 | zero=>intro l h;exact e 0 l (jbD h)
 | succ g ih =>
  intro l h
  by_cases q:l.length<=1
  ·rw[e _ l q]
   show 1=1+(if l.length<=1 then 0 else _);rw[if_pos q]
  have o:2<=l.length:=vO
  show _=1+(if l.length<=1 then 0 else if 0 < comK l then cntT g (jal (comK l) l)else sumF (fun i=>if (cutL i l).length=0 then 0 else cntT g (jal 1 (cutL i l))) 16);rw[if_neg q]
  by_cases hk:0 < comK l
  ·rw[if_pos hk,jdM _ o hk]
   show 1+cntP (ja2 (g+1) (jal (comK l) l))=_;rw[ih _ (jeo h o hk).1]
  ·rw[if_neg hk,je1 _ o hk]
   show 1+sumF (fun i=>cntP (if (cutL i l).length=0 then PA.nil else ja2 (g+1) (jal 1 (cutL i l)))) 16=_
   congr 2
   funext i
   by_cases hc:(cutL i l).length=0
   ·rw[if_pos hc,if_pos hc];rfl
   ·rw[if_neg hc,if_neg hc,ih _ (jfb h hc).1]
theorem jkG{l:vL}(h:juO l):cntT 12 (jaO l)<=118:=by
 have e:=jbt h
 by_cases hn:jaO l=[]
 ·rw[hn];decide
 ·have o:=(jxh 12 _ e hn).all
  have q:=h.len;have z:(jaO l).length=l.length:=by unfold jaO;rw[cB]
  omega
theorem jtX(w:vW){S:vT}{l:vL}(h:HasM S l):∃ k,readR S (shaB (jay l).text)=some (ja2 13 (jaO l),k):=by
 have o:=jbt (jaE h.ok)
 obtain⟨x,e,z⟩:=h.has _ (jbE _)
 have e:atL S (shaB (jay l).text).data.toList=some x:=e;have q:jbc (jay l).text (jao (jab 12) (jaO l)):=⟨rfl,12,(good 12 _ o).1⟩;unfold readR gHash;rw[e];show ∃ k,jcb (gRef S) 160 (nodeOf x.2.2.text) 160=_;rw[z,jdR w (jb3 q) q];have E:=jkG (jaE h.ok)
 exact⟨_,jrj w S 12 _ o (fun y A _=>h.has y (bC _ A)) 160 160 vO (bL _)⟩
theorem Tryz.valueOfP(w:vW)(b:Nat):(callFunc 151 #[.iface 247 (.pointer (some ⟨b,0,none⟩))]).run Tryz.prog w=.ok (.value (.agg #[.pointer (some ⟨3,247,none⟩),.pointer (some ⟨w.heap.size,0,none⟩),.int .u64 150])) (w.alloc (.cells #[.pointer (some ⟨b,0,none⟩)] 247)):=vY
theorem Tryz.valueOfE(w:vW)(b:Nat):(callFunc 151 #[.iface 248 (.pointer (some ⟨b,0,none⟩))]).run Tryz.prog w=.ok (.value (.agg #[.pointer (some ⟨3,248,none⟩),.pointer (some ⟨w.heap.size,0,none⟩),.int .u64 150])) (w.alloc (.cells #[.pointer (some ⟨b,0,none⟩)] 248)):=vY
theorem Tryz.valueOfF(w:vW)(b:Nat):(callFunc 151 #[.iface 242 (.pointer (some ⟨b,0,none⟩))]).run Tryz.prog w=.ok (.value (.agg #[.pointer (some ⟨3,242,none⟩),.pointer (some ⟨w.heap.size,0,none⟩),.int .u64 150])) (w.alloc (.cells #[.pointer (some ⟨b,0,none⟩)] 242)):=vY
theorem Tryz.valueOfN(w:vW)(n:Int):(callFunc 151 #[.iface 28 (.int .i64 n)]).run Tryz.prog w=.ok (.value (.agg #[.pointer (some ⟨3,28,none⟩),.pointer (some ⟨w.heap.size,0,none⟩),.int .u64 130])) (w.alloc (.cells #[.int .i64 n] 28)):=vY
theorem Tryz.typeOfVP(w:vW)(a:Nat):(callFunc 152 #[.agg #[.pointer (some ⟨3,247,none⟩),.pointer (some ⟨a,0,none⟩),.int .u64 150]]).run Tryz.prog w=.ok (.value (.iface 161 (.agg #[.pointer (some ⟨3,247,none⟩)]))) w:=vY
theorem Tryz.typeOfVE(w:vW)(a:Nat):(callFunc 152 #[.agg #[.pointer (some ⟨3,248,none⟩),.pointer (some ⟨a,0,none⟩),.int .u64 150]]).run Tryz.prog w=.ok (.value (.iface 161 (.agg #[.pointer (some ⟨3,248,none⟩)]))) w:=vY
theorem Tryz.elemTP(w:vW):(callFunc 186 #[.agg #[.pointer (some ⟨3,247,none⟩)]]).run Tryz.prog w=.ok (.value (.iface 161 (.agg #[.pointer (some ⟨3,245,none⟩)]))) w:=vY
theorem Tryz.elemTE(w:vW):(callFunc 186 #[.agg #[.pointer (some ⟨3,248,none⟩)]]).run Tryz.prog w=.ok (.value (.iface 161 (.agg #[.pointer (some ⟨3,28,none⟩)]))) w:=vY
theorem Tryz.toAt(w:vW):(callFunc 184 #[.agg #[.pointer (some ⟨3,242,none⟩)],.iface 161 (.agg #[.pointer (some ⟨3,245,none⟩)])]).run Tryz.prog w=.ok (.value (.bool true)) w:=vY
theorem Tryz.toErr(w:vW):(callFunc 184 #[.agg #[.pointer (some ⟨3,242,none⟩)],.iface 161 (.agg #[.pointer (some ⟨3,28,none⟩)])]).run Tryz.prog w=.ok (.value (.bool false)) w:=vY
theorem Tryz.toErr2(w:vW):(callFunc 184 #[.agg #[.pointer (some ⟨3,28,none⟩)],.iface 161 (.agg #[.pointer (some ⟨3,28,none⟩)])]).run Tryz.prog w=.ok (.value (.bool true)) w:=vY
theorem Tryz.typeOfF(v:vV)(w:vW):(callFunc 63 #[.iface 242 v]).run Tryz.prog w=.ok (.value (.iface 161 (.agg #[.pointer (some ⟨3,242,none⟩)]))) w:=vY
theorem Tryz.typeOfN(v:vV)(w:vW):(callFunc 63 #[.iface 28 v]).run Tryz.prog w=.ok (.value (.iface 161 (.agg #[.pointer (some ⟨3,28,none⟩)]))) w:=vY
theorem jbM{P:Program}{t:TypeId}{d:TypeDesc}(h:P.underlying t=some d)(hd:(match d with | .struct _ | .array _ _=>true | _=>false)=false){w:vW}{a:Addr}{v:vV}(hc:w.cell? a=some v):(loadVar t a).run P w=.ok v w:=by
 have:(isAgg t).run P w=.ok false w:=by cases d <;> simp_all [isAgg,run_underlying h]
 simp[loadVar,bS,this,Result.andThen,hc]
theorem jji{P:Program}{z:Sem vV}{f:TypeId->Addr->Nat->Nat->Sem vV}{v x:vV}{t:TypeId}{a:Addr}{fl:Nat}{w:vW}(hp:(Extern.ReflectliteValue.parts v).run P w=.ok (some (t,a,fl)) w)(hf:(f t a fl (fl % 32)).run P w=.ok x w):(Extern.ReflectliteValue.method z f #[v]).run P w=.ok x w:=by
 show Sem.run P (Extern.ReflectliteValue.parts v >>= _) w=_;rw[bS,hp];exact hf
theorem jmB{w:vW}{t:TypeId}{a p:Nat}(hl:(loadVar t ⟨a,0,none⟩).run Tryz.prog w=.ok (.pointer (some ⟨p,0,none⟩)) w)
  (hp:∀ w,(Extern.ReflectliteValue.parts (.agg #[.pointer (some ⟨3,t,none⟩),.pointer (some ⟨a,0,none⟩),.int .u64 150])).run Tryz.prog w=.ok (some (t,⟨a,0,none⟩,150)) w) :
  (callFunc 153 #[.agg #[.pointer (some ⟨3,t,none⟩),.pointer (some ⟨a,0,none⟩),.int .u64 150]]).run Tryz.prog w=.ok (.value (.bool false)) w:=by
 have h:=@run_callFunc_extern Tryz.prog 153 _ (Extern.ReflectliteValue.method (Extern.ReflectliteValue.valueError "reflectlite.Value.IsNil" 0) Extern.ReflectliteValue.isNil) Tryz.func153 vY vY vY vY;rw[h];have e:(Extern.ReflectliteValue.isNil t ⟨a,0,none⟩ 150 (150 % 32)).run Tryz.prog w=.ok (.bool false) w:=by
  simp[Extern.ReflectliteValue.isNil,bS,hl,Result.andThen,cJ]
 rw[jji (hp w) e];rfl
theorem jnt{w:vW}{t e:TypeId}{a p k:Nat}(hl:(loadVar t ⟨a,0,none⟩).run Tryz.prog w=.ok (.pointer (some ⟨p,0,none⟩)) w)
  (hp:∀ w,(Extern.ReflectliteValue.parts (.agg #[.pointer (some ⟨3,t,none⟩),.pointer (some ⟨a,0,none⟩),.int .u64 150])).run Tryz.prog w=.ok (some (t,⟨a,0,none⟩,150)) w)
  (he:∀ w,(Extern.Rtype.elem? t).run Tryz.prog w=.ok (some e) w) (hk:∀ w,(Extern.ReflectliteValue.mk e ⟨p,0,none⟩ Extern.ReflectliteValue.flagAddr).run Tryz.prog w=.ok (.agg #[.pointer (some ⟨3,e,none⟩),.pointer (some ⟨p,0,none⟩),.int .u64 k]) w) :
  (callFunc 158 #[.agg #[.pointer (some ⟨3,t,none⟩),.pointer (some ⟨a,0,none⟩),.int .u64 150]]).run Tryz.prog w=.ok (.value (.agg #[.pointer (some ⟨3,e,none⟩),.pointer (some ⟨p,0,none⟩),.int .u64 k])) w:=by
 have h:=@run_callFunc_extern Tryz.prog 158 _ (Extern.ReflectliteValue.method (Extern.ReflectliteValue.valueError "reflectlite.Value.Elem" 0) Extern.ReflectliteValue.elem) Tryz.func158 vY vY vY vY;rw[h];have o:(Extern.ReflectliteValue.elem t ⟨a,0,none⟩ 150 (150 % 32)).run Tryz.prog w=.ok (.agg #[.pointer (some ⟨3,e,none⟩),.pointer (some ⟨p,0,none⟩),.int .u64 k]) w:=by
  simp[Extern.ReflectliteValue.elem,bS,hl,he,hk,Result.andThen,cJ]
 rw[jji (hp w) o];rfl
theorem Tryz.partsP(a:Nat):∀ w,(Extern.ReflectliteValue.parts (.agg #[.pointer (some ⟨3,247,none⟩),.pointer (some ⟨a,0,none⟩),.int .u64 150])).run Tryz.prog w=.ok (some (247,⟨a,0,none⟩,150)) w:=fun w=>by kernel_rfl
theorem Tryz.partsE(a:Nat):∀ w,(Extern.ReflectliteValue.parts (.agg #[.pointer (some ⟨3,248,none⟩),.pointer (some ⟨a,0,none⟩),.int .u64 150])).run Tryz.prog w=.ok (some (248,⟨a,0,none⟩,150)) w:=fun w=>by kernel_rfl
theorem Tryz.elemP:∀ w,(Extern.Rtype.elem? 247).run Tryz.prog w=.ok (some 245) w:=fun w=>by kernel_rfl
theorem Tryz.elemE:∀ w,(Extern.Rtype.elem? 248).run Tryz.prog w=.ok (some 28) w:=fun w=>by kernel_rfl
theorem Tryz.mkP(p:Nat):∀ w,(Extern.ReflectliteValue.mk 245 ⟨p,0,none⟩ Extern.ReflectliteValue.flagAddr).run Tryz.prog w=.ok (.agg #[.pointer (some ⟨3,245,none⟩),.pointer (some ⟨p,0,none⟩),.int .u64 404]) w:=fun w=>by kernel_rfl
theorem Tryz.mkE(p:Nat):∀ w,(Extern.ReflectliteValue.mk 28 ⟨p,0,none⟩ Extern.ReflectliteValue.flagAddr).run Tryz.prog w=.ok (.agg #[.pointer (some ⟨3,28,none⟩),.pointer (some ⟨p,0,none⟩),.int .u64 386]) w:=fun w=>by kernel_rfl
theorem jhR{P:Program}{w:vW}{t:TypeId}{b:Nat}{v old:vV}(hv:v.oneCell'=true)(hi:(P.info? t).map (·.size)=some 1)(hc:w.cell? ⟨b,0,none⟩=some old)(hf:w.frozen? ⟨b,0,none⟩=false):(storeVar t ⟨b,0,none⟩ v).run P w=.ok () (w.setCell ⟨b,0,none⟩ v):=by
 obtain⟨q,e,o⟩:=cV.1 hi
 have z:(storeCells ⟨b,0,none⟩ [v]).run P w=.ok () (w.setCell ⟨b,0,none⟩ v):=by
  rw[jjc,run_store P w _ v _ hv,hc,hf];rfl
 simp[storeVar,bS,Result.andThen,jmT hv,sizeOf,typeInfo,e,o,z]
theorem Tryz.partsF(a:Nat):∀ w,(Extern.ReflectliteValue.parts (.agg #[.pointer (some ⟨3,242,none⟩),.pointer (some ⟨a,0,none⟩),.int .u64 150])).run Tryz.prog w=.ok (some (242,⟨a,0,none⟩,150)) w:=fun w=>by kernel_rfl
theorem Tryz.partsN(a:Nat):∀ w,(Extern.ReflectliteValue.parts (.agg #[.pointer (some ⟨3,28,none⟩),.pointer (some ⟨a,0,none⟩),.int .u64 130])).run Tryz.prog w=.ok (some (28,⟨a,0,none⟩,130)) w:=fun w=>by kernel_rfl
theorem Tryz.partsP2(a:Nat):∀ w,(Extern.ReflectliteValue.parts (.agg #[.pointer (some ⟨3,245,none⟩),.pointer (some ⟨a,0,none⟩),.int .u64 404])).run Tryz.prog w=.ok (some (245,⟨a,0,none⟩,404)) w:=fun w=>by kernel_rfl
theorem Tryz.partsE2(a:Nat):∀ w,(Extern.ReflectliteValue.parts (.agg #[.pointer (some ⟨3,28,none⟩),.pointer (some ⟨a,0,none⟩),.int .u64 386])).run Tryz.prog w=.ok (some (28,⟨a,0,none⟩,386)) w:=fun w=>by kernel_rfl
theorem jwV{P:Program}{v x val:vV}{dst src:TypeId}{a b:Addr}{fl fl2:Nat}{w w':vW}(hp1:(Extern.ReflectliteValue.parts v).run P w=.ok (some (dst,a,fl)) w)(hp2:(Extern.ReflectliteValue.parts x).run P w=.ok (some (src,b,fl2)) w)(hfl:(fl / Extern.ReflectliteValue.flagAddr % 2 == 0)=false)
  (hl:(loadVar src b).run P w=.ok val w) (hd:(Extern.Rtype.directlyAssignable dst src).run P w=.ok true w) (hst:(storeVar dst a val).run P w=.ok () w'):(Extern.ReflectliteValue.set #[v,x]).run P w=.ok (.tuple #[]) w':=by
 show Sem.run P (Extern.ReflectliteValue.parts v >>= _) w=_;rw[bS,hp1];show Sem.run P (Extern.ReflectliteValue.parts x >>= _) w=_;rw[bS,hp2];simp only[Result.andThen,hfl,bS,hl,hd,hst,cJ,cO,if_false,if_true]
theorem jrs{P:Program}{v x val:vV}{dst src:TypeId}{a b:Addr}{fl fl2 k:Nat}{w w':vW}(hp1:(Extern.ReflectliteValue.parts v).run P w=.ok (some (dst,a,fl)) w)(hp2:(Extern.ReflectliteValue.parts x).run P w=.ok (some (src,b,fl2)) w)(hfl:(fl / Extern.ReflectliteValue.flagAddr % 2 == 0)=false)
  (hl:(loadVar src b).run P w=.ok val w) (hd:(Extern.Rtype.directlyAssignable dst src).run P w=.ok false w) (hi:(Extern.Rtype.implements dst src).run P w=.ok true w) (hk:(Extern.Rtype.kind src).run P w=.ok k w) (hk2:(k == 20)=false) (hst:(storeVar dst a (.iface src val)).run P w=.ok () w'):(Extern.ReflectliteValue.set #[v,x]).run P w=.ok (.tuple #[]) w':=by
 show Sem.run P (Extern.ReflectliteValue.parts v >>= _) w=_;rw[bS,hp1];show Sem.run P (Extern.ReflectliteValue.parts x >>= _) w=_;rw[bS,hp2];simp only[Result.andThen,hfl,bS,hl,hd,hi,hk,hk2,hst,cJ,cO,if_false,if_true]
end
section
open Go Go.RowKit
theorem Tryz.methodAssign(n:Nat)(v:vV)(w:vW):(Go.method (n+1) 161 v "AssignableTo").run Tryz.prog w=.ok (184,v) w:=vY
theorem Tryz.szAt:(Tryz.prog.info? 245).map (·.size)=some 1:=vY
theorem Tryz.szErrno:(Tryz.prog.info? 28).map (·.size)=some 1:=vY
theorem juf{w:vW}{p c b:Nat}{old:vV}(hc:w.cell? ⟨c,0,none⟩=some (.pointer (some ⟨b,0,none⟩)))(ho:w.cell? ⟨p,0,none⟩=some old)(hf:w.frozen? ⟨p,0,none⟩=false) :
  (callFunc 159 #[.agg #[.pointer (some ⟨3,245,none⟩),.pointer (some ⟨p,0,none⟩),.int .u64 404],.agg #[.pointer (some ⟨3,242,none⟩),.pointer (some ⟨c,0,none⟩),.int .u64 150]]).run Tryz.prog w=.ok (.value (.tuple #[])) (w.setCell ⟨p,0,none⟩ (.iface 242 (.pointer (some ⟨b,0,none⟩)))):=by
 have h:=@run_callFunc_extern Tryz.prog 159 _ Extern.ReflectliteValue.set Tryz.func159 vY vY vY vY;have e:∀ w,(Extern.Rtype.directlyAssignable 245 242).run Tryz.prog w=.ok false w:=fun w=>by kernel_rfl
 have o:∀ w,(Extern.Rtype.implements 245 242).run Tryz.prog w=.ok true w:=fun w=>by kernel_rfl
 have q:∀ w,(Extern.Rtype.kind 242).run Tryz.prog w=.ok 22 w:=fun w=>by kernel_rfl
 rw[h,jrs (Tryz.partsP2 p w) (Tryz.partsF c w) vI (jbM Tryz.underlying242 rfl hc) (e w) (o w) (q w) vI (jhR rfl Tryz.szAt ho hf)];rfl
theorem jue{w:vW}{p c:Nat}{n:Int}{old:vV}(hc:w.cell? ⟨c,0,none⟩=some (.int .i64 n))(ho:w.cell? ⟨p,0,none⟩=some old)(hf:w.frozen? ⟨p,0,none⟩=false) :
  (callFunc 159 #[.agg #[.pointer (some ⟨3,28,none⟩),.pointer (some ⟨p,0,none⟩),.int .u64 386],.agg #[.pointer (some ⟨3,28,none⟩),.pointer (some ⟨c,0,none⟩),.int .u64 130]]).run Tryz.prog w=.ok (.value (.tuple #[])) (w.setCell ⟨p,0,none⟩ (.int .i64 n)):=by
 have h:=@run_callFunc_extern Tryz.prog 159 _ Extern.ReflectliteValue.set Tryz.func159 vY vY vY vY;have e:∀ w,(Extern.Rtype.directlyAssignable 28 28).run Tryz.prog w=.ok true w:=fun w=>by kernel_rfl
 rw[h,jwV (Tryz.partsE2 p w) (Tryz.partsN c w) vI (jbM Tryz.underlying28 rfl hc) (e w) (jhR rfl Tryz.szErrno ho hf)];rfl
end
section
open Go Go.RowKit
attribute [local go_sem] Oper.semAt_some
def vPt(a:Nat):vV:=.agg #[.pointer (some ⟨3,247,none⟩),.pointer (some ⟨a,0,none⟩),.int .u64 150]
def AsPl(w:vW)(p b:Nat)(e:Ending)(w':vW):Prop:=e=.returned (.bool true)/\jag (fun z=>z=p) w w'/\Blk w' p (.cells #[.iface 242 (.pointer (some ⟨b,0,none⟩))] 245)
theorem ju2(w:vW)(a p b:Nat)(tg:vV)(hA:Blk w a (.cells #[.pointer (some ⟨p,0,none⟩)] 247))(hP:Blk w p (.cells #[.nilIface] 245)) :
  vQ 154 #[.iface 242 (.pointer (some ⟨b,0,none⟩)),tg,vPt a,.iface 161 (.agg #[.pointer (some ⟨3,245,none⟩)])] w (AsPl w p b):=by
 unfold vPt
 obtain⟨w1,A⟩:=vE (w.alloc (.cells #[.pointer (some ⟨3,247,none⟩),.pointer (some ⟨a,0,none⟩),.int .u64 150] 254))
 have e:Ext w w1:=by rw[A];exact (ExtR w).alloc _
 have H:=hA.keeps e (fun h=>h);have J:=hP.keeps e (fun h=>h);have hT:=Tryz.typeOfF (.pointer (some ⟨b,0,none⟩));have hM:=Tryz.methodAssign 403;have a0:=Tryz.toAt;have O:(callFunc 158 #[.agg #[.pointer (some ⟨3,247,none⟩),.pointer (some ⟨a,0,none⟩),.int .u64 150]]).run Tryz.prog w1=_:=jnt (jbM Tryz.underlying247 rfl (H.cell (i:=0) vF)) (Tryz.partsP a) Tryz.elemP (Tryz.mkP p);have Q:=Tryz.valueOfF w1 b;have E:Ext w1 (w1.alloc (.cells #[.pointer (some ⟨b,0,none⟩)] 242)):=(ExtR w1).alloc _;have q:=J.keeps E (fun h=>h);have K:Blk (w1.alloc (.cells #[.pointer (some ⟨b,0,none⟩)] 242)) w1.heap.size (.cells #[.pointer (some ⟨b,0,none⟩)] 242):=Blk.new w1 _;have Z:=juf (b:=b) (K.cell (i:=0) vF) (q.cell (i:=0) vF) q.frozen;have X:=Hd (bB (e.trans E) q);clear hA hP H J e E q K;rw[A]at O Q Z X;rw[bK]at Z;clear A w1;go_enter Tryz.func154,Tryz.ntmps154;go_wp2_with fail
 refine wp_loop_rounds 1 ?_;rw[rounds_succ];go_wp2_with fail
 go_ret
 refine⟨rfl,(X.o.1.mono (fun z _ g=>g.elim)).trans' (jag.oneSet _ _ _) (fun z _ g=>g),X.o.2.set_same (i:=0) _⟩
theorem Tryz.noAsF(v:vV)(xT:TypeId)(w:vW):(Instr.typeAssert (.iface 242 v) xT 268 true).run Tryz.prog w=.ok (.tuple #[.nilIface,.bool false]) w:=run_typeAssert_lacksB Tryz.underlying268 vY vY v xT w
def vEr(a:Nat):vV:=.agg #[.pointer (some ⟨3,248,none⟩),.pointer (some ⟨a,0,none⟩),.int .u64 150]
def Fa2(W:vW)(b:Nat):Prop:=∃ (c:Nat) (k l:Int),Blk W b (.cells #[.int .i64 k,.iface 242 (.pointer (some ⟨c,0,none⟩))] 244)/\Blk W c (.cells #[.int .i64 l,malE] 244)
def AsEr(w:vW)(p:Nat)(e:Ending)(w':vW):Prop:=e=.returned (.bool true)/\jag (fun z=>z=p) w w'/\Blk w' p (.cells #[.int .i64 2] 28)
theorem ju1(w:vW)(a p b:Nat)(tg:vV)(n:Int)(hA:Blk w a (.cells #[.pointer (some ⟨p,0,none⟩)] 248))(hP:Blk w p (.cells #[.int .i64 n] 28))(hF:Fa2 w b) :
  vQ 154 #[.iface 242 (.pointer (some ⟨b,0,none⟩)),tg,vEr a,.iface 161 (.agg #[.pointer (some ⟨3,28,none⟩)])] w (AsEr w p):=by
 obtain⟨c,k,l,J,K⟩:=hF
 unfold vEr
 obtain⟨w1,E⟩:=vE (w.alloc (.cells #[.pointer (some ⟨3,248,none⟩),.pointer (some ⟨a,0,none⟩),.int .u64 150] 254))
 have q:Ext w w1:=by rw[E];exact (ExtR w).alloc _
 have O:=hA.keeps q (fun h=>h);have Q:=hP.keeps q (fun h=>h);have X:=Hd (jlH w1 b k _ (J.keeps q (fun h=>h)));have Z:=Hd (jlH w1 c l _ (K.keeps q (fun h=>h)));have hT:=fun x=>Tryz.typeOfF x;have a4:=fun x=>Tryz.typeOfN x;have hM:=Tryz.methodAssign 403;have a5:=Tryz.toErr;have a3:=Tryz.toErr2;have nA:=Tryz.noAsF;have n2:=Tryz.hasUnwrapF;have n3:=Tryz.methodUnwrapF 403;have a6:∀ (z:Nat) w,(binOp .eql 89 (.iface 242 (.pointer (some ⟨z,0,none⟩))) .nilIface).run Tryz.prog w=.ok (.bool false) w:=fun z w=>by kernel_rfl
 have a7:∀ w,(binOp .eql 89 malE .nilIface).run Tryz.prog w=.ok (.bool false) w:=fun w=>by kernel_rfl
 unfold malE at *;have a1:(callFunc 158 #[.agg #[.pointer (some ⟨3,248,none⟩),.pointer (some ⟨a,0,none⟩),.int .u64 150]]).run Tryz.prog w1=_:=jnt (jbM Tryz.underlying248 rfl (O.cell (i:=0) vF)) (Tryz.partsE a) Tryz.elemE (Tryz.mkE p);have a2:=Tryz.valueOfN w1 2;have H:Ext w1 (w1.alloc (.cells #[.int .i64 2] 28)):=(ExtR w1).alloc _;have A:=Q.keeps H (fun h=>h);have a0:Blk (w1.alloc (.cells #[.int .i64 2] 28)) w1.heap.size (.cells #[.int .i64 2] 28):=Blk.new w1 _;have hS:=jue (n:=2) (a0.cell (i:=0) vF) (A.cell (i:=0) vF) A.frozen;have HX:=Hd (bB (q.trans H) A);clear hA hP O Q q H A a0 J K;rw[E]at a1 a2 hS HX X Z;rw[bK]at hS;clear E w1;go_enter Tryz.func154,Tryz.ntmps154;go_wp2_with fail
 refine wp_loop_rounds 3 ?_;rw[rounds_succ];go_wp2_with fail
 refine X.o.mono ?_;rintro e w2 ⟨rfl,rfl⟩;go_wp2_with fail
 rw[rounds_succ];go_wp2_with fail
 refine Z.o.mono ?_;rintro e w2 ⟨rfl,rfl⟩;go_wp2_with fail
 rw[rounds_succ];go_wp2_with fail
 go_ret
 refine⟨rfl,(HX.o.1.mono (fun z _ g=>g.elim)).trans' (jag.oneSet _ _ _) (fun z _ g=>g),HX.o.2.set_same (i:=0) _⟩
theorem Tryz.methodKind(n:Nat)(t:TypeId)(w:vW):(Go.method (n+1) 161 (.agg #[.pointer (some ⟨3,t,none⟩)]) "Kind").run Tryz.prog w=.ok (178,.pointer (some ⟨3,t,none⟩)) w:=vY
theorem Tryz.methodElem(n:Nat)(v:vV)(w:vW):(Go.method (n+1) 161 v "Elem").run Tryz.prog w=.ok (186,v) w:=vY
theorem Tryz.kindP(w:vW):(callFunc 178 #[.pointer (some ⟨3,247,none⟩)]).run Tryz.prog w=.ok (.value (.int .u8 22)) w:=vY
theorem Tryz.kindI(w:vW):(callFunc 178 #[.pointer (some ⟨3,245,none⟩)]).run Tryz.prog w=.ok (.value (.int .u8 20)) w:=vY
theorem juH(w:vW)(p b:Nat)(hP:Blk w p (.cells #[.nilIface] 245)) :
  vQ 147 #[.iface 242 (.pointer (some ⟨b,0,none⟩)),.iface 247 (.pointer (some ⟨p,0,none⟩))] w (AsPl w p b):=by
 obtain⟨w1,q⟩:=vE (w.alloc (.cells #[.pointer (some ⟨p,0,none⟩)] 247))
 have E:Ext w w1:=by rw[q];exact (ExtR w).alloc _
 have O:Blk w1 w.heap.size (.cells #[.pointer (some ⟨p,0,none⟩)] 247):=by rw[q];exact Blk.new w _
 obtain⟨X,H⟩:=vE (w1.alloc (.cells #[.pointer (some ⟨3,247,none⟩),.pointer (some ⟨w.heap.size,0,none⟩),.int .u64 150] 254))
 have A:Ext w1 X:=by rw[H];exact (ExtR w1).alloc _
 have J:=O.keeps A (fun h=>h);have Q:=(hP.keeps E (fun h=>h)).keeps A (fun h=>h);have K:=Hd (ju2 X w.heap.size p b (.iface 247 (.pointer (some ⟨p,0,none⟩))) J Q);have Z:=Hd (E.trans A);have hV:=Tryz.valueOfP w p;have hT:=fun w=>Tryz.typeOfVP w;have hK:=fun t w=>Tryz.methodKind 403 t w;have a0:=fun v w=>Tryz.methodElem 403 v w;have a1:=Tryz.kindP;have a2:=Tryz.kindI;have a3:=Tryz.elemTP;have hN:(callFunc 153 #[.agg #[.pointer (some ⟨3,247,none⟩),.pointer (some ⟨w.heap.size,0,none⟩),.int .u64 150]]).run Tryz.prog X=_:=jmB (jbM Tryz.underlying247 rfl (J.cell (i:=0) vF)) (Tryz.partsP w.heap.size);have a4:∀ w,(binOp .eql 89 (.iface 242 (.pointer (some ⟨b,0,none⟩))) .nilIface).run Tryz.prog w=.ok (.bool false) w:=fun w=>by kernel_rfl
 have a5:∀ w,(binOp .eql 20 (.iface 247 (.pointer (some ⟨p,0,none⟩))) .nilIface).run Tryz.prog w=.ok (.bool false) w:=fun w=>by kernel_rfl
 unfold vPt at K;clear E A O J Q hP;rw[H,q]at K Z hN;clear q H w1 X;go_enter Tryz.func147,Tryz.ntmps147;go_wp2_with fail
 refine K.o.mono ?_;rintro e w3 ⟨rfl,hk,hB⟩;have HK:=Hd (bB hk hB);clear hk hB;go_wp2_with fail
 go_ret
 exact⟨rfl,(Z.o.mono (fun z _ g=>g.elim)).trans' HK.o.1 (fun z _ g=>g),HK.o.2⟩
def ErrT(w:vW):Prop:=w.cell? ⟨1,0,none⟩=some (.iface 161 (.agg #[.pointer (some ⟨3,89,none⟩)]))
theorem ErrT.ext{w w':vW}(h:ErrT w)(k:Ext w w'):ErrT w':=jaa h k
theorem Fa2.ext{w w':vW}{b:Nat}(h:Fa2 w b)(k:Ext w w'):Fa2 w' b:=by
 obtain⟨c,x,y,e,o⟩:=h
 exact⟨c,x,y,e.keeps k (fun h=>h),o.keeps k (fun h=>h)⟩
theorem Tryz.methodImpl(n:Nat)(v:vV)(w:vW):(Go.method (n+1) 161 v "Implements").run Tryz.prog w=.ok (187,v) w:=vY
theorem Tryz.implN(w:vW):(callFunc 187 #[.agg #[.pointer (some ⟨3,28,none⟩)],.iface 161 (.agg #[.pointer (some ⟨3,89,none⟩)])]).run Tryz.prog w=.ok (.value (.bool true)) w:=vY
theorem Tryz.kindE(w:vW):(callFunc 178 #[.pointer (some ⟨3,248,none⟩)]).run Tryz.prog w=.ok (.value (.int .u8 22)) w:=vY
theorem Tryz.kindN(w:vW):(callFunc 178 #[.pointer (some ⟨3,28,none⟩)]).run Tryz.prog w=.ok (.value (.int .u8 2)) w:=vY
theorem juG(w:vW)(p b:Nat)(n:Int)(hG:ErrT w)(hF:Fa2 w b)(hP:Blk w p (.cells #[.int .i64 n] 28)) :
  vQ 147 #[.iface 242 (.pointer (some ⟨b,0,none⟩)),.iface 248 (.pointer (some ⟨p,0,none⟩))] w (AsEr w p):=by
 obtain⟨w1,E⟩:=vE (w.alloc (.cells #[.pointer (some ⟨p,0,none⟩)] 248))
 have A:Ext w w1:=by rw[E];exact (ExtR w).alloc _
 have O:Blk w1 w.heap.size (.cells #[.pointer (some ⟨p,0,none⟩)] 248):=by rw[E];exact Blk.new w _
 obtain⟨Q,H⟩:=vE (w1.alloc (.cells #[.pointer (some ⟨3,248,none⟩),.pointer (some ⟨w.heap.size,0,none⟩),.int .u64 150] 254))
 have q:Ext w1 Q:=by rw[H];exact (ExtR w1).alloc _
 have J:=O.keeps q (fun h=>h);have X:=(hP.keeps A (fun h=>h)).keeps q (fun h=>h);have K:=Hd (ju1 Q w.heap.size p b (.iface 248 (.pointer (some ⟨p,0,none⟩))) n J X ((hF.ext A).ext q));have HX:=Hd (A.trans q);have hV:=Tryz.valueOfE w p;have hT:=fun w=>Tryz.typeOfVE w;have hK:=fun t w=>Tryz.methodKind 403 t w;have a0:=fun v w=>Tryz.methodElem 403 v w;have a1:=Tryz.kindE;have a2:=Tryz.kindN;have a3:=Tryz.elemTE;have hN:(callFunc 153 #[.agg #[.pointer (some ⟨3,248,none⟩),.pointer (some ⟨w.heap.size,0,none⟩),.int .u64 150]]).run Tryz.prog Q=_:=jmB (jbM Tryz.underlying248 rfl (J.cell (i:=0) vF)) (Tryz.partsE w.heap.size);have a4:∀ w,(binOp .eql 89 (.iface 242 (.pointer (some ⟨b,0,none⟩))) .nilIface).run Tryz.prog w=.ok (.bool false) w:=fun w=>by kernel_rfl
 have a5:∀ w,(binOp .eql 20 (.iface 248 (.pointer (some ⟨p,0,none⟩))) .nilIface).run Tryz.prog w=.ok (.bool false) w:=fun w=>by kernel_rfl
 unfold vEr at K;have Z:Q.cell? ⟨1,0,none⟩=some (.iface 161 (.agg #[.pointer (some ⟨3,89,none⟩)])):=jaa hG (A.trans q);have a6:=Tryz.implN;have a7:=fun v w=>Tryz.methodImpl 403 v w;clear A q O J X hP hG hF;rw[H,E]at K HX hN Z;clear E H w1 Q;go_enter Tryz.func147,Tryz.ntmps147;go_wp2_with fail
 refine K.o.mono ?_;rintro e w3 ⟨rfl,hk,hB⟩;have HK:=Hd (bB hk hB);clear hk hB;go_wp2_with fail
 go_ret
 exact⟨rfl,(HX.o.mono (fun z _ g=>g.elim)).trans' HK.o.1 (fun z _ g=>g),HK.o.2⟩
structure WrAt(z g:Nat)(v:Value)(T:vM)(W:World):Prop where
 lo:z<=g
 var:Blk W g (.cells #[v] 80)
 row:W.ownsRow 0 9 1 v T.length (T.map Value.string)
 own:∀ b,v.ownBlock=some b->z<=b/\b≠g/\b < W.heap.size
 nil:T=[]->v=.slice none 0 0
theorem WrAt.ext{z g:Nat}{v:vV}{T:vM}{W W':vW}(h:WrAt z g v T W)(e:Ext W W'):WrAt z g v T W':=
 ⟨h.lo,h.var.keeps e (fun g=>g),jbm h.row e,fun b hb=>⟨(h.own b hb).1,(h.own b hb).2.1,bR (h.own b hb).2.2 e.size⟩,h.nil⟩
theorem WrAt.off{z g:Nat}{v:vV}{T:vM}{W W':vW}{F:BSet}(h:WrAt z g v T W)(e:jag F W W')(h1:¬ F g)(h2:∀ b,v.ownBlock=some b->¬ F b):WrAt z g v T W':=
 ⟨h.lo,h.var.keeps e h1,jaY h.row e h2,fun b hb=>⟨(h.own b hb).1,(h.own b hb).2.1,bR (h.own b hb).2.2 e.size⟩,h.nil⟩
structure WrTo(z g:Nat)(v:Value)(W W':World)(v':Value)(T':vM):Prop where
 at':WrAt z g v' T' W'
 kp:jag (fun b=>b=g\/v.ownBlock=some b) W W'
 sub:∀ b,v'.ownBlock=some b->v.ownBlock=some b\/W.heap.size<=b
theorem WrTo.refl{z g:Nat}{v:vV}{T:vM}{W W':vW}(h:WrAt z g v T W)(e:Ext W W'):WrTo z g v W W' v T:=⟨h.ext e,e.mono (fun _ _ h=>h.elim),fun b hb=>.inl hb⟩
theorem WrTo.trans{z g:Nat}{v v' v'':vV}{T T':vM}{W W' W'':vW}(h:WrTo z g v W W' v' T)(k:WrTo z g v' W' W'' v'' T'):WrTo z g v W W'' v'' T':=
 ⟨k.at',h.kp.trans' k.kp (fun x o e=>by
  rcases e with e | e
  ·exact .inl e
  ·rcases h.sub x e with e | e
   ·exact .inr e
   ·omega),fun b hb=>by
  rcases k.sub b hb with e | e
  ·exact h.sub b e
  ·exact .inr (bH h.kp.size e)⟩
theorem WrTo.ext{z g:Nat}{v v':vV}{T:vM}{W W' W'':vW}(h:WrTo z g v W W' v' T)(e:Ext W' W''):WrTo z g v W W'' v' T:=h.trans (WrTo.refl h.at' e)
theorem WrTo.blk{z g:Nat}{v v':vV}{T:vM}{W W':vW}(h:WrTo z g v W W' v' T){b:Nat}{o:Obj}(hB:Blk W b o)(h1:b≠g)(h2:v.ownBlock≠some b):Blk W' b o:=hB.keeps h.kp (fun e=>e.elim h1 h2)
theorem WrTo.ext0{z g:Nat}{v v':vV}{T T':vM}{W0 W W':vW}(h:WrTo z g v W W' v' T')(k:WrAt z g v T W)(e:Ext W0 W)(hz:W0.heap.size<=z):Ext W0 W':=
 e.trans' h.kp (fun x o e=>by
  rcases e with e | e
  ·have:=k.lo;omega
  ·have:=(k.own x e).1;omega)
theorem WrTo.fill{z g:Nat}{v v':vV}{T:vM}{W W' W'':vW}(h:WrTo z g v W W' v' T){L:Nat}(e:jag (fun b=>b=L) W' W'')(h1:L≠g)(h2:v'.ownBlock≠some L)(h3:W.heap.size<=L):WrTo z g v W W'' v' T:=
 ⟨h.at'.off e (fun x=>h1 x.symm) (fun b hb x=>h2 (by rw[hb,x])),h.kp.trans' e (fun x o y=>by have y:x=L:=y;omega),h.sub⟩
theorem WrTo.ahead{z g:Nat}{v v':vV}{T:vM}{W0 W W':vW}(e:Ext W0 W)(h:WrTo z g v W W' v' T):WrTo z g v W0 W' v' T:=
 ⟨h.at',(e.mono (fun _ _ h=>h.elim)).trans' h.kp (fun x o e=>e),fun b hb=>(h.sub b hb).imp id (fun k=>bH e.size k)⟩
def FoP(z g:Nat)(v:vV)(W:vW)(r:vV)(T:vM)(e:Ending)(w':vW):Prop:=e=.returned r/\∃ v',WrTo z g v W w' v' T
structure jnz(n:jad):Prop where
 refs:n.refs.length=16
 call:∀ w,jbN w->ErrT w->vQ 59 #[n.V] w fun e w'=>(∃ k:Int,e=.returned (.tuple #[.string (putN n),.int .i64 k]))/\Ext w w'
theorem jgT(n:jad):(putN n).size<=2000:=by
 by_cases h:∃ d,jbd (InlD d) n
 ·obtain⟨d,e⟩:=h
  rw[ji1 e];exact jj7 n (e.one (inlP d))
 ·rw[jtQ h];exact bY _
theorem jgV{d:Nat}{n:jad}(h:jbd (InlD d) n):jnz n:=⟨(h.one (inlP d)).refs,fun w _ _=>by
 rw[ji1 h];exact (jj8 (inlP d) w n h).mono fun e w' h=>⟨⟨0,h.1⟩,h.2⟩⟩
def PutP:PA->Prop
 | .nil=>True
 | .no=>jnz jak
 | .leaf q v=>jnz ⟨1,q,v,jar 16⟩
 | .ext q n=>jnz (nodeP (.ext q n))/\PutP n
 | .br v ks=>jnz (nodeP (.br v ks))/\∀ i,PutP (ks i)
theorem PutP.node{P:PA}(h:PutP P)(hn:P.isNil=false):jnz (nodeP P):=by
 cases P with
 | nil=>cases hn
 | no=>exact h
 | leaf q v=>exact h
 | ext q n=>exact h.1
 | br v ks=>exact h.1
theorem jhH{P:PA}:(textP P).size<=2000:=by
 cases P with
 | nil=>exact bY _
 | no=>exact jgT _
 | leaf q v=>exact jgT _
 | ext q n=>exact jgT _
 | br v ks=>exact jgT _
theorem jdx:∀ (P:PA),P.isNil=false->(underP P).length+1<=cntP P
 | .nil,h=>by cases h
 | .no,_=>bL _
 | .leaf _ _,_=>bL _
 | .ext q n,_=>by
  show (bigs (textP n)++underP n).length+1<=1+cntP n;rw[bF];have e:=jh0 (textP n);cases hn:n.isNil with
  | true=>rw[jbw hn];exact bL _
  | false =>
   have:=jdx n hn
   omega
 | .br v ks,_=>by
  show ((List.range 16).flatMap fun i=>if (ks i).isNil then []else bigs (textP (ks i))++underP (ks i)).length+1<=1+sumF (fun i=>cntP (ks i)) 16
  have:=jgE (fun i=>if (ks i).isNil then []else bigs (textP (ks i))++underP (ks i)) (fun i=>cntP (ks i)) (fun i=>by
   show (if (ks i).isNil=true then ([]:vM)else bigs (textP (ks i))++underP (ks i)).length<=cntP (ks i);cases hn:(ks i).isNil with
   | true=>rw[if_pos rfl];exact bY _
   | false =>
    rw[if_neg ff,bF];have e:=jh0 (textP (ks i))
    have:=jdx (ks i) hn
    omega) 16
  omega
def jzB(P:PA):Prop:=∀ (w0 W:vW) (T:TypeId) (x:vV) (D:Nat->Prop) (g:Nat) (v:vV) (Tx:vM),jbN w0->ErrT w0->PaO P (.iface T x) D w0->Ext w0 W->WrAt w0.heap.size g v Tx W->Tx.length+cntP P<=100000 ->
 vQ (jmW P) #[x,.pointer (some ⟨g,0,none⟩)] W (FoP w0.heap.size g v W (nodeP P).V (Tx++underP P))
def TopC(P:PA):Prop:=∀ (w0 W:vW) (T:TypeId) (x:vV) (D:Nat->Prop) (g:Nat) (v:vV) (Tx:vM),jbN w0->ErrT w0->PaO P (.iface T x) D w0->Ext w0 W->WrAt w0.heap.size g v Tx W->Tx.length+cntP P<=100000 ->
 vQ 34 #[.pointer (some ⟨g,0,none⟩),.iface T x] W (FoP w0.heap.size g v W (.string (textP P)) (Tx++underP P))
def jxT(P:PA):Prop:=∀ (w0 W:vW) (T:TypeId) (x:vV) (D:Nat->Prop) (g:Nat) (v:vV) (Tx:vM),jbN w0->ErrT w0->PaO P (.iface T x) D w0->Ext w0 W->WrAt w0.heap.size g v Tx W->Tx.length+cntP P<=100000 ->
 vQ 182 #[.pointer (some ⟨g,0,none⟩),.iface T x] W (FoP w0.heap.size g v W (.string (refB (textP P))) (Tx++(bigs (textP P)++underP P)))
theorem jwd(z g:Nat)(v:vV)(Tx:vM)(W:vW)(h:WrAt z g v Tx W):vQ 212 #[.agg #[],.pointer (some ⟨g,0,none⟩)] W (FoP z g v W jak.V Tx):=by
 have H:=Hd h;clear h;go_enter Tryz.func212,Tryz.ntmps212;go_wp2_with (first |(refine jah Tryz.allocNode rfl rfl ?_;intro Q q A;simp only[bK]at q) |(refine jae (vs:=jak.cells) rfl rfl rfl rfl q rfl Tryz.szNode jak.one ?_;intro O E J))
 have K:Ext W (W.alloc (.cells #[] 214)):=(ExtR W).alloc _;refine bodyPost_ret (jcX rfl rfl (jai O _ jak rfl E)) rfl ?_
 exact⟨rfl,v,WrTo.refl H.o ((K.trans A).trans' J (fun x X e=>by have e:x=W.heap.size+1:=e;omega))⟩
def jBT(q u:vB):List vV:=jb9 1 q u ⟨#[]⟩
theorem jyD(w0:vW)(z g:Nat)(v:vV)(Tx:vM)(W:vW)(hE:Ext w0 W)(q u:vB)(b:Nat)(hB:Blk w0 b (.cells #[.string q,.string u] 205))(h:WrAt z g v Tx W):vQ 196 #[.pointer (some ⟨b,0,none⟩),.pointer (some ⟨g,0,none⟩)] W (FoP z g v W (jad.V ⟨1,q,u,jar 16⟩) Tx):=by
 have H:=Hd h;have Q0:=Hd (jaa (hB.cell (i:=0) (v:=.string q) vF) hE);have Q1:=Hd (jaa (hB.cell (i:=1) (v:=.string u) vF) hE);have a0:=hB.lt;have J:=Hd (show ¬ b=W.heap.size by have:=hE.size;omega);clear h hB hE a0;go_enter Tryz.func196,Tryz.ntmps196;go_wp2_with (refine jah Tryz.allocNode rfl rfl ?_;intro W4 O Q)
 have a1:=Hd O;have A:=Hd Q;clear O Q;refine vS ?_;refine ja5 [0,1,2,3,4,5,6,7,8,9] [9] Ext (jag (fun z=>z=W.heap.size)) ExtR ExtT (fun x y z h k=>jag.trans h k) (fun x y h=>h.mono (fun _ _ h=>h.elim)) vY vY vY ?_
 refine vD ?_
 refine qDV _ ((.pointer (some ⟨b,0,none⟩))) rfl (fun w1 _=>by kernel_rfl) ?_;refine vS ?_
 refine vD ?_
 refine qDL ⟨b,0,none⟩ _ rfl (fun w1 h1=>jaB (fun w=>by kernel_rfl) (jaF (jaa Q0.o A.o) (((jag.refl (fun z=>z=W.heap.size) W4).drew).trans h1) (by exact J.o))) ?_;refine vS ?_
 refine vD ?_
 refine qDV _ ((.pointer (some ⟨b,0,none⟩))) rfl (fun w1 _=>by kernel_rfl) ?_;refine vS ?_
 refine vD ?_
 refine qDL ⟨b,1,none⟩ _ rfl (fun w1 h1=>jaB (fun w=>by kernel_rfl) (jaF (jaa Q1.o A.o) (((jag.refl (fun z=>z=W.heap.size) W4).drew).trans h1) (by exact J.o))) ?_;refine vS ?_
 refine vD ?_
 refine qDH _ rfl (fun w5 X K hK=>?_);have hX:=(jaq W4).trans X;refine jjn (vs:=jBT q u) rfl rfl rfl (a1.o.keeps hX (fun h=>h)) rfl Tryz.szNode (jbF _ _ _ _) ?_;intro W6 Z E;have H6:=Hd (bB Z ((A.o.trans hX).trans' E (fun x hx e=>by have e:x=W.heap.size:=e;omega)));refine vS ?_;refine hK _ _ E ?_;clear hK K X hX Z E;refine jcA vY (fun w7 X=>?_);have a2:=H6.o.1.keeps X (fun h=>h);have a3:=H6.o.2.trans X;go_wp2_with fail
 refine bodyPost_ret (jcX rfl rfl (jai w7 _ ⟨1,q,u,jar 16⟩ rfl a2)) rfl ?_
 exact⟨rfl,v,WrTo.refl H.o a3⟩
theorem jqs(P:PA)(hn:P.isNil=false)(hp:PutP P)(hF:jzB P):TopC P:=by
 intro w0 W T x D g v Tx E H J K O hl;have hf:=hF w0 W T x D g v Tx E H J K O hl;have hm:=J.at'.meth.form;have hm:∀ w,(Go.method (403+1) T x "guilloche/trie.form").run Tryz.prog w=.ok (jmW P,x) w:=hm;have a1:=jqN P;have q:=hp.node hn;rw[jnn hn];have HN:Hid (∀ w,Ext w0 w->vQ 59 #[(nodeP P).V] w fun e w'=>(∃ k:Int,e=.returned (.tuple #[.string (putN (nodeP P)),.int .i64 k]))/\Ext w w'):=fun w e=>q.call w (E.ext e) (H.ext e);have Q:=Hd hf;have HW:=Hd (bB O K)
 obtain⟨U,hU⟩:=vE (Tx++underP P)
 rw[<-hU]at Q ⊢
 obtain⟨n,z⟩:=vE (nodeP P)
 rw[<-z]at Q HN ⊢;clear hf E H J K O hl q hn hp hF hU z;go_enter Tryz.func34,Tryz.ntmps34;go_wp2_with fail
 refine Q.o.mono ?_;rintro e w1 ⟨rfl,v1,X⟩;have HT:=Hd X;have Z:=Hd (X.ext0 HW.o.1 HW.o.2 (bL _));clear X;go_wp2_with fail
 refine (HN.o w1 Z.o).mono ?_;rintro e w2 ⟨⟨k,rfl⟩,A⟩;have a0:=Hd A;clear A;go_wp2_with fail
 go_ret
 exact⟨rfl,v1,HT.o.ext a0.o⟩
end
section
open Go Go.RowKit
theorem jpM(s:vB):(jaM s).size=2 * s.size:=by
 have:∀ l:vN,(jcR l).length=2 * l.length:=by
  intro l;induction l with
  | nil=>rfl
  | cons x r ih=>unfold jcR at ih ⊢;rw[cG,bF,ih];simp;omega
 exact this s.data.toList
theorem jwp(s:vB):jaC (jaM s)=true:=jbL s
def jjv(s:vB):vB × Bool × Bool:=
 if s.size=0 then (⟨#[]⟩,false,false)
 else if 3 < ((jaM s).data.toList.getD 0 0).toNat then (⟨#[]⟩,false,false)
 else if ((jaM s).data.toList.getD 0 0).toNat=3\/((jaM s).data.toList.getD 0 0).toNat=1 then ((jaM s).extract 1 (jaM s).size,decide (((jaM s).data.toList.getD 0 0).toNat=3),true)
 else if ((jaM s).data.toList.getD 1 0).toNat=0 then ((jaM s).extract 2 (jaM s).size,decide (((jaM s).data.toList.getD 0 0).toNat=2),true)
 else (⟨#[]⟩,false,false)
theorem jv8(s:vB):jaC (jjv s).1=true/\(jjv s).1.size<=2 * s.size:=by
 have o:=jwp s;have q:=jpM s;have e:jaC (⟨#[]⟩:vB)=true/\(⟨#[]⟩:vB).size<=2 * s.size:=⟨by decide,bY _⟩;unfold jjv;split
 ·exact e
 ·split
  ·exact e
  ·split
   ·exact⟨jaW o _ _,by show (ByteArray.extract _ _ _).size<=_;rw[cL];omega⟩
   ·split
    ·exact⟨jaW o _ _,by show (ByteArray.extract _ _ _).size<=_;rw[cL];omega⟩
    ·exact e
def jzN(w:vW)(s:vB)(e:Ending)(w':vW):Prop:=e=.returned (.tuple #[.string (jjv s).1,.bool (jjv s).2.1,.bool (jjv s).2.2])/\Ext w w'
def jrB(w:vW)(e:Ending)(w':vW):Prop:=e=.returned (.tuple #[.string ⟨#[]⟩,.bool false,.bool false])/\Ext w w'
theorem jvG(w:vW)(s:vB)(hs:s.size<=1000000)(hx:jaM s=⟨#[]⟩):vQ 135 #[.string s] w (jrB w):=by
 go_enter Tryz.func135,Tryz.ntmps135;go_wp2_with fail
 refine vH (jft w s hs) fun w1 e=>?_;rw[hx];clear hx hs;go_wp2_with fail
 exact bodyPost_ret (v:=.tuple #[.string ⟨#[]⟩,.bool false,.bool false]) vY rfl ⟨rfl,e.o⟩
theorem jvF(w:vW)(s:vB)(hs:s.size<=1000000)(x:vB)(hx:jaM s=x)(h2:2<=x.size)(h0:3 < x[0].toNat):vQ 135 #[.string s] w (jrB w):=by
 go_enter Tryz.func135,Tryz.ntmps135;go_wp2_with fail
 refine vH (jft w s hs) fun w1 e=>?_;rw[hx];clear hx hs;have q:=ja4 (s:=x) vO;have z:(0:Int) < (x.size:Int):=vO
 have A:((x[0].toNat:Int) == 3)=false:=by simp;omega
 have E:((x[0].toNat:Int) == 2)=false:=by simp;omega
 have H:((x[0].toNat:Int) == 1)=false:=by simp;omega
 have J:((x[0].toNat:Int) == 0)=false:=by simp;omega
 clear h0;go_wp2_with fail
 exact bodyPost_ret (v:=.tuple #[.string ⟨#[]⟩,.bool false,.bool false]) vY rfl ⟨rfl,e.o⟩
theorem jsK(w:vW)(s:vB)(hs:s.size<=1000000)(leaf:Bool)(x:vB)(hx:jaM s=x)(h2:2<=x.size)(h0:x[0].toNat=if leaf then 2 else 0)(h1:x[1].toNat≠0) :
  vQ 135 #[.string s] w (jrB w):=by
 go_enter Tryz.func135,Tryz.ntmps135;go_wp2_with fail
 refine vH (jft w s hs) fun w1 e=>?_;rw[hx];clear hx hs;have q:=ja4 (s:=x) vO;have E:(0:Int) < (x.size:Int):=vO
 have H:(1:Int) < (x.size:Int):=vO
 have z:((x[1].toNat:Int) == 0)=false:=by simpa using h1
 clear h1;cases leaf with
 | true =>
  have A:(x[0].toNat:Int)=2:=by simp at h0;omega
  clear h0;go_wp2_with fail
  exact bodyPost_ret (v:=.tuple #[.string ⟨#[]⟩,.bool false,.bool false]) vY rfl ⟨rfl,e.o⟩
 | false =>
  have A:(x[0].toNat:Int)=0:=by simp at h0;omega
  clear h0;go_wp2_with fail
  exact bodyPost_ret (v:=.tuple #[.string ⟨#[]⟩,.bool false,.bool false]) vY rfl ⟨rfl,e.o⟩
theorem jv9(w:vW)(s:vB)(hs:s.size<=1000000):vQ 135 #[.string s] w (jzN w s):=by
 have H:=jpM s
 by_cases h0:s.size=0
 ·refine (jvG w s hs (by rw[ja1 h0];rfl)).mono fun e w' h=>⟨?_,h.2⟩
  unfold jjv;rw[if_pos h0];exact h.1
 ·have o:2<=(jaM s).size:=vO
  have q:(jaM s)[0]=(jaM s).data.toList.getD 0 0:=by
   rw[bE,bA (by show 0 < (jaM s).size;omega)];rfl
  have z:(jaM s)[1]=(jaM s).data.toList.getD 1 0:=by
   rw[bE,bA (by show 1 < (jaM s).size;omega)];rfl
  obtain⟨n,A⟩:=vE ((jaM s).data.toList.getD 0 0).toNat
  have q:(jaM s)[0].toNat=n:=by rw[q,A]
  unfold jzN jjv;rw[if_neg h0, <-A]
  by_cases h3:3 < n
  ·rw[if_pos h3];exact jvF w s hs _ rfl o vO
  ·rw[if_neg h3]
   by_cases ho:n=3\/n=1
   ·rw[if_pos ho]
    refine jsJ w s hs (decide (n=3)) _ rfl o ?_;rw[q];rcases ho with rfl | rfl <;> rfl
   ·rw[if_neg ho]
    have E:(jaM s)[0].toNat=if decide (n=2)=true then 2 else 0:=by
     rw[q]
     by_cases h:n=2
     ·simp[h]
     ·simp[h];omega
    by_cases hz:((jaM s).data.toList.getD 1 0).toNat=0
    ·rw[if_pos hz];exact jpl w s hs (decide (n=2)) _ rfl o E (by rw[z];exact hz)
    ·rw[if_neg hz];exact jsK w s hs (decide (n=2)) _ rfl o E (by rw[z];exact hz)
def jra(g:vB × Bool × Bool)(o:Option vB)(y:vB):jad × Bool:=
 if g.2.2=true then
  if g.2.1=true then (⟨1,g.1,o.getD ⟨#[]⟩,jar 16⟩,o.isSome)else (⟨2,g.1,⟨#[]⟩,y :: jar 15⟩,true)
 else (jak,false)
def jiU(x y:vB):jad × Bool:=match jek x with
 | none=>(jak,false)
 | some b=>jra (jjv b) (jek y) y
def jBn(y:vB)(m:jad):Prop:=(∃ p v,m=⟨1,p,v,jar 16⟩/\jaC p=true/\p.size<=1000000/\v.size<=1000000)\/(∃ p,m=⟨2,p,⟨#[]⟩,y :: jar 15⟩/\jaC p=true/\p.size<=1000000)
def jny(w:vW)(x y:vB)(e:Ending)(w':vW):Prop:=e=.returned (.tuple #[(jiU x y).1.V,.bool (jiU x y).2])/\Ext w w'
theorem je3{s b:vB}(h:jek s=some b):b.size<=s.size:=by
 unfold jek at h;split at h
 ·unfold jeF at h
  split at h
  ·obtain rfl:=bQ h
   rw[cL];omega
  ·cases h
 ·cases h
theorem jtI(x y:vB):(jiU x y).1.refs.length=16:=by
 unfold jiU;split
 ·rfl
 ·unfold jra
  split
  ·split <;> rfl
  ·rfl
theorem jwj{x y:vB}(hx:x.size<=500000)(hy:y.size<=1000000)(h:(jiU x y).2=true):jBn y (jiU x y).1:=by
 unfold jiU at h ⊢;split at h
 ·cases h
 ·rename_i b hb
  have o:=je3 hb
  obtain⟨e,q⟩:=jv8 b
  unfold jra at h ⊢;split at h
  ·rename_i h3
   rw[if_pos h3];split at h
   ·rename_i h4
    rw[if_pos h4];cases hv:jek y with
    | none=>rw[hv]at h;cases h
    | some v=>exact .inl ⟨_,v,rfl,e,by omega,by have:=je3 hv;omega⟩
   ·rename_i h4
    rw[if_neg h4];exact .inr ⟨_,rfl,e,by omega⟩
  ·cases h
theorem jrb(w:vW)(x y:vB)(Q:x.size<=1000000)(h:jek x=none):vQ 107 #[.string x,.string y] w (jny w x y):=by
 have O:=Hd h;clear h;go_enter Tryz.func107,Tryz.ntmps107;go_wp2_with (refine jah Tryz.allocNode rfl rfl ?_;intro X q z)
 refine vC (jgR _ x vO) fun Z A=>?_;rw[O.o];have E:=q.keeps A (fun h=>h);have H:=Hd (z.trans A);clear q z A;unfold optV;simp only;go_wp2_with (refine jae (vs:=jak.cells) rfl rfl rfl rfl E rfl Tryz.szNode (jad.one _) ?_;intro W8 J K)
 refine bodyPost_ret (jaj rfl rfl rfl (jai W8 _ jak rfl J)) rfl ?_;have e:jiU x y=(jak,false):=by unfold jiU;rw[O.o]
 unfold jny;rw[e]
 exact⟨rfl,H.o.trans' K (fun x Q e=>by have e:x=w.heap.size:=e;omega)⟩
theorem jwl(w:vW)(x y b:vB)(X:x.size<=1000000)(hy:y.size<=1000000)(h:jek x=some b):vQ 107 #[.string x,.string y] w (jny w x y):=by
 have hb:=je3 h;have HH:=Hd h
 obtain⟨g,hg⟩:=vE (jjv b)
 obtain⟨o,ho⟩:=vE (jek y)
 have HP:jny w x y=fun e w'=>e=.returned (.tuple #[(jra g o y).1.V,.bool (jra g o y).2])/\Ext w w':=by unfold jny jiU;rw[h,hg,ho]
 rw[HP];have HG:=Hd hg;have HO:=Hd ho;clear h hg HP ho
 obtain⟨p,Z,ok⟩:=g
 unfold jra;simp only;go_enter Tryz.func107,Tryz.ntmps107;go_wp2_with (refine jah Tryz.allocNode rfl rfl ?_;intro W1 a0 a1)
 refine vC (jgR _ x vO) fun w2 A=>?_;rw[HH.o];have a2:=Hd (a1.trans A);have a3:=Hd (a0.keeps A (fun h=>h));clear a0 a1 A;unfold optV;simp only;go_wp2_with fail
 refine vC (jv9 _ b vO) fun J A=>?_;rw[<-HG.o];simp only;have H:=Hd (a2.o.trans A);have q:=Hd (a3.o.keeps A (fun h=>h));clear A a2 a3;cases ok with
 | false =>
  have a7:=q.o;go_wp2_with (refine jae (vs:=jak.cells) rfl rfl rfl rfl a7 rfl Tryz.szNode (jad.one _) ?_;intro W8 K O)
  refine bodyPost_ret (jaj rfl rfl rfl (jai W8 _ jak rfl K)) rfl ?_
  exact⟨rfl,H.o.trans' O (fun x X e=>by have e:x=w.heap.size:=e;omega)⟩
 | true =>
  cases Z with
  | true =>
   go_wp2_with fail
   refine vC (jgR _ y vO) fun w4 A=>?_;have a4:=Hd (H.o.trans A);have a5:=q.o.keeps A (fun h=>h);clear A H q;rw[<-HO.o];cases o with
   | none =>
    unfold optV;simp only;go_wp2_with (refine jae (vs:=jb9 1 p ⟨#[]⟩ ⟨#[]⟩) rfl rfl rfl rfl a5 rfl Tryz.szNode (jbF _ _ _ _) ?_;intro W5 E z)
    refine bodyPost_ret (jaj rfl rfl rfl (jai W5 _ ⟨1,p,⟨#[]⟩,jar 16⟩ rfl E)) rfl ?_
    exact⟨rfl,a4.o.trans' z (fun x X e=>by have e:x=w.heap.size:=e;omega)⟩
   | some v =>
    unfold optV;simp only;go_wp2_with (refine jae (vs:=jb9 1 p v ⟨#[]⟩) rfl rfl rfl rfl a5 rfl Tryz.szNode (jbF _ _ _ _) ?_;intro W5 E z)
    refine bodyPost_ret (jaj rfl rfl rfl (jai W5 _ ⟨1,p,v,jar 16⟩ rfl E)) rfl ?_
    exact⟨rfl,a4.o.trans' z (fun x X e=>by have e:x=w.heap.size:=e;omega)⟩
  | false =>
   go_wp2_with (first |(refine jah Tryz.allocNode rfl rfl ?_;intro W5 E z;refine jae (vs:=jb9 2 p ⟨#[]⟩ ⟨#[]⟩) rfl rfl rfl rfl E rfl Tryz.szNode (jbF _ _ _ _) ?_;intro W6 Q a6;have q3:W6.cell? ⟨J.heap.size,3,none⟩=some (.string ⟨#[]⟩):=Q.cell (i:=3) vF;have f3:W6.frozen? ⟨J.heap.size,3,none⟩=false:=Q.frozen;have a8:=Hd (Q.set_same (i:=3) (.string y))) |(refine jaf 99 (.tmp 10) rfl rfl _ _ rfl (jas _ _ ⟨2,p,⟨#[]⟩,y :: jar 15⟩ rfl a8.o) ?_;refine jae (vs:=jad.cells ⟨2,p,⟨#[]⟩,y :: jar 15⟩) rfl rfl rfl rfl (((q.o.keeps z (fun h=>h)).keeps a6 (by have:=q.o.lt;omega)).set_other (p:=⟨J.heap.size,3,none⟩) (by have:=q.o.lt;show w.heap.size≠J.heap.size;omega) (.string y)) rfl Tryz.szNode (jad.one _) ?_;intro W8 K O))
   refine bodyPost_ret (jaj rfl rfl rfl (jai W8 _ ⟨2,p,⟨#[]⟩,y :: jar 15⟩ rfl K)) rfl ?_;have k1:Ext J (W6.setCell ⟨J.heap.size,3,none⟩ (.string y)):=(z.trans' a6 (fun x X e=>by have e:x=J.heap.size:=e;omega)).setCell (.inr (bL _)) _
   exact⟨rfl,(H.o.trans k1).trans' O (fun x X e=>by have e:x=w.heap.size:=e;omega)⟩
theorem jwk(w:vW)(x y:vB)(hx:x.size<=1000000)(hy:y.size<=1000000):vQ 107 #[.string x,.string y] w (jny w x y):=by
 cases h:jek x with
 | none=>exact jrb w x y hx h
 | some b=>exact jwl w x y b hx hy h
def jgb(rs:vM)(z:vB):vM:=rs.map (fun r=>if r.size=0 then jaz ⟨#[]⟩else r)++[z]
def jrx(w:vW)(rs:vM)(z:vB)(e:Ending)(w':vW):Prop:=RdNo w e w'\/∃ v,jek z=some v/\e=.returned (.tuple #[(⟨3,⟨#[]⟩,v,rs⟩:jad).V,.bool true])/\Ext w w'
theorem jqC(w:vW)(a:vV)(rs:vM)(z:vB)(hr:rs.length=16)(hz:z.size<=1000000)(hne:∀ r∈rs,r.size≠0->r≠jaz ⟨#[]⟩)(ha:RdS w a (jgb rs z)):vQ 108 #[a] w (jrx w rs z):=by
 have Q:(jgb rs z).length=17:=by simp[jgb,hr]
 rcases ha with⟨_,_,_,h0⟩ |⟨b,o,c,rfl,hb,hc,hcell⟩
 ·rw[h0]at Q;cases Q
 rw[Q]at hc ⊢;have b6:∀ (k:Nat) r,rs[k]?=some r->w.cell? ⟨b,o+k,none⟩=some (.string (if r.size=0 then jaz ⟨#[]⟩else r)):=fun k r hk=>hcell k _ (by
  unfold jgb;rw[cW (by rw[cB];exact (bW.1 hk).1),cA,hk];rfl)
 have b7:w.cell? ⟨b,o+16,none⟩=some (.string z):=hcell 16 _ (by
  unfold jgb;rw[dA (by rw[cB];omega),cB,hr];rfl)
 have c6:=Hd b6;have c7:=Hd b7;have A:=Hd hr;have c8:=Hd hne;clear b6 b7 Q hcell hr hne;go_enter Tryz.func108,Tryz.ntmps108;go_wp2_with (first |(refine jah Tryz.allocNode rfl rfl ?_;intro W3 b8 a2;refine jae (vs:=jb9 3 ⟨#[]⟩ ⟨#[]⟩ ⟨#[]⟩) rfl rfl rfl rfl b8 rfl Tryz.szNode (jbF _ _ _ _) ?_;intro W4 E a3) |(refine jah Tryz.allocNode rfl rfl ?_;intro W1 X a4))
 have h4:Ext w W4:=(a4.trans a2).trans' a3 (fun x hx e=>by have e:x=W1.heap.size:=e;have:=a4.size;omega);have h5:=(X.keeps a2 (fun h=>h)).keeps a3 (by have:=X.lt;omega)
 obtain⟨H,b9⟩:∃ g,g=W1.heap.size:=⟨_,rfl⟩
 obtain⟨g2,c0⟩:∃ g,g=w.heap.size:=⟨_,rfl⟩
 have c9:g2 < H:=by have:=X.lt;omega
 have n2:w.heap.size<=g2:=vO
 rw[<-b9]at E ⊢;rw[<-c0]at h5 ⊢;have Z:=Hd h4;have J:=Hd E;have H5:=Hd h5;clear b9 c0 h4 h5 E a4 X b8 a2 a3;go_loopw [9] (fun i wr=>jw2 w g2 H rs i wr) (fun i _=>16 - (intOf i).toNat)
 case atStart=>exact⟨0,by omega,rfl,Z.o,H5.o,J.o⟩
 case round =>
  obtain⟨k,hk,rfl,hE,c1,E⟩:=hrel
  have HE:=Hd hE;have a5:=Hd c1;have J:=Hd E;clear hE c1 E
  by_cases hlt:k < 16
  ·obtain⟨r,a0⟩:∃ r,rs[k]?=some r:=⟨_,bA (by have:=A.o;omega)⟩
   have K:=jaa (c6.o k r a0) HE.o;have b1:(k:Int) < 17:=vO
   have b4:r∈rs:=bJ a0
   obtain⟨em,a6⟩:=vE (jaz ⟨#[]⟩)
   rw[<-a6]at K;have a7:=Hd a6;have c2:=Hd a0;clear a6 a0
   by_cases h0:r.size=0
   ·rw[if_pos h0]at K
    have QX:=Hd K;clear K;go_wp2_with fail
    refine jan [0,1,2,3,4,5] Ext ExtR ExtT vY vY vY ?_;iterate 3 refine vK ?_
    refine qKL ⟨b,o+k,none⟩ _ rfl (fun w2 h2=>jac Tryz.uStr rfl (jaa (by exact QX.o) h2)) ?_;refine vS ?_;refine qKC _ 69 #[.string ⟨#[]⟩] (.string em) rfl (fun w1=>jaG (vX 69) vY) (fun w1 h1=>by rw[a7.o];exact jcv w1 ⟨#[]⟩ vI) ?_;refine vS ?_
    refine vK ?_
    refine qKE (fun w3 he=>?_);have O:=(jaq wr).trans he;have a8:=Hd (HE.o.trans O);have a9:=Hd (a5.o.keeps O (fun h=>h));have q:=Hd (J.o.keeps O (fun h=>h));clear he O;go_wp2_with fail
    go_roundw
    case rel=>exact⟨k+1,by omega,by go_num,a8.o,a9.o,by rw[joT A.o hlt r c2.o h0];exact q.o⟩
    case measure=>exact vJ
   ·rw[if_neg h0]at K
    have hq:(r.toList == em.toList)=false:=by
     rw[beq_eq_false_iff_ne,bN,bN];intro e;exact c8.o r b4 h0 (by rw[<-a7.o];exact ByteArray.ext (Array.ext' e))
    have QX:=Hd K;clear K;go_wp2_with fail
    refine jan [0,1,2,3,4,5] Ext ExtR ExtT vY vY vY ?_;iterate 3 refine vK ?_
    refine qKL ⟨b,o+k,none⟩ _ rfl (fun w2 h2=>jac Tryz.uStr rfl (jaa (by exact QX.o) h2)) ?_;refine vS ?_;refine qKC _ 69 #[.string ⟨#[]⟩] (.string em) rfl (fun w1=>jaG (vX 69) vY) (fun w1 h1=>by rw[a7.o];exact jcv w1 ⟨#[]⟩ vI) ?_;refine vS ?_
    refine vK ?_
    refine qKE (fun w3 he=>?_);have O:=(jaq wr).trans he;have a8:=Hd (HE.o.trans O);have a9:=Hd (a5.o.keeps O (fun h=>h));have q:=Hd (J.o.keeps O (fun h=>h));have K:=jaa QX.o O
    obtain⟨old,q4⟩:∃ v,w3.cell? ⟨H,3+k,none⟩=some v:=⟨_,q.o.cellL (bA (by rw[jad.cells_len _ (jnL A.o hk)];omega))⟩
    have f4:w3.frozen? ⟨H,3+k,none⟩=false:=q.o.frozen;have b2:(k:Int) < 16:=vO
    clear he O;go_wp2_with fail
    go_roundw
    case rel =>
     refine⟨k+1,by omega,by go_num,a8.o.setCell (.inr (by show w.heap.size<=H;omega)) _,a9.o.set_other (p:=⟨H,3+k,none⟩) (by show g2≠H;omega) _,?_⟩
     have:=q.o.set_same (i:=3+k) (.string r)
     rw[show (brN rs k).cells.toArray.setIfInBounds (3+k) (.string r)=((brN rs k).cells.set (3+k) (.string r)).toArray by simp,jnM A.o hlt r c2.o]at this;exact this
    case measure=>exact vJ
  ·have b5:k=16:=vO
   subst b5;have K:=jaa c7.o HE.o;go_wp2_with fail
   refine vC (jgR _ z vO) fun w4 hE=>?_
   obtain⟨o,ho⟩:=vE (jek z)
   rw[<-ho]
   obtain⟨v,hv⟩:=vE (o.getD ⟨#[]⟩)
   have a1:=J.o.keeps hE (fun h=>h);have q4:w4.cell? ⟨H,2,none⟩=some (.string ⟨#[]⟩):=a1.cellL vF;have f4:w4.frozen? ⟨H,2,none⟩=false:=a1.frozen;have q:=Hd (a1.set_same (i:=2) (.string v));have c3:=(a5.o.keeps hE (fun h=>h)).set_other (p:=⟨H,2,none⟩) (by show g2≠H;omega) (.string v);have c4:=Hd c3;have Z:=Hd (HE.o.trans hE);have c5:brN rs 16=⟨3,⟨#[]⟩,⟨#[]⟩,rs⟩:=by unfold brN jar;rw[cD (by have:=A.o;omega)];simp
   rw[c5]at q;have ec:(jad.cells ⟨3,⟨#[]⟩,⟨#[]⟩,rs⟩).toArray.setIfInBounds 2 (.string v)=(jad.cells ⟨3,⟨#[]⟩,v,rs⟩).toArray:=by simp[jad.cells]
   rw[ec]at q;clear hE a1 c3 K ec c5;cases o with
   | none =>
    change v=⟨#[]⟩at hv;subst hv;clear ho;unfold optV;go_wp2_with (first |(refine jaf 99 (.tmp 4) rfl rfl _ _ rfl (jas _ _ ⟨3,⟨#[]⟩,⟨#[]⟩,rs⟩ A.o q.o) ?_) |(refine jae (vs:=jad.cells ⟨3,⟨#[]⟩,⟨#[]⟩,rs⟩) rfl rfl rfl rfl c4.o (by rw[jad.cells_len ⟨3,⟨#[]⟩,⟨#[]⟩,rs⟩ A.o];rfl) (by rw[jad.cells_len ⟨3,⟨#[]⟩,⟨#[]⟩,rs⟩ A.o];exact Tryz.szNode) (jad.one _) ?_;intro W8 b0 b3))
    refine bodyPost_ret (jaj rfl rfl rfl (jai W8 _ ⟨3,⟨#[]⟩,⟨#[]⟩,rs⟩ A.o b0)) rfl ?_;exact .inl ⟨_,A.o,rfl,(Z.o.setCell (.inr (by show w.heap.size<=H;omega)) _).trans' b3 (fun x hx e=>by have e:x=g2:=e;omega)⟩
   | some u =>
    change v=u at hv;subst hv;have HO:=Hd ho.symm;clear ho;unfold optV;go_wp2_with (first |(refine jaf 99 (.tmp 4) rfl rfl _ _ rfl (jas _ _ ⟨3,⟨#[]⟩,v,rs⟩ A.o q.o) ?_) |(refine jae (vs:=jad.cells ⟨3,⟨#[]⟩,v,rs⟩) rfl rfl rfl rfl c4.o (by rw[jad.cells_len ⟨3,⟨#[]⟩,v,rs⟩ A.o];rfl) (by rw[jad.cells_len ⟨3,⟨#[]⟩,v,rs⟩ A.o];exact Tryz.szNode) (jad.one _) ?_;intro W8 b0 b3))
    refine bodyPost_ret (jaj rfl rfl rfl (jai W8 _ ⟨3,⟨#[]⟩,v,rs⟩ A.o b0)) rfl ?_;exact .inr ⟨v,HO.o,rfl,(Z.o.setCell (.inr (by show w.heap.size<=H;omega)) _).trans' b3 (fun x hx e=>by have e:x=g2:=e;omega)⟩
theorem jl5(xs:vM)(hl:xs.length=17)(h0:∀ x∈xs,x.size≠0):∃ rs z,xs=jgb rs z/\rs.length=16/\(∀ r∈rs,r.size≠0->r≠jaz ⟨#[]⟩)/\(∀ r∈rs,r=⟨#[]⟩\/r∈xs)/\z∈xs:=by
 obtain⟨q,z,rfl⟩:∃ q z,xs=q++[z]:=⟨xs.dropLast,xs.getLast (by intro e;rw[e]at hl;cases hl),(List.dropLast_concat_getLast _).symm⟩
 refine⟨q.map (fun x=>if x=jaz ⟨#[]⟩then ⟨#[]⟩else x),z,?_,?_,fun r A h e=>?_,fun r A=>?_,by simp⟩
 ·unfold jgb
  rw[dL]
  congr 1
  refine (List.map_id' q).symm.trans (dF fun x o=>?_);show x=if (if x=jaz ⟨#[]⟩then (⟨#[]⟩:vB)else x).size=0 then jaz ⟨#[]⟩else (if x=jaz ⟨#[]⟩then (⟨#[]⟩:vB)else x)
  by_cases hx':x=jaz ⟨#[]⟩
  ·rw[if_pos hx',if_pos (show (⟨#[]⟩:vB).size=0 from rfl)];exact hx'
  ·rw[if_neg hx',if_neg (h0 x (by simp[o]))]
 ·rw[cB];simpa using hl
 ·obtain⟨x,_,o⟩:=bI.1 A
  by_cases hx':x=jaz ⟨#[]⟩
  ·rw[if_pos hx']at o;rw[<-o]at h;exact h rfl
  ·rw[if_neg hx']at o;rw[o]at hx';exact hx' e
 ·obtain⟨x,E,o⟩:=bI.1 A
  by_cases hx':x=jaz ⟨#[]⟩
  ·rw[if_pos hx']at o;exact .inl o.symm
  ·rw[if_neg hx']at o;rw[<-o];exact .inr (by simp[E])
end
end Go.Proofs.YtepbencaoiompaaGreatDoor
