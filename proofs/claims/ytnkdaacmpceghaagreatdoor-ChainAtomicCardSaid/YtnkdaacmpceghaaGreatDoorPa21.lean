/- Lemmas; each is under no condition but those that it states. -/
import Derived.Test.YtnkdaacmpceghaaGreatDoorPa20
namespace Go.Proofs.YtnkdaacmpceghaaGreatDoor
set_option linter.unusedSimpArgs false
set_option linter.unusedVariables false
set_option maxRecDepth 100000
set_option maxHeartbeats 16000000
variable (P:PA)(p t r u:vB)(S:vT)(U:vM)(w w0:vW)(ks:Nat->PA){xs:List vV}{n k z g b L d sz c j:Nat}{a:Option Addr}{l m:vL}{Tx rs T T' New:vM}{v v' v'':vV}{W w' W' W'' W0 w6:vW}
section
open Go Go.RowKit
attribute [local go_sem] Oper.semAt_some
theorem jvH(W:vW)(x:vB):vQ 213 #[.string x] W fun e w'=>e=.returned (.tuple #[])/\w'=W:=by
 unfold vQ;go_in;go_wp2_with fail
 refine bodyPost_end (results_none rfl _ _ _) rfl ?_
 exact⟨rfl,rfl⟩
theorem jzb(W:vW)(s bm:Nat)(room:Int)(S:vT)(hs:jax W s bm room S)(k:vB)(y:Nd5)(hy:atL S k.data.toList=some y)(f:Nat)(n:jae)(hg:jaW (InlD f) n)(ht:y.2.2.text=jaV n) :
  vR 116 #[.pointer (some ⟨s,0,none⟩),.string k,.func (.func 213) #[] #[]] W (.tuple #[n.V,.bool true]):=by
 have hn:=(hg.one (inlP f)).refs;have HN:=Hd hn;have HG:=Hd hg;have HL:=Hd (n.cells_len hn);have q:=fun w (h:jax w s bm room S)=>jfR w s bm room S k h;rw[hy]at q;simp only[fM,optV]at q;have K:=Hd q;have HS:=Hd hs
 obtain⟨t,O⟩:=vE y.2.2.text
 rw[<-O]at K ht;have HT:=Hd ht;clear q hs hg ht hn hy O;go_enter Tryz.func116,Tryz.ntmps116;go_wp2_with (refine jah Tryz.allocNode rfl rfl ?_;intro W1 X H)
 refine vC (K.o W1 (HS.o.ext H)) fun w3 J=>?_;have Z:=Hd (X.keeps J (fun h=>h));have a1:=Hd (H.trans J);clear J X H;go_wp2_with fail
 refine (jvH w3 t).mono ?_;rintro e w4 ⟨rfl,rfl⟩;go_wp2_with fail
 rw[HT.o];refine vC (jer (inlP f) w4 n HG.o) fun w5 J=>?_;rw[<-HT.o];have A:=Z.o.keeps J (fun h=>h);have a2:=Hd J;clear J Z;unfold jae.V;go_wp2_with (first |(refine jah Tryz.allocNode rfl rfl ?_;intro W5 a5 a3;refine jad (vs:=n.cells) rfl rfl rfl rfl a5 (by rw[HL.o];rfl) (by rw[HL.o];exact Tryz.szNode) n.one ?_;intro W6 a7 a4;have a0:=(A.keeps a3 (fun h=>h)).keeps a4 (by have:=A.lt;omega)) |(refine jaf 206 (.tmp 10) rfl rfl _ _ rfl (jap _ _ n HN.o a7) ?_) |(refine jad (vs:=n.cells) rfl rfl rfl rfl a0 (by rw[HL.o];rfl) (by rw[HL.o];exact Tryz.szNode) n.one ?_;intro W8 a8 a9))
 refine bodyPost_ret (jan rfl rfl rfl (jat W8 _ n HN.o a8)) rfl ?_;have b0:Ext W W6:=(((a1.o.trans a2.o).trans a3)).trans' a4 (fun x hx e=>by have e:x=w5.heap.size:=e;have:=a2.o.size;have:=a1.o.size;omega)
 exact⟨rfl,b0.trans' a9 (fun x hx e=>by have e:x=W.heap.size:=e;omega)⟩
section
variable (w0:vW) (s bm:Nat) (room:Int) (S:vT) (rb:Nat)
structure RdS0:Prop where
 st:jax w0 s bm room S
 nodes:jfn S
 new:w0.heap.size<=rb
def joN(f:Nat):Prop:=∀ n d,jaW (InlD d) n->∀ (W:vW) (left:Nat),Ext w0 W->RdAt W rb s left->left<=f->left<=160->vQ 214 #[.pointer (some ⟨rb,0,none⟩),n.V] W (RdO W rb s (jbY (gRef S) f n left))
def RefC(f:Nat):Prop:=∀ r d,MayP (InlD d) r->∀ (W:vW) (left:Nat),Ext w0 W->RdAt W rb s left->left<=f->left<=160->vQ 233 #[.pointer (some ⟨rb,0,none⟩),.string r] W (RdO W rb s ((gRef S r).bind fun m=>jbY (gRef S) f m left))
noncomputable def gHash(h:vB):Option jae:=(atL S h.data.toList).map fun x=>nodeOf x.2.2.text
def jw6(f:Nat):Prop:=∀ h,∀ (W:vW) (left:Nat),Ext w0 W->RdAt W rb s left->left<=f->left<=160->vQ 173 #[.pointer (some ⟨rb,0,none⟩),.string h] W (RdO W rb s ((gHash S h).bind fun m=>jbY (gRef S) f m left))
end
theorem RdAt.ext{W W':vW}{rb s left:Nat}(h:RdAt W rb s left)(e:Ext W W'):RdAt W' rb s left:=h.keeps e (fun e=>e)
theorem jqn(w0:vW)(s bm:Nat)(room:Int)(S:vT)(rb:Nat)(hR:RdS0 w0 s bm room S rb)(h:vB)(W:vW)(left:Nat)(q:Ext w0 W)(hr:RdAt W rb s left)(ha:atL S h.data.toList=none) :
  vQ 173 #[.pointer (some ⟨rb,0,none⟩),.string h] W (RdO W rb s none):=by
 have A:=jo5 W s bm room S (hR.st.ext q) (.func (.func 213) #[] #[]) h ha;have J:=Hd A;have HR:=Hd hr;unfold RdAt at hr;have q0:=hr.cell (i:=0) (v:=.pointer (some ⟨s,0,none⟩)) vF;clear A hr hR q ha;go_enter Tryz.func173,Tryz.ntmps173;go_wp2_with fail
 refine J.o.mono ?_;rintro e w1 ⟨rfl,q⟩;have Z:=Hd q;clear q;unfold jae.V;go_wp2_with (first |(refine jah Tryz.allocNode rfl rfl ?_;intro W5 K O;refine jad (vs:=jas.cells) rfl rfl rfl rfl K rfl Tryz.szNode jas.one ?_;intro W6 a0 X))
 go_ret2;have H:Ext W W6:=(Z.o.trans O).trans' X (fun x hx e=>by have e:x=w1.heap.size:=e;have:=Z.o.size;omega)
 exact⟨H.mono (fun _ _ e=>e.elim),_,left,rfl,.inl rfl,HR.o.ext H⟩
theorem jqm(w0:vW)(s bm:Nat)(room:Int)(S:vT)(rb:Nat)(hR:RdS0 w0 s bm room S rb)(f:Nat)(hN:joN w0 s S rb f)(h:vB)(W:vW)(left:Nat)(J:Ext w0 W)(hr:RdAt W rb s left)(hf:left<=f)(h160:left<=160)(y:Nd5)(ha:atL S h.data.toList=some y) :
  vQ 173 #[.pointer (some ⟨rb,0,none⟩),.string h] W (RdO W rb s (jbY (gRef S) f (nodeOf y.2.2.text) left)):=by
 obtain⟨n0,K⟩:=hR.nodes y (jaF ha).1
 have hn:=jcc K
 obtain⟨n,O⟩:=vE (nodeOf y.2.2.text)
 rw[<-O]at hn ⊢
 obtain⟨ht,d,hg⟩:=hn
 have H:=(hg.one (inlP d)).refs;have a7:=Hd H;have HL:=Hd (n.cells_len H);have X:=jzb W s bm room S (hR.st.ext J) h y ha d n hg ht;have a8:=Hd X;have HR:=Hd hr;have Z:=Hd (show ∀ w,Ext W w->vQ 214 #[.pointer (some ⟨rb,0,none⟩),n.V] w (RdO w rb s (jbY (gRef S) f n left))from fun w e=>hN n d hg w left (J.trans e) (hr.ext e) hf h160);unfold RdAt at hr;have q0:=hr.cell (i:=0) (v:=.pointer (some ⟨s,0,none⟩)) vF
 obtain⟨o,ho⟩:=vE (jbY (gRef S) f n left)
 rw[<-ho]at Z ⊢;clear X hr hR J ha K O ht hg H hN ho;go_enter Tryz.func173,Tryz.ntmps173;go_wp2_with fail
 refine a8.o.mono ?_;rintro e w1 ⟨rfl,J⟩;have HE:=Hd J;clear J;unfold jae.V;go_wp2_with (first |(refine jah Tryz.allocNode rfl rfl ?_;intro W5 a0 a1;refine jad (vs:=n.cells) rfl rfl rfl rfl a0 (by rw[HL.o];rfl) (by rw[HL.o];exact Tryz.szNode) n.one ?_;intro W6 a2 a3) |(refine jaf 206 (.tmp 6) rfl rfl _ _ rfl (jap _ _ n a7.o a2) ?_))
 have a4:Ext W W6:=(HE.o.trans a1).trans' a3 (fun x hx e=>by have e:x=w1.heap.size:=e;have:=HE.o.size;omega);have HX:=Hd a4;clear a4 a0 a1 a2 a3;refine (Z.o W6 HX.o).mono ?_;intro e w7 hO
 obtain⟨hk,a5⟩:=hO
 cases o with
 | none =>
  obtain⟨v,l,rfl,hv,q⟩:=a5
  have A:=Hd (bA hk (bA hv q));clear hk q;rcases hv with rfl |⟨T,x,rfl⟩
  ·go_wp2_with fail
   go_ret2
   exact⟨(HX.o.mono (fun _ _ e=>e.elim)).trans A.o.1,_,l,rfl,.inl rfl,A.o.2.2⟩
  ·go_wp2_with fail
   go_ret2
   exact⟨(HX.o.mono (fun _ _ e=>e.elim)).trans A.o.1,_,l,rfl,.inr ⟨T,x,rfl⟩,A.o.2.2⟩
 | some Pl =>
  obtain⟨P,l⟩:=Pl
  obtain⟨T,x,rfl,hP,q⟩:=a5
  have A:=Hd (bA hk (bA hP q));clear hk hP q;go_wp2_with fail
  go_ret2
  exact⟨(HX.o.mono (fun _ _ e=>e.elim)).trans A.o.1,T,x,rfl,A.o.2.1.mono (fun z hz=>⟨bE HX.o.size hz.1,hz.2⟩),A.o.2.2⟩
theorem jrr(w0:vW)(s bm:Nat)(room:Int)(S:vT)(rb:Nat)(hR:RdS0 w0 s bm room S rb)(f:Nat)(hN:joN w0 s S rb f):jw6 w0 s S rb f:=by
 intro h W left q A H e;unfold gHash;cases ha:atL S h.data.toList with
 | none=>exact jqn w0 s bm room S rb hR h W left q A ha
 | some y=>exact jqm w0 s bm room S rb hR f hN h W left q A H e y ha
end
section
open Go Go.RowKit
attribute [local go_sem] Oper.semAt_some
theorem jgg:jed r=jcM r:=by
 unfold jed jcM;cases cutN r <;> rfl
theorem jtY(s:Nat)(S:vT)(rb:Nat)(f:Nat)(hH:jw6 w0 s S rb f)(r h:vB)(hrh:jcM r=some h)(hs:r.size<=1000)(W:vW)(left:Nat)(J:Ext w0 W)(hr:RdAt W rb s left)(hf:left<=f)(h160:left<=160) :
  vQ 233 #[.pointer (some ⟨rb,0,none⟩),.string r] W (RdO W rb s ((gHash S h).bind fun m=>jbY (gRef S) f m left)):=by
 have q:=jdf W r vO (jpO ((jgg r).trans hrh));rw[jgg,hrh]at q;unfold optV at q;have HA:=Hd q;have Z:=Hd (show ∀ w,Ext W w->vQ 173 #[.pointer (some ⟨rb,0,none⟩),.string h] w (RdO w rb s ((gHash S h).bind fun m=>jbY (gRef S) f m left))from fun w e=>hH h w left (J.trans e) (hr.ext e) hf h160)
 obtain⟨o,ho⟩:=vE ((gHash S h).bind fun m=>jbY (gRef S) f m left)
 rw[<-ho]at Z ⊢;clear hH hrh hs J hr hf h160 q ho;go_enter Tryz.func233,Tryz.ntmps233;go_wp2_with fail
 refine HA.o.mono ?_;rintro e w1 ⟨rfl,J⟩;have K:=Hd J;clear J;go_wp2_with fail
 refine (Z.o w1 K.o).mono ?_;intro e w7 hO
 obtain⟨X,O⟩:=hO
 cases o with
 | none =>
  obtain⟨v,l,rfl,hv,A⟩:=O
  have H:=Hd (bA X (bA hv A));clear X A;rcases hv with rfl |⟨T,x,rfl⟩
  ·go_wp2_with fail
   go_ret2
   exact⟨(K.o.mono (fun _ _ e=>e.elim)).trans H.o.1,_,l,rfl,.inl rfl,H.o.2.2⟩
  ·go_wp2_with fail
   go_ret2
   exact⟨(K.o.mono (fun _ _ e=>e.elim)).trans H.o.1,_,l,rfl,.inr ⟨T,x,rfl⟩,H.o.2.2⟩
 | some Pl =>
  obtain⟨P,l⟩:=Pl
  obtain⟨T,x,rfl,hP,A⟩:=O
  have H:=Hd (bA X (bA hP A));clear X hP A;go_wp2_with fail
  go_ret2
  exact⟨(K.o.mono (fun _ _ e=>e.elim)).trans H.o.1,T,x,rfl,H.o.2.1.mono (fun z hz=>⟨bE K.o.size hz.1,hz.2⟩),H.o.2.2⟩
theorem jwi(s:Nat)(S:vT)(rb:Nat)(f:Nat)(hN:joN w0 s S rb f)(r:vB)(d:Nat)(n:jae)(hi:InlD (d+1) r n)(hs:r.size<=1000)(W:vW)(left:Nat)(hE:Ext w0 W)(hr:RdAt W rb s left)(hf:left<=f)(h160:left<=160) :
  vQ 233 #[.pointer (some ⟨rb,0,none⟩),.string r] W (RdO W rb s (jbY (gRef S) f n left)):=by
 have A:=jdf W r vO (fun e=>by obtain⟨q,h1,_⟩:=(inlP (d+1)).nohash r n hi;rw[e]at h1;cases h1);rw[jgg,jes (inlP (d+1)) hi]at A;unfold optV at A;have HA:=Hd A;have K:=(hi.1.one (inlP d)).refs;have a5:=Hd K;have HL:=Hd (n.cells_len K);have HI:=Hd (fun w=>(inlP (d+1)).inl r n hi w);have O:=Hd (show ∀ w,Ext W w->vQ 214 #[.pointer (some ⟨rb,0,none⟩),n.V] w (RdO w rb s (jbY (gRef S) f n left))from fun w e=>hN n d hi.1 w left (hE.trans e) (hr.ext e) hf h160)
 obtain⟨o,ho⟩:=vE (jbY (gRef S) f n left)
 rw[<-ho]at O ⊢;clear hN hi hs hE hr hf h160 A K ho;go_enter Tryz.func233,Tryz.ntmps233;go_wp2_with fail
 refine HA.o.mono ?_;rintro e a7 ⟨rfl,X⟩;have a8:=Hd X;clear X;go_wp2_with fail
 refine vH (HI.o a7) fun w1 hE=>?_;have HE:=Hd (a8.o.trans hE);unfold jae.V;go_wp2_with (first |(refine jah Tryz.allocNode rfl rfl ?_;intro W5 Z a0;refine jad (vs:=n.cells) rfl rfl rfl rfl Z (by rw[HL.o];rfl) (by rw[HL.o];exact Tryz.szNode) n.one ?_;intro W6 a1 a2) |(refine jaf 206 (.tmp 8) rfl rfl _ _ rfl (jap _ _ n a5.o a1) ?_))
 have a3:Ext W W6:=(HE.o.trans a0).trans' a2 (fun x hx e=>by have e:x=w1.heap.size:=e;have:=HE.o.size;omega);have HX:=Hd a3;clear a3 Z a0 a1 a2;refine (O.o W6 HX.o).mono ?_;intro e w7 hO
 obtain⟨hk,a4⟩:=hO
 cases o with
 | none =>
  obtain⟨v,l,rfl,hv,H⟩:=a4
  have J:=Hd (bA hk (bA hv H));clear hk H;rcases hv with rfl |⟨T,x,rfl⟩
  ·go_wp2_with fail
   go_ret2
   exact⟨(HX.o.mono (fun _ _ e=>e.elim)).trans J.o.1,_,l,rfl,.inl rfl,J.o.2.2⟩
  ·go_wp2_with fail
   go_ret2
   exact⟨(HX.o.mono (fun _ _ e=>e.elim)).trans J.o.1,_,l,rfl,.inr ⟨T,x,rfl⟩,J.o.2.2⟩
 | some Pl =>
  obtain⟨P,l⟩:=Pl
  obtain⟨T,x,rfl,hP,H⟩:=a4
  have J:=Hd (bA hk (bA hP H));clear hk hP H;go_wp2_with fail
  go_ret2
  exact⟨(HX.o.mono (fun _ _ e=>e.elim)).trans J.o.1,T,x,rfl,J.o.2.1.mono (fun z hz=>⟨bE HX.o.size hz.1,hz.2⟩),J.o.2.2⟩
theorem jyB(s bm:Nat)(room:Int)(S:vT)(rb:Nat)(hR:RdS0 w0 s bm room S rb)(f:Nat)(hN:joN w0 s S rb f):RefC w0 s S rb f:=by
 intro r d A W left H J K e;have O:r.size<=1000:=by have:=A.size (inlP d);omega
 unfold gRef;rcases A with hh |⟨m,hi⟩
 ·obtain⟨h,X,Z⟩:=hh
  have q:jcM r=some h:=by rw[Z];exact jgh X
  rw[q];exact jtY w0 s S rb f (jrr w0 s bm room S rb hR f hN) r h q O W left H J K e
 ·cases d with
  | zero=>exact hi.elim
  | succ d =>
   rw[jes (inlP (d+1)) hi];show Calls _ _ _ W (RdO W rb s (jbY (gRef S) f (inlOf r) left));rw[jmH w0 hi];exact jwi w0 s S rb f hN r d m hi O W left H J K e
theorem jkE(W:vW)(rb s:Nat)(n:jae)(hr:RdAt W rb s 0):vQ 214 #[.pointer (some ⟨rb,0,none⟩),n.V] W (RdO W rb s none):=by
 have A:=hr.lt;have q:=hr.ext ((ExtR W).alloc (.cells n.cells.toArray 206));have H:=Hd q;unfold RdAt at q;have J:=q.cell (i:=1) (v:=.int .i64 0) vF;clear q hr;unfold jae.V;unfold vQ;go_in;go_wp2_with fail
 go_ret2
 exact⟨((ExtR W).alloc _).mono (fun _ _ e=>e.elim),_,0,rfl,.inl rfl,H.o⟩
theorem jq2(W:vW)(rb s k:Nat)(hk:k<=160)(q v:vB)(rs:vM)(hr:RdAt W rb s (k+1)):vQ 214 #[.pointer (some ⟨rb,0,none⟩),(jae.mk 1 q v rs).V] W (RdO W rb s (some (.leaf q v,k))):=by
 have a8:=hr.lt;have a9:W.heap.size≠rb:=vO
 obtain⟨Z,A⟩:=vE (W.setCell ⟨rb,1,none⟩ (.int .i64 (k:Int)))
 obtain⟨K,H⟩:=vE (Z.alloc (.cells (jae.cells ⟨1,q,v,rs⟩).toArray 206))
 have a1:RdAt Z rb s k:=by rw[A];exact Blk.set_same (i:=1) hr _
 have a2:Z.heap.size=W.heap.size:=by rw[A];exact fC _ _ _
 have J:Ext Z K:=by rw[H];exact (ExtR Z).alloc _
 have a0:Blk K W.heap.size (.cells (jae.cells ⟨1,q,v,rs⟩).toArray 206):=by rw[<-a2,H];exact Blk.new Z _
 have O:RdAt K rb s k:=a1.ext J;have X:jac (fun z=>z=rb) W K:=(show jac (fun z=>z=rb) W Z by rw[A];exact jac.oneSet _ ⟨rb,1,none⟩ _).trans (J.mono (fun _ _ e=>e.elim));have a5:=Hd (bA O (bA X a0));have hA:=hr.ext ((ExtR W).alloc (.cells (jae.cells ⟨1,q,v,rs⟩).toArray 206));unfold RdAt at hA;have q1:=hA.cell (i:=1) (v:=.int .i64 ((k:Int)+1)) vF;have f1:(W.alloc (.cells (jae.cells ⟨1,q,v,rs⟩).toArray 206)).frozen? ⟨rb,1,none⟩=false:=hA.frozen;have e0:(jae.cells ⟨1,q,v,rs⟩)[0]?=some (.int .i64 1):=rfl;have e1:(jae.cells ⟨1,q,v,rs⟩)[1]?=some (.string q):=rfl;have e2:(jae.cells ⟨1,q,v,rs⟩)[2]?=some (.string v):=rfl;have HW:=Hd (bA A H);clear hr hA a1 J O X a0 A H;unfold jae.V;unfold vQ;go_in;go_wp2_with fail
 go_ret2
 obtain⟨A,H⟩:=HW.o
 rw[<-A, <-H]
 obtain⟨O,X,a0⟩:=a5.o
 have a3:Ext K (K.alloc (.cells #[.string q,.string v] 378)):=(ExtR K).alloc _;have a7:=Blk.new K (.cells #[.string q,.string v] 378);have hz:K.heap.size=W.heap.size+1:=by rw[H,bF,a2]
 have a4:Blk (K.alloc (.cells #[.string q,.string v] 378)) (W.heap.size+1) (.cells #[.string q,.string v] 378):=by rw[<-hz];exact a7
 exact⟨X.trans (a3.mono (fun _ _ e=>e.elim)),_,_,rfl,⟨_,rfl,⟨dV _,a4.lt⟩,a4⟩,O.ext a3⟩
theorem jq4(W:vW)(rb s k:Nat)(hk:k<=160)(q v:vB)(rs:vM)(hr:RdAt W rb s (k+1)):vQ 214 #[.pointer (some ⟨rb,0,none⟩),(jae.mk 0 q v rs).V] W (RdO W rb s (some (.no,k))):=by
 have a3:=hr.lt;have a4:W.heap.size≠rb:=vO
 obtain⟨X,A⟩:=vE (W.setCell ⟨rb,1,none⟩ (.int .i64 (k:Int)))
 obtain⟨W2,H⟩:=vE (X.alloc (.cells (jae.cells ⟨0,q,v,rs⟩).toArray 206))
 have a0:RdAt X rb s k:=by rw[A];exact Blk.set_same (i:=1) hr _
 have a1:X.heap.size=W.heap.size:=by rw[A];exact fC _ _ _
 have J:Ext X W2:=by rw[H];exact (ExtR X).alloc _
 have Z:Blk W2 W.heap.size (.cells (jae.cells ⟨0,q,v,rs⟩).toArray 206):=by rw[<-a1,H];exact Blk.new X _
 have K:RdAt W2 rb s k:=a0.ext J;have O:jac (fun z=>z=rb) W W2:=(show jac (fun z=>z=rb) W X by rw[A];exact jac.oneSet _ ⟨rb,1,none⟩ _).trans (J.mono (fun _ _ e=>e.elim));have a2:=Hd (bA K (bA O Z));have hA:=hr.ext ((ExtR W).alloc (.cells (jae.cells ⟨0,q,v,rs⟩).toArray 206));unfold RdAt at hA;have q1:=hA.cell (i:=1) (v:=.int .i64 ((k:Int)+1)) vF;have f1:(W.alloc (.cells (jae.cells ⟨0,q,v,rs⟩).toArray 206)).frozen? ⟨rb,1,none⟩=false:=hA.frozen;have e0:(jae.cells ⟨0,q,v,rs⟩)[0]?=some (.int .i64 0):=rfl;have HW:=Hd (bA A H);clear hr hA a0 J K O Z A H;unfold jae.V;unfold vQ;go_in;go_wp2_with fail
 go_ret2
 obtain⟨A,H⟩:=HW.o
 rw[<-A, <-H]
 obtain⟨K,O,Z⟩:=a2.o
 exact⟨O,_,_,rfl,rfl,K⟩
theorem jtJ(s:Nat)(S:vT)(rb f:Nat)(hRef:RefC w0 s S rb f)(hnew:w0.heap.size<=rb)(W:vW)(k:Nat)(hE0:Ext w0 W)(hk:k<=f)(h160:k<=159)(q v r:vB)(rs:vM)(d:Nat)(hm:MayP (InlD d) r)(hr:RdAt W rb s (k+1)):vQ 214 #[.pointer (some ⟨rb,0,none⟩),(jae.mk 2 q v (r :: rs)).V] W (RdO W rb s ((gRef S r).bind fun m=>(jbY (gRef S) f m k).map fun x=>(.ext q x.1,x.2))):=by
 have c2:=hr.lt;have b7:W.heap.size≠rb:=vO
 obtain⟨W1,H⟩:=vE (W.setCell ⟨rb,1,none⟩ (.int .i64 (k:Int)))
 obtain⟨K,J⟩:=vE (W1.alloc (.cells (jae.cells ⟨2,q,v,r :: rs⟩).toArray 206))
 have a7:RdAt W1 rb s k:=by rw[H];exact Blk.set_same (i:=1) hr _
 have a8:W1.heap.size=W.heap.size:=by rw[H];exact fC _ _ _
 have O:Ext W1 K:=by rw[J];exact (ExtR W1).alloc _
 have a9:Blk K W.heap.size (.cells (jae.cells ⟨2,q,v,r :: rs⟩).toArray 206):=by rw[<-a8,J];exact Blk.new W1 _
 have a1:RdAt K rb s k:=a7.ext O;have a3:jac (fun z=>z=rb) W K:=(show jac (fun z=>z=rb) W W1 by rw[H];exact jac.oneSet _ ⟨rb,1,none⟩ _).trans (O.mono (fun _ _ e=>e.elim));have a4:=Hd (bA a1 (bA a3 a9));have hA:=hr.ext ((ExtR W).alloc (.cells (jae.cells ⟨2,q,v,r :: rs⟩).toArray 206));unfold RdAt at hA;have q1:=hA.cell (i:=1) (v:=.int .i64 ((k:Int)+1)) vF;have f1:(W.alloc (.cells (jae.cells ⟨2,q,v,r :: rs⟩).toArray 206)).frozen? ⟨rb,1,none⟩=false:=hA.frozen;have e0:(jae.cells ⟨2,q,v,r :: rs⟩)[0]?=some (.int .i64 2):=rfl;have e1:(jae.cells ⟨2,q,v,r :: rs⟩)[1]?=some (.string q):=rfl;have e3:(jae.cells ⟨2,q,v,r :: rs⟩)[3]?=some (.string r):=rfl;have b0:Ext w0 K:=hE0.trans' a3 (fun x hx e=>by have e:x=rb:=e;omega);have HC:=Hd (hRef r d hm K k b0 a1 hk vO);have b8:(jae.cells ⟨2,q,v,r :: rs⟩).toArray.size=(jae.cells ⟨2,q,v,r :: rs⟩).length:=by simp
 have a0:rb < K.heap.size:=a1.lt;have c3:=Hd a0
 obtain⟨o,ho⟩:=vE ((gRef S r).bind fun m=>jbY (gRef S) f m k)
 have b1:((gRef S r).bind fun m=>(jbY (gRef S) f m k).map fun x=>(PA.ext q x.1,x.2))=o.map fun x=>(PA.ext q x.1,x.2):=by
  rw[ho];cases gRef S r with
  | none=>rfl
  | some m=>rfl
 rw[<-ho]at HC;rw[b1];have HW:=Hd (bA H J);have b2:K.heap.size=W.heap.size+1:=by rw[J,bF,a8]
 have b9:=Hd b2;have c0:=hr;clear hRef hnew hE0 hm hr hA a7 O a1 a3 a9 b0 ho b1 b2 b8 a0 c0;unfold jae.V;unfold vQ;go_in;go_wp2_with fail
 rw[<-H, <-J];clear H J q1 f1;refine HC.o.mono ?_;intro e X hO
 obtain⟨Z,b3⟩:=hO
 have b4:=a4.o.2.2.keeps Z (fun e=>b7 (by exact e));have q7:=b4.cellL (i:=1) e1;have a5:=Hd (a4.o.2.1.trans Z);have b5:=a4.o.2.2.lt;have c1:=Hd (show W.heap.size<=X.heap.size/\W.heap.size+1=K.heap.size/\K.heap.size<=X.heap.size from⟨bE (Nat.le_of_lt b5) Z.size,b9.o.symm,Z.size⟩);clear Z b4 b5;cases o with
 | none =>
  obtain⟨v7,l,rfl,hv,A⟩:=b3
  have HZ:=Hd A;clear A;rcases hv with rfl |⟨T,x,rfl⟩
  ·go_wp2_with fail
   go_ret2
   exact⟨a5.o.trans (((ExtR X).alloc _).mono (fun _ _ e=>e.elim)),_,l,rfl,.inr ⟨_,_,rfl⟩,HZ.o.ext ((ExtR X).alloc _)⟩
  ·go_wp2_with fail
   go_ret2
   exact⟨a5.o.trans (((ExtR X).alloc _).mono (fun _ _ e=>e.elim)),_,l,rfl,.inr ⟨_,_,rfl⟩,HZ.o.ext ((ExtR X).alloc _)⟩
 | some Pl =>
  obtain⟨P,l⟩:=Pl
  obtain⟨T,x,rfl,hP,A⟩:=b3
  have HZ:=Hd (bA hP A);clear hP A;go_wp2_with fail
  go_ret2
  obtain⟨hP,A⟩:=HZ.o
  have a2:Ext X (X.alloc (.cells #[.string q,.iface T x] 381)):=(ExtR X).alloc _;have b6:=Blk.new X (.cells #[.string q,.iface T x] 381)
  obtain⟨z1,z2,z3⟩:=c1.o
  refine⟨a5.o.trans (a2.mono (fun _ _ e=>e.elim)),_,_,rfl,⟨_,T,x,jjT K X,rfl,⟨by omega,b6.lt⟩,b6,hP.keeps a2 _ _ _ (fun _ _ e=>e),fun e=>by have:=e.2;omega,fun z hz=>⟨by have:=hz.1;omega,bC hz.2 a2.size⟩⟩,A.ext a2⟩
theorem jiO{R:jae->Nat->Option (PA × Nat)}{G:vB->Option jae}{rs:vM}{k left:Nat}(h:je1 R G rs k left=none):∀ d,je1 R G rs (k+d) left=none
 | 0=>h
 | d+1=>by
  show je1 R G rs (k+d+1) left=none;rw[jdM,jiO h d];rfl
structure jxd(W:World)(rb s bb:Nat)(G:vB->Option jae)(R:jae->Nat->Option (PA × Nat))(v:vB)(rs:vM)(left:Nat)(iv:Value)(wr:World)(k:Nat)(ks:Nat->PA)(l:Nat)(vk:Nat->Value)(Dk:Nat->Nat->Prop)(D:Nat->Prop):Prop where
 le:k<=16
 iv:iv=.int .i64 (k:Int)
 rd:je1 R G rs k left=some (ks,l)
 br:BrAt v ks bb vk Dk D wr
 since:∀ z,D z->W.heap.size<=z
 rdr:RdAt wr rb s l
 kp:jac (fun z=>z=rb) W wr
theorem jjG{n:jae}(hr:n.refs.length=16)(hB:Blk W b (.cells n.cells.toArray 206)):(Instr.loadAt 204 (.pointer (some ⟨b,3,none⟩))).run Tryz.prog W=.ok (.agg (n.refs.map Value.string).toArray) W:=by
 have e:W.rangeAt b 3 (n.refs.map Value.string):=fun j v A=>hB.cellL (by
  unfold jae.cells;rw[show 3+j=j+3 by omega];simpa using A)
 have q:=run_loadVar_mid (P:=Tryz.prog) W b 3 204 _ _ e Tryz.uRefs rfl (by simp only[bS,hr];exact Tryz.iRefs);simp[Instr.loadAt,Instr.sureAddr,bK,Result.andThen,q]
theorem jv3(s:Nat)(S:vT)(rb f:Nat)(hRef:RefC w0 s S rb f)(hnew:w0.heap.size<=rb)(W:vW)(k0:Nat)(hE0:Ext w0 W)(hk:k0<=f)(h160:k0<=159)(q v:vB)(rs:vM)(d:Nat)(hrl:rs.length=16)(hm:∀ r∈rs,r.size≠0->MayP (InlD d) r)(hr:RdAt W rb s (k0+1)):vQ 214 #[.pointer (some ⟨rb,0,none⟩),(jae.mk 3 q v rs).V] W (RdO W rb s ((je1 (jbY (gRef S) f) (gRef S) rs 16 k0).map fun x=>(.br v x.1,x.2))):=by
 have e1:=hr.lt;have f3:W.heap.size≠rb:=vO
 obtain⟨W1,A⟩:=vE (W.setCell ⟨rb,1,none⟩ (.int .i64 (k0:Int)))
 obtain⟨W2,H⟩:=vE (W1.alloc (.cells (jae.cells ⟨3,q,v,rs⟩).toArray 206))
 have c4:RdAt W1 rb s k0:=by rw[A];exact Blk.set_same (i:=1) hr _
 have b2:W1.heap.size=W.heap.size:=by rw[A];exact fC _ _ _
 have a0:Ext W1 W2:=by rw[H];exact (ExtR W1).alloc _
 have b3:Blk W2 W.heap.size (.cells (jae.cells ⟨3,q,v,rs⟩).toArray 206):=by rw[<-b2,H];exact Blk.new W1 _
 have b4:RdAt W2 rb s k0:=c4.ext a0;have b5:jac (fun z=>z=rb) W W2:=(show jac (fun z=>z=rb) W W1 by rw[A];exact jac.oneSet _ ⟨rb,1,none⟩ _).trans (a0.mono (fun _ _ e=>e.elim));have e3:=Hd (bA b4 (bA b5 b3));have hA:=hr.ext ((ExtR W).alloc (.cells (jae.cells ⟨3,q,v,rs⟩).toArray 206));unfold RdAt at hA;have q1:=hA.cell (i:=1) (v:=.int .i64 ((k0:Int)+1)) vF;have f1:(W.alloc (.cells (jae.cells ⟨3,q,v,rs⟩).toArray 206)).frozen? ⟨rb,1,none⟩=false:=hA.frozen;have e0:(jae.cells ⟨3,q,v,rs⟩)[0]?=some (.int .i64 3):=rfl;have e2:(jae.cells ⟨3,q,v,rs⟩)[2]?=some (.string v):=rfl
 obtain⟨W3,K⟩:=vE (W2.alloc (.cells #[.string v,.nilIface,.nilIface,.nilIface,.nilIface,.nilIface,.nilIface,.nilIface,.nilIface,.nilIface,.nilIface,.nilIface,.nilIface,.nilIface,.nilIface,.nilIface,.nilIface] 385))
 have Z:Ext W2 W3:=by rw[K];exact (ExtR W2).alloc _
 have c5:W2.heap.size=W.heap.size+1:=by rw[H,bF,b2]
 have b6:Blk W3 (W.heap.size+1) (.cells (brC v (fun _=>.nilIface)).toArray 385):=by rw[<-c5,K];exact Blk.new W2 _
 have a1:BrAt v (fun _=>.nil) (W.heap.size+1) (fun _=>.nilIface) (fun _ _=>False) (fun x=>x=W.heap.size+1) W3:=
  ⟨rfl,b6,fun i _=>⟨rfl,fun e=>e,fun _ e=>e.elim⟩,fun _ _ _ _ _ _ e=>e.elim,fun x e=>by rw[e];exact b6.lt⟩
 have b7:=jjG (n:=⟨3,q,v,rs⟩) hrl (b3.keeps Z (fun e=>e));have c7:=Hd (show jxd W rb s (W.heap.size+1) (gRef S) (jbY (gRef S) f) v rs k0 (.int .i64 0) W3 0 (fun _=>.nil) k0 (fun _=>.nilIface) (fun _ _=>False) (fun x=>x=W.heap.size+1)from⟨by omega,rfl,rfl,a1,fun z e=>by rw[e];omega,b4.ext Z,b5.trans (Z.mono (fun _ _ e=>e.elim))⟩);have c3:=Hd hRef;have HM:=Hd hm;have e4:=Hd hrl;have e5:=Hd hE0;have e6:=Hd hnew;have e7:=Hd e1;have HF:=Hd hk
 obtain⟨o,ho⟩:=vE ((je1 (jbY (gRef S) f) (gRef S) rs 16 k0).map fun x=>(PA.br v x.1,x.2))
 have HO:=Hd ho;rw[<-ho];have HW:=Hd (bA A (bA H K));have c8:=Hd (show W.heap.size+1≠rb by omega);rw[K,H,A]at b7;clear hRef hnew hE0 hm hr hA c4 a0 b4 b5 b3 A H K Z b6 a1 hrl ho c5 hk;unfold jae.V;unfold vQ;go_in;go_wp2_with (refine jaf 204 (.tmp 59) rfl rfl _ _ rfl b7 ?_)
 obtain⟨A,H,K⟩:=HW.o
 rw[<-A, <-H, <-K]
 obtain⟨bb,c9⟩:=vE (W.heap.size+1)
 rw[<-c9]at c7 c8 ⊢;clear A H K HW b7 q1 f1 b2 c9 e3;go_loopw [61] (fun iv wr=>∃ k ks l vk Dk D,jxd W rb s bb (gRef S) (jbY (gRef S) f) v rs k0 iv wr k ks l vk Dk D) (fun iv _=>16 - (intOf iv).toNat)
 case atStart=>exact⟨0,_,_,_,_,_,c7.o⟩
 case round =>
  obtain⟨k,ks,l,vk,Dk,D,h⟩:=hrel
  obtain⟨f4,rfl,d0,a1,d1,d2,d3⟩:=h
  have b8:=Hd d0;have O:=Hd a1;have a2:=Hd d1;have b9:=Hd d2;have X:=Hd d3;clear d0 a1 d1 d2 d3
  by_cases hlt:k < 16
  ·obtain⟨r,a3⟩:∃ r,rs[k]?=some r:=⟨_,bB (by have:=e4.o;omega)⟩
   have f5:(Instr.index 204 (.agg (rs.map Value.string).toArray) (.int .i64 (k:Int))).run Tryz.prog wr=.ok (.string r) wr:=jcZ Tryz.uRefs Tryz.strOne Tryz.strAgg _ k hlt _ (by rw[bV,a3];rfl) wr;have c0:rs.getD k ⟨#[]⟩=r:=by rw[bJ,a3];rfl
   have J:=jdM (jbY (gRef S) f) (gRef S) rs k k0;rw[b8.o,c0]at J;have J:je1 (jbY (gRef S) f) (gRef S) rs (k+1) k0=if r.size=0 then some (ks,l)else (gRef S r).bind fun m=>(jbY (gRef S) f m l).map fun y=>(setK ks k y.1,y.2):=J
   by_cases hr0:r.size=0
   ·rw[if_pos hr0]at J
    have e8:=ja5 hr0;subst e8;have f6:(⟨#[]⟩:vB).toList.isEmpty=true:=by rw[bR];rfl
    have a8:=Hd J;clear J a3 hr0 c0;go_wp2;go_roundw
    case rel=>exact⟨k+1,ks,l,vk,Dk,D,by omega,by go_num,a8.o,O.o,a2.o,b9.o,X.o⟩
    case measure=>exact vJ
   ·rw[if_neg hr0]at J
    have f2:=jcy hr0;have d4:Ext w0 wr:=e5.o.trans' X.o (fun x hx e=>by have e:x=rb:=e;have:=e6.o;omega);have e9:l<=k0:=jjA (fun m l y h=>bE (jjB (gRef S) f m l y h) (Nat.sub_le _ _)) k k0 _ b8.o;have HC:=Hd (c3.o r d (HM.o r (bG a3) hr0) wr l d4 b9.o (by have:=HF.o;omega) vO)
    obtain⟨o1,c1⟩:=vE ((gRef S r).bind fun m=>jbY (gRef S) f m l)
    rw[<-c1]at HC;have a5:je1 (jbY (gRef S) f) (gRef S) rs (k+1) k0=o1.map fun y=>(setK ks k y.1,y.2):=by
     rw[J,c1];cases gRef S r with
     | none=>rfl
     | some m=>rfl
    have a8:=Hd a5;have f8:=Hd (O.o.lt bb O.o.mem);clear J a5 a3 hr0 c0 d4 e9 c1;go_wp2_with fail
    refine HC.o.mono ?_;intro e w7 hO
    obtain⟨d5,d6⟩:=hO
    have a9:=Hd d5;clear d5;cases o1 with
    | none =>
     obtain⟨v7,l7,rfl,hv,a4⟩:=d6
     have HZ:=Hd a4;clear a4;have d7:=Hd (show o=none by
      rw[HO.o]
      have:=jiO (k:=k+1) a8.o (15 - k)
      rw[show k+1+(15 - k)=16 by omega]at this;rw[this];rfl)
     rcases hv with rfl |⟨T,x,rfl⟩
     ·go_wp2_with fail
      go_ret2;rw[d7.o]
      exact⟨X.o.trans a9.o,_,l7,rfl,.inl rfl,HZ.o⟩
     ·go_wp2_with fail
      go_ret2;rw[d7.o]
      exact⟨X.o.trans a9.o,_,l7,rfl,.inl rfl,HZ.o⟩
    | some Pl =>
     obtain⟨P,l7⟩:=Pl
     obtain⟨T,x,rfl,hP,a4⟩:=d6
     have a7:∀ z,D z->¬ z=rb:=fun z hz e=>by have:=a2.o z hz;have:=e7.o;omega
     have b0:=O.o.keeps a9.o (fun z hz=>a7 z hz);have hg:=b0.give hlt hP (fun z hz=>⟨fun e=>by have:=O.o.lt z e;have:=hz.1;omega,hz.2⟩)
     obtain⟨W8,b1⟩:=vE (w7.setCell ⟨bb,1+k,none⟩ (.iface T x))
     rw[<-b1]at hg;have c2:jac (fun z=>z=bb) w7 W8:=by rw[b1];exact jac.oneSet w7 ⟨bb,1+k,none⟩ (.iface T x)
     have d8:RdAt W8 rb s l7:=a4.keeps c2 (fun e=>c8.o e.symm);have d9:jac (fun z=>z=rb) W W8:=(X.o.trans a9.o).trans' c2 (fun z hz e=>by have e:z=bb:=e;have:=a2.o bb O.o.mem;omega)
     obtain⟨old,q7⟩:∃ v,w7.cell? ⟨bb,1+k,none⟩=some v:=⟨_,b0.blk.cellL (bB (by rw[jf2];omega))⟩
     have f7:w7.frozen? ⟨bb,1+k,none⟩=false:=b0.blk.frozen;have HG:=Hd (bA hg (bA d8 (bA d9 (show ∀ z,(D z\/jjT wr w7 z)->W.heap.size<=z from fun z hz=>hz.elim (a2.o z) (fun e=>bE X.o.size e.1)))));have f0:=Hd b1;clear hP a4 a7 b0 hg c2 d8 d9 b1;go_wp2_with fail
     rw[<-f0.o];clear q7 f7;go_roundw
     case rel=>exact⟨k+1,_,l7,_,_,_,by omega,by go_num,a8.o,HG.o.1,HG.o.2.2.2,HG.o.2.1,HG.o.2.2.1⟩
     case measure=>exact vJ
  ·obtain rfl:k=16:=vO
   go_wp2_with fail
   go_ret2;rw[HO.o,b8.o]
   exact⟨X.o,_,_,rfl,O.o.pa.at'.mono (fun z hz=>⟨a2.o z hz,O.o.lt z hz⟩),b9.o⟩
theorem jrt(w0:vW)(s bm:Nat)(room:Int)(S:vT)(rb:Nat)(hR:RdS0 w0 s bm room S rb):∀ f,joN w0 s S rb f
 | 0=>fun n d K W left H q O A=>by
  obtain rfl:left=0:=vO
  rw[jiP];exact jkE W rb s n q
 | f+1=>fun n d K W left H q O A=>by
  have e:=jyB w0 s bm room S rb hR f (jrt w0 s bm room S rb hR f);cases left with
  | zero =>
   rw[jiP];exact jkE W rb s n q
  | succ k =>
   rw[jgr,if_neg (gV k)];cases K with
   | none=>exact jq4 W rb s k vO _ _ _ q
   | leaf p v h1 h2 h3=>exact jq2 W rb s k vO p v _ q
   | ext p r h1 h2 h3 =>
    have J:MayP (InlD d) r:=h3.imp id (fun ⟨m,J,_⟩=>⟨m,J⟩);exact jtJ w0 s S rb f e hR.new W k H vO vO p ⟨#[]⟩ r (jaw 15) d J q
   | branch v rs h1 h2 h3 h4=>exact jv3 w0 s S rb f e hR.new W k H vO vO ⟨#[]⟩ v rs d h1 h3 q
def jyY(W:vW)(o:Option (PA × Nat))(e:Ending)(w':vW):Prop:=Ext W w'/\match o with
 | some (P,_)=>∃ T x,e=.returned (.tuple #[.iface T x,.bool true])/\PaAt P (.iface T x) (jjT W w') w'
 | none=>∃ v,e=.returned (.tuple #[v,.bool false])/\(v=.nilIface\/∃ T x,v=.iface T x)
noncomputable def readR(S:vT)(root:vB):Option (PA × Nat):=(gHash S root).bind fun m=>jbY (gRef S) 160 m 160
theorem jwG(W:vW)(s bm:Nat)(room:Int)(S:vT)(hs:jax W s bm room S)(hN:jfn S)(root:vB) :
  vQ 129 #[.pointer (some ⟨s,0,none⟩),.string root] W (jyY W (readR S root)):=by
 obtain⟨J,q⟩:=vE (W.alloc (.cells #[.pointer (some ⟨s,0,none⟩),.int .i64 160] 313))
 have A:Ext W J:=by rw[q];exact (ExtR W).alloc _
 have K:RdAt J W.heap.size s 160:=by rw[q];exact Blk.new W _
 have Z:RdS0 W s bm room S W.heap.size:=⟨hs,hN,bL _⟩;have X:=jrr W s bm room S W.heap.size Z 160 (jrt W s bm room S W.heap.size Z 160) root J 160 A K (bL _) (bL _)
 obtain⟨o,ho⟩:=vE (readR S root)
 have X:vQ 173 #[.pointer (some ⟨W.heap.size,0,none⟩),.string root] J (RdO J W.heap.size s o):=by rw[ho];exact X
 have HC:=Hd X;have HE:=Hd A;have HW:=Hd q;rw[<-ho];clear hs hN K Z X ho A q;go_enter Tryz.func129,Tryz.ntmps129;go_wp2_with fail
 rw[<-HW.o];refine HC.o.mono ?_;intro e w7 hO
 obtain⟨hk,O⟩:=hO
 have hX:Ext W w7:=HE.o.trans' hk (fun x hx e=>by have e:x=W.heap.size:=e;omega);have HX:=Hd hX;clear hk hX;cases o with
 | none =>
  obtain⟨v,l,rfl,hv,H⟩:=O
  clear H;rcases hv with rfl |⟨T,x,rfl⟩
  ·go_wp2_with fail
   go_ret2
   exact⟨HX.o,_,rfl,.inl rfl⟩
  ·go_wp2_with fail
   go_ret2
   exact⟨HX.o,_,rfl,.inr ⟨T,x,rfl⟩⟩
 | some Pl =>
  obtain⟨P,l⟩:=Pl
  obtain⟨T,x,rfl,hP,H⟩:=O
  have HZ:=Hd hP;clear hP H;go_wp2_with fail
  go_ret2
  exact⟨HX.o,T,x,rfl,HZ.o.mono (fun z hz=>⟨bE HE.o.size hz.1,hz.2⟩)⟩
end
section
open Go Go.RowKit
end
section
open Go Go.RowKit
attribute [local go_sem] Oper.semAt_some
def ErrT(w:vW):Prop:=w.cell? ⟨0,0,none⟩=some (.iface 216 (.agg #[.pointer (some ⟨3,88,none⟩)]))
theorem ErrT.ext{w:vW}(h:ErrT w)(k:Ext w w'):ErrT w':=jaa h k
structure WrAt(z g:Nat)(v:Value)(T:vM)(W:World):Prop where
 lo:z<=g
 var:Blk W g (.cells #[v] 247)
 row:W.ownsRow 0 9 1 v T.length (T.map Value.string)
 own:∀ b,v.ownBlock=some b->z<=b/\b≠g/\b < W.heap.size
 nil:T=[]->v=.slice none 0 0
theorem WrAt.ext(h:WrAt z g v T W)(e:Ext W W'):WrAt z g v T W':=
 ⟨h.lo,h.var.keeps e (fun g=>g),jaZ h.row e,fun b hb=>⟨(h.own b hb).1,(h.own b hb).2.1,bC (h.own b hb).2.2 e.size⟩,h.nil⟩
theorem WrAt.off{F:BSet}(h:WrAt z g v T W)(e:jac F W W')(h1:¬ F g)(h2:∀ b,v.ownBlock=some b->¬ F b):WrAt z g v T W':=
 ⟨h.lo,h.var.keeps e h1,jaL h.row e h2,fun b hb=>⟨(h.own b hb).1,(h.own b hb).2.1,bC (h.own b hb).2.2 e.size⟩,h.nil⟩
structure WrTo(z g:Nat)(v:Value)(W W':World)(v':Value)(T':vM):Prop where
 at':WrAt z g v' T' W'
 kp:jac (fun b=>b=g\/v.ownBlock=some b) W W'
 sub:∀ b,v'.ownBlock=some b->v.ownBlock=some b\/W.heap.size<=b
theorem WrTo.refl(h:WrAt z g v T W)(e:Ext W W'):WrTo z g v W W' v T:=⟨h.ext e,e.mono (fun _ _ h=>h.elim),fun b hb=>.inl hb⟩
theorem WrTo.trans(h:WrTo z g v W W' v' T)(k:WrTo z g v' W' W'' v'' T'):WrTo z g v W W'' v'' T':=
 ⟨k.at',h.kp.trans' k.kp (fun x q e=>by
  rcases e with e | e
  ·exact .inl e
  ·rcases h.sub x e with e | e
   ·exact .inr e
   ·omega),fun b hb=>by
  rcases k.sub b hb with e | e
  ·exact h.sub b e
  ·exact .inr (bE h.kp.size e)⟩
theorem WrTo.ext(h:WrTo z g v W W' v' T)(e:Ext W' W''):WrTo z g v W W'' v' T:=h.trans (WrTo.refl h.at' e)
theorem WrTo.blk(h:WrTo z g v W W' v' T){o:Obj}(hB:Blk W b o)(h1:b≠g)(h2:v.ownBlock≠some b):Blk W' b o:=hB.keeps h.kp (fun e=>e.elim h1 h2)
theorem WrTo.ext0(h:WrTo z g v W W' v' T')(k:WrAt z g v T W)(e:Ext W0 W)(hz:W0.heap.size<=z):Ext W0 W':=
 e.trans' h.kp (fun x q e=>by
  rcases e with e | e
  ·have:=k.lo;omega
  ·have:=(k.own x e).1;omega)
theorem WrTo.fill(h:WrTo z g v W W' v' T)(e:jac (fun b=>b=L) W' W'')(h1:L≠g)(h2:v'.ownBlock≠some L)(h3:W.heap.size<=L):WrTo z g v W W'' v' T:=
 ⟨h.at'.off e (fun x=>h1 x.symm) (fun b hb x=>h2 (by rw[hb,x])),h.kp.trans' e (fun x q y=>by have y:x=L:=y;omega),h.sub⟩
theorem WrTo.ahead(e:Ext W0 W)(h:WrTo z g v W W' v' T):WrTo z g v W0 W' v' T:=
 ⟨h.at',(e.mono (fun _ _ h=>h.elim)).trans' h.kp (fun x q e=>e),fun b hb=>(h.sub b hb).imp id (fun k=>bE e.size k)⟩
def FoP(z g:Nat)(v:vV)(W:vW)(r:vV)(T:vM)(e:Ending)(w':vW):Prop:=e=.returned r/\∃ v',WrTo z g v W w' v' T
structure jla(n:jae):Prop where
 refs:n.refs.length=16
 call:∀ w,jbA w->ErrT w->vQ 136 #[n.V] w fun e w'=>(∃ k:Int,e=.returned (.tuple #[.string (putN n),.int .i64 k]))/\Ext w w'
theorem jfL(n:jae):(putN n).size<=2000:=by
 by_cases h:∃ d,jaW (InlD d) n
 ·obtain⟨d,e⟩:=h
  rw[jeC e];exact jiG n (e.one (inlP d))
 ·rw[jjy h];exact cB _
theorem jkO{n:jae}(h:jaW (InlD d) n):jla n:=⟨(h.one (inlP d)).refs,fun w _ _=>by
 rw[jeC h];exact (jiH (inlP d) w n h).mono fun e w' h=>⟨⟨0,h.1⟩,h.2⟩⟩
def PutP:PA->Prop
 | .nil=>True
 | .no=>jla jas
 | .leaf q v=>jla ⟨1,q,v,jaw 16⟩
 | .ext q n=>jla (nodeP (.ext q n))/\PutP n
 | .br v ks=>jla (nodeP (.br v ks))/\∀ i,PutP (ks i)
theorem PutP.node{P:PA}(h:PutP P)(hn:P.isNil=false):jla (nodeP P):=by
 cases P with
 | nil=>cases hn
 | no=>exact h
 | leaf q v=>exact h
 | ext q n=>exact h.1
 | br v ks=>exact h.1
theorem jgx{P:PA}:(textP P).size<=2000:=by
 cases P with
 | nil=>exact cB _
 | no=>exact jfL _
 | leaf q v=>exact jfL _
 | ext q n=>exact jfL _
 | br v ks=>exact jfL _
theorem jdk:∀ (P:PA),P.isNil=false->(underP P).length+1<=cntP P
 | .nil,h=>by cases h
 | .no,_=>bL _
 | .leaf _ _,_=>bL _
 | .ext q n,_=>by
  show (bigs (textP n)++underP n).length+1<=1+cntP n;rw[bI];have e:=ji1 (textP n);cases hn:n.isNil with
  | true=>rw[jcW hn];exact bL _
  | false =>
   have:=jdk n hn
   omega
 | .br v ks,_=>by
  show ((List.range 16).flatMap fun i=>if (ks i).isNil then []else bigs (textP (ks i))++underP (ks i)).length+1<=1+sumF (fun i=>cntP (ks i)) 16
  have:=jfz (fun i=>if (ks i).isNil then []else bigs (textP (ks i))++underP (ks i)) (fun i=>cntP (ks i)) (fun i=>by
   show (if (ks i).isNil=true then ([]:vM)else bigs (textP (ks i))++underP (ks i)).length<=cntP (ks i);cases hn:(ks i).isNil with
   | true=>rw[if_pos rfl];exact cB _
   | false =>
    rw[if_neg ff,bI];have e:=ji1 (textP (ks i))
    have:=jdk (ks i) hn
    omega) 16
  omega
def jw4(P:PA):Prop:=∀ (w0 W:vW) (T:TypeId) (x:vV) (D:Nat->Prop) (g:Nat) (v:vV) (Tx:vM),jbA w0->ErrT w0->PaO P (.iface T x) D w0->Ext w0 W->WrAt w0.heap.size g v Tx W->Tx.length+cntP P<=100000 ->
 vQ (jkG P) #[x,.pointer (some ⟨g,0,none⟩)] W (FoP w0.heap.size g v W (nodeP P).V (Tx++underP P))
def TopC(P:PA):Prop:=∀ (w0 W:vW) (T:TypeId) (x:vV) (D:Nat->Prop) (g:Nat) (v:vV) (Tx:vM),jbA w0->ErrT w0->PaO P (.iface T x) D w0->Ext w0 W->WrAt w0.heap.size g v Tx W->Tx.length+cntP P<=100000 ->
 vQ 130 #[.pointer (some ⟨g,0,none⟩),.iface T x] W (FoP w0.heap.size g v W (.string (textP P)) (Tx++underP P))
def ju7(P:PA):Prop:=∀ (w0 W:vW) (T:TypeId) (x:vV) (D:Nat->Prop) (g:Nat) (v:vV) (Tx:vM),jbA w0->ErrT w0->PaO P (.iface T x) D w0->Ext w0 W->WrAt w0.heap.size g v Tx W->Tx.length+cntP P<=100000 ->
 vQ 274 #[.pointer (some ⟨g,0,none⟩),.iface T x] W (FoP w0.heap.size g v W (.string (refB (textP P))) (Tx++(bigs (textP P)++underP P)))
theorem jtL(z g:Nat)(v:vV)(Tx:vM)(W:vW)(h:WrAt z g v Tx W):vQ 299 #[.agg #[],.pointer (some ⟨g,0,none⟩)] W (FoP z g v W jas.V Tx):=by
 have H:=Hd h;clear h;unfold vQ;go_in;go_wp2_with (first |(refine jah Tryz.allocNode rfl rfl ?_;intro Z q A;simp only[bF]at q) |(refine jad (vs:=jas.cells) rfl rfl rfl rfl q rfl Tryz.szNode jas.one ?_;intro X J K))
 have O:Ext W (W.alloc (.cells #[] 387)):=(ExtR W).alloc _;refine bodyPost_ret (jbl rfl rfl (jat X _ jas rfl J)) rfl ?_
 exact⟨rfl,v,WrTo.refl H.o ((O.trans A).trans' K (fun x hx e=>by have e:x=W.heap.size+1:=e;omega))⟩
def jzk(q u:vB):List vV:=jbW 1 q u ⟨#[]⟩
theorem jvS(z g:Nat)(v:vV)(Tx:vM)(W:vW)(hE:Ext w0 W)(q u:vB)(b:Nat)(hB:Blk w0 b (.cells #[.string q,.string u] 378))(h:WrAt z g v Tx W):vQ 285 #[.pointer (some ⟨b,0,none⟩),.pointer (some ⟨g,0,none⟩)] W (FoP z g v W (jae.V ⟨1,q,u,jaw 16⟩) Tx):=by
 have H:=Hd h;have Q0:=Hd (jaa (hB.cell (i:=0) (v:=.string q) vF) hE);have Q1:=Hd (jaa (hB.cell (i:=1) (v:=.string u) vF) hE);have a1:=hB.lt;have O:=Hd (show ¬ b=W.heap.size by have:=hE.size;omega);clear h hB hE a1;unfold vQ;go_in;go_wp2_with (refine jah Tryz.allocNode rfl rfl ?_;intro W4 X Z)
 have a2:=Hd X;have A:=Hd Z;clear X Z;refine vS ?_;refine jau [0,1,2,3,4,5,6,7,8,9] [9] Ext (jac (fun z=>z=W.heap.size)) ExtR ExtT (fun x y z h k=>jac.trans h k) (fun x y h=>h.mono (fun _ _ h=>h.elim)) vY vY vY ?_
 refine vD ?_
 refine qDV _ ((.pointer (some ⟨b,0,none⟩))) rfl (fun w1 _=>by kernel_rfl) ?_;refine vS ?_
 refine vD ?_
 refine qDL ⟨b,0,none⟩ _ rfl (fun w1 h1=>jag (fun w=>by kernel_rfl) (jai (jaa Q0.o A.o) (((jac.refl (fun z=>z=W.heap.size) W4).drew).trans h1) (by exact O.o))) ?_;refine vS ?_
 refine vD ?_
 refine qDV _ ((.pointer (some ⟨b,0,none⟩))) rfl (fun w1 _=>by kernel_rfl) ?_;refine vS ?_
 refine vD ?_
 refine qDL ⟨b,1,none⟩ _ rfl (fun w1 h1=>jag (fun w=>by kernel_rfl) (jai (jaa Q1.o A.o) (((jac.refl (fun z=>z=W.heap.size) W4).drew).trans h1) (by exact O.o))) ?_;refine vS ?_
 refine vD ?_
 refine qDH _ rfl (fun w5 he K hK=>?_);have hX:=(jak W4).trans he;refine jdl (vs:=jzk q u) rfl rfl rfl (a2.o.keeps hX (fun h=>h)) rfl Tryz.szNode (jbX _ _ _ _) ?_;intro W6 a0 J;have H6:=Hd (bA a0 ((A.o.trans hX).trans' J (fun x hx e=>by have e:x=W.heap.size:=e;omega)));refine vS ?_;refine hK _ _ J ?_;clear hK K he hX a0 J;refine qDE (fun w7 he=>?_);have a3:=H6.o.1.keeps he (fun h=>h);have a4:=H6.o.2.trans he;go_wp2_with fail
 refine bodyPost_ret (jbl rfl rfl (jat w7 _ ⟨1,q,u,jaw 16⟩ rfl a3)) rfl ?_
 exact⟨rfl,v,WrTo.refl H.o a4⟩
theorem jr0(hn:P.isNil=false)(hp:PutP P)(hF:jw4 P):TopC P:=by
 intro w0 W T x D g v Tx J K O X Z hl;have hf:=hF w0 W T x D g v Tx J K O X Z hl;have hm:=O.at'.meth.form;have hm:∀ w,(Go.method (520+1) T x "guilloche/trie.form").run Tryz.prog w=.ok (jkG P,x) w:=hm;have a2:=jnY P;have q:=hp.node hn;rw[jrP hn];have HN:Hid (∀ w,Ext w0 w->vQ 136 #[(nodeP P).V] w fun e w'=>(∃ k:Int,e=.returned (.tuple #[.string (putN (nodeP P)),.int .i64 k]))/\Ext w w'):=fun w e=>q.call w (J.ext e) (K.ext e);have HF:=Hd hf;have HW:=Hd (bA Z X)
 obtain⟨U,hU⟩:=vE (Tx++underP P)
 rw[<-hU]at HF ⊢
 obtain⟨n,A⟩:=vE (nodeP P)
 rw[<-A]at HF HN ⊢;clear hf J K O X Z hl q hn hp hF hU A;go_enter Tryz.func130,Tryz.ntmps130;go_wp2_with fail
 refine HF.o.mono ?_;rintro e w1 ⟨rfl,v1,hT⟩;have HT:=Hd hT;have a0:=Hd (hT.ext0 HW.o.1 HW.o.2 (bL _));clear hT;go_wp2_with fail
 refine (HN.o w1 a0.o).mono ?_;rintro e w2 ⟨⟨k,rfl⟩,H⟩;have a1:=Hd H;clear H;go_wp2_with fail
 go_ret
 exact⟨rfl,v1,HT.o.ext a1.o⟩
end
section
open Go Go.RowKit
end
section
open Go Go.RowKit
attribute [local go_sem] Oper.semAt_some
theorem jeZ(b:Bool)(w:vW)(hG:ErrT w)(n:jae)(hr:n.refs.length=16)(hk:n.kind<=3)(f:FuncId)(hf:[fnV 197,fnV 198,fnV 199,fnV 200][n.kind]?=some (fnV f))
  (eg:∀ args w,(callFunc f args).run Tryz.prog w=.ok (.enter f args) w) (hc:∀ w,ErrT w->vR f #[n.V] w (.bool b)) :
  vR 154 #[n.V] w (.bool b):=by
 have e0:n.cells[0]?=some (.int .i64 (n.kind:Int)):=rfl;have c0:¬(n.kind:Int) < 0:=vO
 have c1:¬(3:Int) < (n.kind:Int):=vO
 have c2:(n.kind:Int) < 4:=vO
 have HF:=Hd hf;have HC:=Hd hc;have HR:=Hd hr;have HG:=Hd hG;clear hf hc hr hG;unfold jae.V;go_enter Tryz.func154,Tryz.ntmps154;go_wp2_with (refine jah Tryz.allocTabV rfl rfl ?_;intro W1 H q;refine jad (vs:=[fnV 197,fnV 198,fnV 199,fnV 200]) rfl rfl rfl rfl H rfl Tryz.szTabV (by simp[fnV,Value.oneCell']) ?_;intro J K A;have q0:J.cell? ⟨w.heap.size,0,none⟩=some (.int .i64 (n.kind:Int)):=(((Blk.new w (.cells n.cells.toArray 206)).keeps q (fun h=>h)).keeps A (by rw[bF];omega)).cellL e0)
 have qt:J.cell? ⟨w.heap.size+1,n.kind,none⟩=some (fnV f):=by
  have:=K.cellL HF.o
  rwa [bF]at this
 have O:=((Blk.new w (.cells n.cells.toArray 206)).keeps q (fun h=>h)).keeps A (by rw[bF];omega);have QT:=Hd qt;have Q0:=Hd q0;have Z:=Hd O;have HE:=Hd ((((ExtR w).alloc (.cells n.cells.toArray 206)).trans q).trans' A (fun x hx e=>by have e:x=(w.alloc (.cells n.cells.toArray 206)).heap.size:=e;rw[bF]at e;omega));clear H q K A q0 qt O;refine jaj [0,1,2,3,4,5,6] Ext ExtR ExtT vY vY vY ?_
 refine vK ?_
 refine qKL ⟨w.heap.size,0,none⟩ _ rfl (fun w2 X=>jab Tryz.uKind rfl (jaa (by exact Q0.o) X)) ?_;refine vS ?_
 refine vK ?_
 refine qKL ⟨w.heap.size+1,n.kind,none⟩ _ rfl (fun w2 X=>jag Tryz.aggV (jaa (by exact QT.o) X)) ?_;refine vS ?_;refine qKL ⟨w.heap.size,0,none⟩ _ rfl (fun w2 X=>jap w2 _ n HR.o (Z.o.keeps ((jak J).trans X) (fun h=>h))) ?_;refine vS ?_;refine qKC _ f #[n.V] (.bool b) rfl (fun w1=>jfd rfl eg rfl) (fun w1 h1=>HC.o w1 (HG.o.ext (HE.o.trans ((jak J).trans h1)))) ?_;refine vS ?_
 refine vK ?_
 refine qKE (fun w3 he=>?_);go_wp2_with fail
 go_ret
 exact⟨rfl,HE.o.trans ((jak J).trans he)⟩
theorem jlv(n:jae)(hr:n.refs.length=16)(hps:n.path.size<=1000000)(hp:n.pathOk 0=false):vR 198 #[n.V] w (.bool false):=by
 have e:=jbH w n hr;have A:=Hd hp;clear hp;unfold jae.V at e ⊢;unfold vR vQ;go_in;go_wp2_with (refine jaf 298 (.tmp 1) rfl rfl _ _ rfl e ?_)
 refine vH (jfi _ n hr 0 hps) fun w1 H=>?_;rw[A.o];have q:=Hd (((ExtR w).alloc _).trans H);clear e;go_wp2_with fail
 go_ret
 exact⟨rfl,q.o⟩
theorem jkx(n:jae)(hr:n.refs.length=16)(hps:n.path.size<=1000000)(hp:n.pathOk 0=true)(h0:n.value=⟨#[]⟩):vR 198 #[n.V] w (.bool false):=by
 have e:=jbH w n hr;have J:n.cells[2]?=some (.string ⟨#[]⟩):=by rw[<-h0];rfl
 have K:=Hd hp;clear hp h0;unfold jae.V at e ⊢;unfold vR vQ;go_in;go_wp2_with (refine jaf 298 (.tmp 1) rfl rfl _ _ rfl e ?_)
 refine vC (jfi _ n hr 0 hps) fun w1 q=>?_;rw[K.o];have H:=(Blk.new w (.cells n.cells.toArray 298)).keeps q (fun h=>h);have O:=H.cellL J;have A:=Hd (((ExtR w).alloc _).trans q);clear e q H;go_wp2_with fail
 go_ret
 exact⟨rfl,A.o⟩
theorem jn3(n:jae)(hr:n.refs.length=16)(hps:n.path.size<=1000000)(hp:n.pathOk 1=false):vR 199 #[n.V] w (.bool false):=by
 have e:=jbH w n hr;have A:=Hd hp;clear hp;unfold jae.V at e ⊢;unfold vR vQ;go_in;go_wp2_with (refine jaf 298 (.tmp 1) rfl rfl _ _ rfl e ?_)
 refine vH (jfi _ n hr 1 hps) fun w1 H=>?_;rw[A.o];have q:=Hd (((ExtR w).alloc _).trans H);clear e;go_wp2_with fail
 go_ret
 exact⟨rfl,q.o⟩
theorem jp2(w:vW)(hG:ErrT w)(n:jae)(r:vB)(m:jae)(ok:Bool)(hr:n.refs.length=16)(hp:n.pathOk 1=true)(h0:n.value=⟨#[]⟩)(hb:n.behindN=1)(h3:n.refs[0]?=some r)(hA:∀ w,vR 119 #[.string r] w (optV (jed r)))(hh:jed r=none)(hml:m.refs.length=16)
  (hI:∀ w,ErrT w->vR 120 #[.string r] w (.tuple #[m.V,.bool ok])) (hk:ok=true->m.kind≠3):vR 199 #[n.V] w (.bool false):=by
 have a4:n.path.size<=1000000:=by
  simp only[jae.pathOk,cC,decide_eq_true_eq]at hp;omega
 have K:=jbH w n hr;have e2:n.cells[2]?=some (.string ⟨#[]⟩):=by rw[<-h0];rfl
 have e3:n.cells[3]?=some (.string r):=by
  show (n.refs.map Value.string)[0]?=_;rw[bV,h3];rfl
 have HP:=Hd hp;have HB:=Hd hb;have E3:=Hd e3;have HH:=Hd hh;have a5:=Hd hA;clear hA;have HI:=Hd hI;have H:=Hd hml;have HK:=Hd hk;have HG:=Hd hG;clear hp hb h0 h3 e3 hh hI hml hk hG;unfold jae.V at K ⊢;unfold vR vQ;go_in;go_wp2_with (refine jaf 298 (.tmp 1) rfl rfl _ _ rfl K ?_)
 refine vC (jfi _ n hr 1 a4) fun w1 q=>?_;rw[HP.o];have B1:=(Blk.new w (.cells n.cells.toArray 298)).keeps q (fun h=>h);have q2:=B1.cellL e2;have A:=ja7 w1 _ n hr B1;have a1:=Hd (((ExtR w).alloc _).trans q);have a2:=Hd B1;unfold jae.V at A;clear K q B1;go_wp2_with (refine jaf 298 (.tmp 1) rfl rfl _ _ rfl A ?_)
 refine vC (jgR _ n hr) fun w2 q=>?_;rw[HB.o];have B2:=a2.o.keeps q (fun h=>h);have J:=Hd (a1.o.trans q);have q3:=B2.cellL E3.o;have a7:=Hd B2;clear A q q2 B2 a2 a1;go_wp2_with fail
 refine vC (a5.o w2) fun w3 q=>?_;rw[HH.o];have B3:=a7.o.keeps q (fun h=>h);have HE:=Hd (J.o.trans q);have a8:=B3.cellL E3.o;clear q q3 B3;unfold optV;simp only;go_wp2_with fail
 refine vH (HI.o w3 (HG.o.ext HE.o)) fun w4 a9=>?_;have J:=Hd (HE.o.trans a9);clear a8;unfold jae.V;cases ok with
 | false =>
  go_wp2_with (refine jah Tryz.allocNode rfl rfl ?_;intro W3 hB O;refine jad (vs:=m.cells) rfl rfl rfl rfl hB (by rw[m.cells_len H.o];rfl) (by rw[m.cells_len H.o];exact Tryz.szNode) m.one ?_;intro W4 a3 X)
  have Z:Ext w4 W4:=O.trans' X (fun x hx e=>by have e:x=w4.heap.size:=e;omega);have a0:=Hd (J.o.trans Z);go_ret
  exact⟨rfl,a0.o⟩
 | true =>
  have b0:((m.kind:Int) == 3)=false:=by have:=HK.o rfl;simp;omega
  go_wp2_with (refine jah Tryz.allocNode rfl rfl ?_;intro W3 hB O;refine jad (vs:=m.cells) rfl rfl rfl rfl hB (by rw[m.cells_len H.o];rfl) (by rw[m.cells_len H.o];exact Tryz.szNode) m.one ?_;intro W4 a3 X;have q0:W4.cell? ⟨w4.heap.size,0,none⟩=some (.int .i64 (m.kind:Int)):=a3.cellL vF)
  have Z:Ext w4 W4:=O.trans' X (fun x hx e=>by have e:x=w4.heap.size:=e;omega);have a0:=Hd (J.o.trans Z);go_ret
  exact⟨rfl,a0.o⟩
def MayD(b:Bool)(r:vB):Prop:=∀ w,ErrT w->vR 230 #[.string r] w (.bool b)
theorem jya(hA:∀ w,vR 119 #[.string r] w (optV (jed r)))(hh:jed r=none)(hI:∀ w,ErrT w->vR 120 #[.string r] w (.tuple #[jas.V,.bool false])):MayD false r:=fun w X=>by
 have HG:=Hd X;clear X;have HH:=Hd hh;have q:=Hd hA;clear hA;have HI:=Hd hI;clear hh hI;go_enter Tryz.func230,Tryz.ntmps230;go_wp2_with fail
 refine vH (q.o w) fun w1 Z=>?_;rw[HH.o];unfold optV;simp only;go_wp2_with fail
 refine vH (HI.o w1 (HG.o.ext Z.o)) fun w2 A=>?_;have H:=Hd (Z.o.trans A);unfold jae.V;go_wp2_with (refine jah Tryz.allocNode rfl rfl ?_;intro W3 hB J;refine jad (vs:=jas.cells) rfl rfl rfl rfl hB rfl Tryz.szNode jas.one ?_;intro W4 a0 K)
 have O:Ext w2 W4:=J.trans' K (fun x hx e=>by have e:x=w2.heap.size:=e;omega);go_ret
 exact⟨rfl,H.o.trans O⟩
def braN(M:vB->Bool)(n:jae):Bool:=decide (2<=min n.value.size 1+n.refsL.length) && n.refsL.all fun x=>M x.2
theorem jsu(hG:ErrT w)(n:jae)(hr:n.refs.length=16)(hp:n.path=⟨#[]⟩)(h8:n.value.size<=80)(M:vB->Bool)(hm:∀ r∈n.refs,r.size≠0->MayD (M r) r):vR 200 #[n.V] w (.bool (braN M n)):=by
 have HG:=Hd hG;clear hG;have e1:n.cells[1]?=some (.string ⟨#[]⟩):=by rw[<-hp];rfl
 have e2:n.cells[2]?=some (.string n.value):=rfl;have c1:¬(80:Int) < (n.value.size:Int):=vO
 obtain⟨c,hc⟩:=vE (min n.value.size 1)
 have a7:min (n.value.size:Int) 1=(c:Int):=vO
 obtain⟨R,hR⟩:=vE (braN M n)
 rw[<-hR];have HB:=Hd (show R=(decide (2<=c+n.refsL.length) && n.refsL.all fun x=>M x.2)from by rw[hR];unfold braN;rw[hc]);clear hR;have HC:=Hd a7;clear hp hc a7;refine (callsIn_wide (n:=0)).1 ?_;refine callsIn_of_wp_marks Tryz.func200 rfl trivial ?_ rfl;simp only[Tryz.ntmps200,cT,bU,dA,Nat.reduceAdd,Nat.reduceSub,cV,cU,dE,cZ,cN,cY]
 obtain⟨W0,A⟩:=vE (((w.alloc (.cells n.cells.toArray 298)).alloc (.cells #[.bool false] 4)).alloc (.cells #[.int .i64 (min (n.value.size:Int) 1)] 3))
 have B0:Blk W0 w.heap.size (.cells n.cells.toArray 298):=by rw[A];exact ((Blk.new w _).alloc _).alloc _
 have B1:Blk W0 (w.heap.size+1) (.cells #[.bool false] 4):=by
  rw[A];have:=(Blk.new (w.alloc (.cells n.cells.toArray 298)) (.cells #[.bool false] 4)).alloc (.cells #[.int .i64 (min (n.value.size:Int) 1)] 3);rwa [bF]at this
 have B2:Blk W0 (w.heap.size+1+1) (.cells #[.int .i64 (c:Int)] 3):=by
  rw[A, <-HC.o];have:=Blk.new ((w.alloc (.cells n.cells.toArray 298)).alloc (.cells #[.bool false] 4)) (.cells #[.int .i64 (min (n.value.size:Int) 1)] 3);rwa [bF,bF]at this
 have E0:Ext w W0:=by rw[A];exact (((ExtR w).alloc _).alloc _).alloc _
 have a8:W0.heap.size=w.heap.size+3:=by rw[A];simp
 have a1:=ja7 W0 _ n hr B0;rw[A]at a1;have a9:=Hd A;have b0:=Hd E0;have b1:=Hd B0;have b2:=Hd B1;have b3:=Hd B2;have b4:=Hd a8;clear A E0 B0 B1 B2 a8;unfold jae.V at a1 ⊢;gi_wp2_with (refine jaI rfl 298 (.tmp 1) rfl _ _ rfl a1 ?_)
 refine⟨trivial,rfl,CallsIn.mono (callsIn_wide.2 (jkU _ n)) ?_⟩
 rintro e w1 ⟨rfl,X,O⟩;rw[<-a9.o]at X O ⊢;rw[b4.o]at X ⊢;have b5:BraC w w.heap.size (w.heap.size+1) (w.heap.size+1+1) (w.heap.size+3) n c 0 w1/\(∀ j,j < 0->M (n.rr j)=true):=⟨⟨b0.o.trans O,b2.o.keeps O (fun h=>h),b1.o.keeps O (fun h=>h),b3.o.keeps O (fun h=>h),X⟩,fun j hj=>by omega⟩;have c4:=X.lt;have b9:=Hd b5;have c7:c<=1:=by have:=HC.o;omega
 clear X O a1 b5 a9 b0 b1 b2 b3 b4;gi_wp2_with fail
 refine' jdm (N:=n.refsL.length) (gf:=205) (lb:=#[.pointer (some ⟨w.heap.size+3,0,none⟩)]) rfl (vX 205) (jhP (w.heap.size+3) n hr)
  (fun k=>rfl) (fun k W=>BraC w w.heap.size (w.heap.size+1) (w.heap.size+1+1) (w.heap.size+3) n c k W/\∀ j,j < k->M (n.rr j)=true) (fun cd k W=>cd=.ret/\M (n.rr (k - 1))=false/\BraC w w.heap.size (w.heap.size+1) (w.heap.size+1+1) (w.heap.size+3) n c (k - 1) W)
  (fun k W W' h e=>⟨⟨h.1.ext.trans e,h.1.res.keeps e (fun h=>h),h.1.node.keeps e (fun h=>h),h.1.full.keeps e (fun h=>h),h.1.it.keeps e (fun h=>h)⟩,h.2⟩)
  (fun cd k W W' h e=>⟨h.1,h.2.1,⟨h.2.2.ext.trans e,h.2.2.res.keeps e (fun h=>h),h.2.2.node.keeps e (fun h=>h),h.2.2.full.keeps e (fun h=>h),h.2.2.it.keeps e (fun h=>h)⟩⟩) (fun k W h=>h.1.it)
  (fun k W o h=>⟨⟨h.1.ext.putObj (.inr vO) _,h.1.res.put_other vO _,h.1.node.put_other vO _,h.1.full.put_other vO _,h.1.it.put_other vO _⟩,h.2⟩)
  (fun cd k W o h=>⟨h.1,h.2.1,⟨h.2.2.ext.putObj (.inr vO) _,h.2.2.res.put_other vO _,h.2.2.node.put_other vO _,h.2.2.full.put_other vO _,h.2.2.it.put_other vO _⟩⟩)
  b9.o _
  ?hassign ?hbody ?hdone ?hstop
 case hassign =>
  intro l j W K _ hK;rw[jry,jkm];simp only[dG,dB];gi_wp2;exact hK
 case hbody =>
  intro l k W hk h c8
  obtain⟨h,J⟩:=h
  have a3:=jrs n hr hk;have a0:=hm _ (bG a3.2.1) a3.2.2;have c3:k < 16:=bC hk (by
   have:∀ (l:vM) (i:Nat),(jav i l).length<=l.length:=by
    intro l;induction l with
    | nil=>intro i;simp[jav]
    | cons x r ih=>intro i;unfold jav;split <;> simp <;> have:=ih (i+1) <;> omega
   have:=this n.refs 0
   rw[hr]at this;exact this)
  have H:=Hd h;have HM:=Hd a0;have HA:=Hd J;clear h a3 a0 J;gi_wp2_with fail
  refine⟨trivial,rfl,CallsIn.mono (CallsIn.inRound l (callsIn_wide.2 (HM.o W (HG.o.ext H.o.ext)))) ?_⟩
  rintro e Z ⟨rfl,O⟩;have q:=(H.o.full.keeps O (fun h=>h)).cell (i:=0) (v:=.int .i64 ((c+k:Nat):Int)) vF;have f:Z.frozen? ⟨w.heap.size+1+1,0,none⟩=false:=(H.o.full.keeps O (fun h=>h)).frozen;have HE:=Hd O;have f1:Z.frozen? ⟨w.heap.size+1,0,none⟩=false:=(H.o.res.keeps O (fun h=>h)).frozen;have q1:Z.cell? ⟨w.heap.size+1,0,none⟩=some (.bool false):=(H.o.res.keeps O (fun h=>h)).cell (i:=0) vF;clear O
  obtain⟨mb,a4⟩:=vE (M (n.rr k))
  rw[<-a4];have b6:=Hd a4;clear a4;cases mb with
  | false =>
   gi_wp2;have K5:jac (fun b=>b=w.heap.size+1) Z (Z.setCell ⟨w.heap.size+1,0,none⟩ (.bool false)):=jac.oneSet Z ⟨w.heap.size+1,0,none⟩ _;have K6:jac (fun b=>b=w.heap.size+1) W (Z.setCell ⟨w.heap.size+1,0,none⟩ (.bool false)):=(HE.o.mono (fun _ _ h=>h.elim)).trans K5
   refine⟨K6.mono (fun x hx e=>?_),?_⟩
   ·have e:x=_:=e;show x≠_/\x≠_;omega
   ·exact⟨rfl,b6.o.symm,⟨H.o.ext.trans' K6 (fun x hx e=>by omega),((H.o.res.keeps HE.o (fun h=>h)).set_same (i:=0) _),H.o.node.keeps K6 vO,H.o.full.keeps K6 vO,H.o.it.keeps K6 vO⟩⟩
  | true =>
  gi_wp2;rw[show (c:Int)+(k:Int)+1=((c+(k+1):Nat):Int) by omega];have K5:jac (fun b=>b=w.heap.size+1+1) Z (Z.setCell ⟨w.heap.size+1+1,0,none⟩ (.int .i64 ((c+(k+1):Nat):Int))):=jac.oneSet Z ⟨w.heap.size+1+1,0,none⟩ _;have K6:jac (fun b=>b=w.heap.size+1+1) W (Z.setCell ⟨w.heap.size+1+1,0,none⟩ (.int .i64 ((c+(k+1):Nat):Int))):=(HE.o.mono (fun _ _ h=>h.elim)).trans K5
  refine⟨K6.mono (fun x hx e=>?_),?_⟩
  ·have e:x=_:=e;show x≠_/\x≠_;omega
  ·refine⟨⟨H.o.ext.trans' K6 (fun x hx e=>by omega),H.o.res.keeps K6 vO,H.o.node.keeps K6 vO,((H.o.full.keeps HE.o (fun h=>h)).set_same (i:=0) _),H.o.it.keeps K6 vO⟩,fun j hj=>?_⟩
   by_cases hjk:j < k
   ·exact HA.o j hjk
   ·have:j=k:=vO
    subst this;exact b6.o.symm
 case hdone =>
  intro W h hd
  obtain⟨h,J⟩:=h
  have q:=h.full.cell (i:=0) (v:=.int .i64 ((c+n.refsL.length:Nat):Int)) vF;have q2:=h.res.cell (i:=0) (v:=.bool false) vF;have f2:W.frozen? ⟨w.heap.size+1,0,none⟩=false:=h.res.frozen;have hb:(n.refsL.all fun x=>M x.2)=true:=by
   rw[dI];intro x hx
   obtain⟨i,hi,rfl⟩:=List.getElem_of_mem hx
   have:=J i hi
   unfold jae.rr at this;rw[bJ,bB hi]at this;exact this
  have b7:R=decide (2<=c+n.refsL.length):=by rw[HB.o,hb,Bool.and_true]
  have H:=Hd h;have HD:=Hd hd;clear h hd J hb
  obtain⟨bb,a2⟩:=vE (decide (2<=c+n.refsL.length))
  have c5:decide ((2:Int)<=((c+n.refsL.length:Nat):Int))=bb:=by rw[a2];exact decide_eq_decide.2 vO
  have c6:decide ((2:Int)<=(c:Int)+(n.refsL.length:Int))=bb:=by rw[a2];exact decide_eq_decide.2 vO
  have a5:=Hd (b7.trans a2.symm);clear a2 b7;gi_wp2;have B2:=(H.o.res.set_same (i:=0) (.bool bb));have BD:=HD.o.set_other (p:=⟨w.heap.size+1,0,none⟩) (by show w1.heap.size≠w.heap.size+1;omega) (.bool bb);have hX:Ext w ((W.setCell ⟨w.heap.size+1,0,none⟩ (.bool bb)).putObj w1.heap.size (.deferred none)):=(H.o.ext.setCell (.inr (by show w.heap.size<=w.heap.size+1;omega)) _).putObj (.inr vO) _
  obtain⟨W3,c0⟩:=vE (W.setCell ⟨w.heap.size+1,0,none⟩ (.bool bb))
  rw[<-c0]at B2 BD hX ⊢;have c2:(W3.putObj w1.heap.size (.deferred none)).cell? ⟨w.heap.size+1,0,none⟩=some (.bool bb):=(B2.put_other vO _).cell (i:=0) (by simp)
  refine⟨by simp,.inl ⟨_,_,rfl,run_takeDeferred BD,?_⟩⟩
  exact⟨.bool bb,by simp[results,Tryz.results200,go_sem,c2],by rw[a5.o],hX⟩
 case hstop =>
  intro cd k W hk c9 h hd
  obtain⟨rfl,b8,h⟩:=h
  have hb:(n.refsL.all fun x=>M x.2)=false:=by
   rw[List.all_eq_false]
   refine⟨n.refsL.getD (k - 1) (0,⟨#[]⟩),?_,?_⟩
   ·rw[bJ,bB vO];exact dW _
   ·have:M (n.rr (k - 1))=false:=b8
    unfold jae.rr at this;rw[this];simp
  have a5:=Hd (show R=false by rw[HB.o,hb,Bool.and_false]);have q2:=h.res.cell (i:=0) (v:=.bool false) vF;have H:=Hd h;have HD:=Hd hd;clear h hd b8 hb;have hX:Ext w (W.putObj w1.heap.size (.deferred none)):=H.o.ext.putObj (.inr vO) _;have c2:(W.putObj w1.heap.size (.deferred none)).cell? ⟨w.heap.size+1,0,none⟩=some (.bool false):=(H.o.res.put_other vO _).cell (i:=0) vF;gi_wp2
  refine⟨by simp,.inl ⟨_,_,rfl,run_takeDeferred HD.o,?_⟩⟩
  exact⟨.bool false,by simp[results,Tryz.results200,go_sem,c2],by rw[a5.o],hX⟩
end
section
open Go Go.RowKit
end
section
open Go Go.RowKit
attribute [local go_sem] Oper.semAt_some
end
section
open Go Go.RowKit
end
section
open Go Go.RowKit
attribute [local go_sem] Oper.semAt_some
theorem jlp{y h:vB}(A:jed y=some h):je2 y:=by
 unfold jed at A;cases q:cutN y with
 | none=>rw[q]at A;cases A
 | some r =>
  rw[q]at A;have A:jfA y r=some h:=A;unfold jfA at A;rw[Option.filter_eq_some_iff]at A
  obtain⟨H,J⟩:=A
  have J:h.size=32:=by simpa using J
  unfold jeB at H
  by_cases hr:r.1=false/\r.2.1+r.2.2=y.size
  case neg=>rw[if_neg hr]at H;cases H
  rw[if_pos hr]at H;have H:=bP H
  obtain⟨b,o,n⟩:=r
  obtain⟨hb,K⟩:=hr
  have hb:b=false:=hb;have K:o+n=y.size:=K;subst hb
  refine⟨h,J,?_⟩
  have Z:n=32:=by
   have e:=congrArg ByteArray.size H;rw[dH]at e;simp only at e;omega
  obtain⟨⟨l⟩⟩:=y
  cases l with
  | nil=>exact absurd (ji6 q).1 vI
  | cons a t =>
   have q:cutN ⟨(a :: t).toArray⟩=some (false,o,n):=q;rw[jfw]at q
   obtain⟨m,O⟩:=vE (if a.toNat < 192 then a.toNat - 128 else a.toNat - 192)
   rw[<-O]at q
   by_cases h4:a.toNat < 128
   ·rw[if_pos h4]at q
    have:=(Prod.mk.inj (Prod.mk.inj (bP q)).2).2;omega
   rw[if_neg h4]at q
   by_cases h5:m<=55
   ·rw[if_pos h5]at q
    split at q
    ·have X:=(Prod.mk.inj (bP q)).1
     have e2:=(Prod.mk.inj (Prod.mk.inj (bP q)).2).1;have e3:=(Prod.mk.inj (Prod.mk.inj (bP q)).2).2;have X:¬ 192<=a.toNat:=of_decide_eq_false X;rw[if_pos vO]at O;have ha:a=160:=fV.1 (by show a.toNat=160;omega);have ht:h=⟨t.toArray⟩:=by
      rw[<-H, <-e2,Z];apply ByteArray.ext;apply Array.ext';have a0:o+n=t.length+1:=K;rw[fH,gA,fL];show ((a :: t).drop 1).take (1+32 - 1)=t;rw[List.drop_succ_cons,List.drop_zero,cF vO]
     unfold jam;rw[if_neg vO,J,ht,ha];apply ByteArray.ext;apply Array.ext';rw[dL,fQ];rfl
    ·cases q
   ·rw[if_neg h5]at q
    split at q
    ·rename_i n' hl
     split at q
     ·have e3:=(Prod.mk.inj (Prod.mk.inj (bP q)).2).2
      have:=(jfD hl).2.2.2.1
      omega
     ·cases q
    ·cases q
theorem jna:∀ (l:vM) (i:Nat) (r:vB),r∈l->r.size≠0->∃ j,(j,r)∈jav i l
 | x :: l,i,r,h,h0=>by
  unfold jav;rcases bZ.1 h with rfl | h
  ·rw[if_neg h0];exact⟨i,cJ⟩
  ·obtain⟨j,e⟩:=jna l (i+1) r h h0
   split
   ·exact⟨j,e⟩
   ·exact⟨j,bW _ e⟩
theorem jn1(h3:r.size≠0):jae.behindN ⟨2,p,⟨#[]⟩,r :: jaw 15⟩=1:=by
 have e:jav 0 (r :: jaw 15)=[(0,r)]:=by unfold jav;rw[if_neg h3,jdh]
 unfold jae.behindN;have q:jae.refsL ⟨2,p,⟨#[]⟩,r :: jaw 15⟩=[(0,r)]:=e;rw[q];show jae.ri _ 0+1=1;unfold jae.ri;rw[q];rfl
def GetE(s:vB):Prop:=∀ w,ErrT w->vQ 108 #[.string s] w (jr3 w)
def InlE(s:vB):Prop:=∀ w,ErrT w->vR 120 #[.string s] w (.tuple #[jas.V,.bool false])
theorem jtl:vR 120 #[.string (jam ⟨#[]⟩)] w (.tuple #[jas.V,.bool false]):=by
 have HR:=Hd (fun w=>jer (inlP 0) w jas jaW.none)
 obtain⟨s,Z⟩:=vE (jam ⟨#[]⟩)
 have q:jaV jas=s:=by rw[Z];rfl
 rw[q]at HR;have a0:s.size < 32:=by rw[Z];decide
 have c1:¬(32:Int)<=(s.size:Int):=vO
 rw[<-Z];clear Z q a0;unfold vR vQ;go_in;go_wp2_with (refine jah Tryz.allocNode rfl rfl ?_;intro W1 A H)
 refine vC (HR.o W1) fun w2 hE=>?_;have J:=A.keeps hE (fun h=>h);have a1:=Hd (H.trans hE);clear A H hE;unfold jae.V;go_wp2_with (first |(refine jah Tryz.allocNode rfl rfl ?_;intro W3 a2 K;refine jad (vs:=jas.cells) rfl rfl rfl rfl a2 rfl Tryz.szNode jas.one ?_;intro W4 a3 O;have q0:W4.cell? ⟨w2.heap.size,0,none⟩=some (.int .i64 0):=a3.cellL vF;have X:=(J.keeps K (fun h=>h)).keeps O (by have:=J.lt;omega)) |(refine jad (vs:=jas.cells) rfl rfl rfl rfl X rfl Tryz.szNode (jae.one _) ?_;intro W8 a4 a5))
 refine bodyPost_ret (jan rfl rfl rfl (jat W8 _ jas rfl a4)) rfl ?_;have a7:Ext w2 W4:=K.trans' O (fun x hx e=>by have e:x=w2.heap.size:=e;omega)
 exact⟨rfl,(a1.o.trans a7).trans' a5 (fun x hx e=>by have e:x=w.heap.size:=e;omega)⟩
theorem jkq{I:vB->jae->Prop}{n:jae}(h:jaW I n)(h0:n.kind=0):n=jas:=by
 cases h with
 | none=>rfl
 | leaf p v _ _ _=>exact absurd (show (1:Nat)=0 from h0) vI
 | ext p r _ _ _=>exact absurd (show (2:Nat)=0 from h0) vI
 | branch v rs _ _ _ _=>exact absurd (show (3:Nat)=0 from h0) vI
theorem WrAt.push(h:WrAt z g v Tx W)(hn:n=(Tx++New).length)(r1:w6.ownsRow 0 9 1 v' n ((Tx++New).map Value.string))(r2:jac (fun b=>v.ownBlock=some b) W w6)(r3:v'.ownBlock=v.ownBlock\/∀ b,v'.ownBlock=some b->W.heap.size<=b)(hz:z<=W.heap.size)(h0:New≠[]) :
  WrTo z g v W (w6.setCell ⟨g,0,none⟩ v') v' (Tx++New):=by
 subst hn;have H:=h.var.keeps r2 (fun e=>(h.own g e).2.1 rfl);have J:=jac.oneSet w6 ⟨g,0,none⟩ v';have K:=h.var.lt;have q:∀ b,v'.ownBlock=some b->v.ownBlock=some b\/W.heap.size<=b:=fun b hb=>by
  rcases r3 with r3 | r3
  ·exact .inl (r3 ▸ hb)
  ·exact .inr (r3 b hb)
 have A:∀ b,v'.ownBlock=some b->b≠g:=fun b hb=>by
  rcases q b hb with e | e
  ·exact (h.own b e).2.1
  ·omega
 refine⟨⟨h.lo,H.set_same (i:=0) _,jaL r1 J (fun b hb e=>A b hb e),fun b hb=>⟨?_,A b hb,bC (juL r1 hb) J.size⟩,fun e=>?_⟩,?_,q⟩
 ·rcases q b hb with e | e
  ·exact (h.own b e).1
  ·omega
 ·exact absurd (List.append_eq_nil_iff.1 e).2 h0
 ·exact ((r2.mono (fun x _ e=>.inr e):jac (fun b=>b=g\/v.ownBlock=some b) W w6)).trans' J (fun x O e=>.inl e)
theorem WrAt.sameTo(h:WrAt z g v Tx W):WrTo z g v W (W.setCell ⟨g,0,none⟩ v) v Tx:=by
 have K:=jac.oneSet W ⟨g,0,none⟩ v;have q:=h.var.set_same (i:=0) v
 exact⟨⟨h.lo,q,jaL h.row K (fun b hb e=>(h.own b hb).2.1 e),fun b hb=>⟨(h.own b hb).1,(h.own b hb).2.1,bC (h.own b hb).2.2 K.size⟩,h.nil⟩,K.mono (fun x _ e=>.inl e),fun b hb=>.inl hb⟩
theorem WrAt.same(h:WrAt z g v Tx W):WrAt z g v Tx (W.setCell ⟨g,0,none⟩ v):=h.sameTo.at'
theorem jgp{T:TypeId}(h:W.ownsRow 0 T sz (.slice a n c) n xs)(h0:n≠0):∃ b,a=some ⟨b,0,none⟩:=by
 obtain⟨_,⟨q,e⟩ |⟨g,A,H,e,_⟩⟩:=h
 ·injection q with _ q _
  exact absurd q h0
 ·injection e with e _ _
  exact⟨g,e⟩
theorem jb3{T:TypeId}(h:W.ownsRow 0 T 1 (.slice (some ⟨b,0,none⟩) n c) n xs){u:vV}(hj:xs[j]?=some u):W.cell? ⟨b,j,none⟩=some u:=by
 have e:=(bH.1 hj).1;have q:=h.1;rw[h.cellAt j vO,hj]
theorem jte(h:¬ t.size < 32):jed (refB t)=some (shaB t):=by
 rw[jgg];unfold refB;rw[if_neg h];exact jgh (jbg _)
theorem jlq(h:t.size < 32):jed (refB t)=none:=by
 unfold refB;rw[if_pos h];cases e:jed t with
 | none=>rfl
 | some x =>
  have:=(jlp (y:=t) (h:=x) e).size
  omega
theorem jfK{n:jae}(hs:(putN n).size < 32):CutE (putN n):=by
 by_cases h:∃ d,jaW (InlD d) n
 ·obtain⟨d,H⟩:=h
  rw[jeC H]at hs ⊢
  by_cases h0:n.kind=0
  ·rw[jkq H h0]
   intro e
   obtain⟨o,A,_⟩:=jem ⟨#[]⟩ vI
   rw[show jaV jas=jam ⟨#[]⟩from rfl,A]at e;cases e
  ·intro e
   obtain⟨q,A,_⟩:=(inlP (d+1)).nohash _ n ⟨H,rfl,hs,h0⟩
   rw[e]at A;cases A
 ·rw[jjy h];exact fun _=>rfl
theorem jjC:CutE (refB (textP P)):=by
 by_cases hs:(textP P).size < 32
 ·unfold refB
  rw[if_pos hs];cases P with
  | nil=>exact fun _=>rfl
  | no=>exact jfK hs
  | leaf q v=>exact jfK hs
  | ext q n=>exact jfK hs
  | br v ks=>exact jfK hs
 ·unfold refB
  rw[if_neg hs];intro e
  obtain⟨q,A,_⟩:=jeu (shaB (textP P)) (jbg _)
  rw[A]at e;cases e
theorem jlJ:(refB t).size<=33:=by
 unfold refB;split
 ·omega
 ·exact Nat.le_of_eq (je2.size ⟨_,jbg t,rfl⟩)
theorem jra{T:TypeId}(h:W.ownsRow 0 T sz (.slice a n c) n xs):n<=c:=by
 obtain⟨_,⟨H,e⟩ |⟨g,q,A,e,J,K,O,X⟩⟩:=h
 ·omega
 ·injection e with _ _ e
  omega
theorem joH(hT:TopC P)(hz:(textP P).size < 32)(w0 W:vW)(T:TypeId)(x:vV)(D:Nat->Prop)(g:Nat)(v:vV)(Tx:vM)(hc:jbA w0)(O:ErrT w0)(hP:PaO P (.iface T x) D w0)(hE:Ext w0 W)(hW:WrAt w0.heap.size g v Tx W)(hl:Tx.length+cntP P<=100000) :
  vQ 274 #[.pointer (some ⟨g,0,none⟩),.iface T x] W (FoP w0.heap.size g v W (.string (refB (textP P))) (Tx++underP P)):=by
 obtain⟨W1,b4⟩:=vE (W.alloc (.cells #[.slice none 0 0] 247))
 have b6:Ext W W1:=by rw[b4];exact (ExtR W).alloc _
 have b7:WrAt w0.heap.size W.heap.size (.slice none 0 0) [] W1:=⟨hE.size,by rw[b4];exact Blk.new W _,fE _ _ _ _,fun b hb=>(by cases hb),fun _=>rfl⟩;have a0:=hT w0 W1 T x D W.heap.size (.slice none 0 0) [] hc O hP (hE.trans b6) b7 (by have:([]:vM).length=0:=rfl;omega);rw[cN]at a0;have b0:=Hd a0;clear a0;have c5:=Hd b4;have e0:=c5;have HG:=Hd hW;have X:=Hd (bA b7 (bA b6 hE));have e1:=hc;have b1:=Hd (fun w (e:Ext w0 w)=>jwh w (textP P) (hc.ext e));have a3:=Hd (fun w=>jdf w (refB (textP P)) (by have:=jlJ (textP P);omega) (jjC P));rw[jlq _ hz]at a3;have c7:Tx.length+(underP P).length<=100000:=by
  cases hn:P.isNil with
  | true=>rw[jcW hn];show Tx.length+0<=_;omega
  | false=>have:=jdk P hn;omega
 have c8:=Hd c7
 obtain⟨U,hU⟩:=vE (underP P)
 obtain⟨t,ht⟩:=vE (textP P)
 rw[<-ht, <-hU]at b0;rw[<-ht]at b1 a3 ⊢;rw[<-hU]at c8 ⊢;clear hT hz hc O hP hE hW hl b6 b7 c7 hU ht b4 e0 e1;go_enter Tryz.func274,Tryz.ntmps274;go_wp2_with fail
 rw[<-c5.o];refine b0.o.mono ?_;rintro e w2 ⟨rfl,v2,Z⟩;have b8:g≠W.heap.size:=by have:=HG.o.var.lt;omega
 have b3:=Z.ext0 X.o.1 (X.o.2.2.trans X.o.2.1) (bL _);have c9:WrAt w0.heap.size g v Tx w2:=(HG.o.ext X.o.2.1).off Z.kp (fun e=>e.elim b8 (fun e=>by cases e)) (fun b hb e=>e.elim (fun e=>by have:=(HG.o.own b hb).2.2;omega) (fun e=>by cases e));have d0:Ext W w2:=X.o.2.1.trans' Z.kp (fun x hx e=>e.elim (fun e=>by omega) (fun e=>by cases e));have e8:Hid (∀ b,v2.ownBlock=some b->W.heap.size<=b):=(fun b hb=>(Z.sub b hb).elim (fun e=>by cases e) (fun e=>bE X.o.2.1.size e));have a7:=Hd (bA Z.at' (bA c9 (bA d0 b3)));clear Z c9 d0 b3
 obtain⟨h,hh⟩:=vE W.heap.size
 have e9:=Hd (bA b8 hh);rw[<-hh]at a7 ⊢;clear b8 hh;go_wp2_with fail
 refine vH (b1.o w2 a7.o.2.2.2) fun w3 e2=>?_;go_wp2_with fail
 refine vC (a3.o w3) fun w4 a4=>?_;have a4:=e2.o.trans a4;have q:=Hd (bA (a7.o.1.ext a4) (bA (a7.o.2.1.ext a4) (a7.o.2.2.1.trans a4)));clear a4;unfold optV;go_wp2_with fail
 obtain⟨i0,d1,e3,e4,e5⟩:=info_parts Tryz.infoStr
 obtain⟨a1,c1,d2⟩:=jaD q.o.2.1.row
 obtain⟨n1,b5⟩:∃ n,n=List.length Tx:=⟨_,rfl⟩
 rw[<-b5]at d2;subst d2;have d3:=Hd b5;have d4:=Hd (show World.ownsRow w4 0 9 1 (.slice a1 n1 c1) n1 (List.map Value.string Tx) by have h9:=q.o.2.1.row;rw[<-b5]at h9;exact h9);have c4:=Hd (jra d4.o);have QG:=Hd (q.o.2.1.var.cell (i:=0) (v:=.slice a1 n1 c1) vF);clear b5
 by_cases hU0:U=[]
 ·have a8:=q.o.1.nil hU0
  subst a8;have QH:=Hd (q.o.1.var.cell (i:=0) (v:=.slice none 0 0) vF);have b9:=Hd hU0;clear hU0;refine jaq [0,1,2,3,4,5,6,7,8,9,10,11,12] [9,12] (Ext) ExtR ExtT vY vY vY ?_;iterate 2 refine vP ?_
  refine qA _ ((.pointer (some ⟨g,0,none⟩))) rfl (fun w1=>by kernel_rfl) ?_;refine vS ?_
  refine vP ?_
  refine qL ⟨g,0,none⟩ _ rfl (fun w1 h1=>jag (fun w=>by kernel_rfl) (jaa QG.o ((jak _).trans h1))) ?_;refine vS ?_
  refine vP ?_
  refine qA _ ((.pointer (some ⟨h,0,none⟩))) rfl (fun w1=>by kernel_rfl) ?_;refine vS ?_
  refine vP ?_
  refine qL ⟨h,0,none⟩ _ rfl (fun w1 h1=>jag (fun w=>by kernel_rfl) (jaa QH.o ((jak _).trans h1))) ?_;refine vS ?_;refine qH _ rfl (fun w5 O K hK=>?_);refine jbk (v:=.slice a1 n1 c1) (w':=w5) (jde (jbZ (i:=i0) Tryz.uStrs d1 a1 n1 c1 c4.o 0 w5) vY) (hK _ _ ?_);have d5:=Hd ((jak _).trans O);clear hK K O;refine vS ?_;refine qA _ ((.pointer (some ⟨g,0,none⟩))) rfl (fun w1=>by kernel_rfl) ?_;refine vS ?_
  refine vP ?_
  refine qH _ rfl (fun w8 H K hK=>?_);have A:=q.o.2.1.ext (d5.o.trans H);have q8:w8.cell? ⟨g,0,none⟩=some (.slice a1 n1 c1):=A.var.cell (i:=0) vF;have f8:w8.frozen? ⟨g,0,none⟩=false:=A.var.frozen;have d6:WrAt w0.heap.size g (.slice a1 n1 c1) Tx (w8.setCell ⟨g,0,none⟩ (.slice a1 n1 c1)):=A.same;have H8:=Hd (bA d6 (bA (d5.o.trans H) A));clear A d6 H;go_simp;refine hK _ _ ?_;clear hK K q8 f8;refine qE (fun w7 O=>?_);have H9:=Hd (H8.o.1.ext O);have c0:=Hd O;clear O;go_wp2_with fail
  go_ret;rw[b9.o,cA]
  exact⟨rfl,_,(WrTo.refl HG.o (q.o.2.2.trans H8.o.2.1)).trans ((H8.o.2.2.sameTo).ext c0.o)⟩
 ·obtain⟨a2,c2,a8⟩:=jaD q.o.1.row
  have a9:=q.o.1.row
  obtain⟨n2,c3⟩:∃ n,n=List.length U:=⟨_,rfl⟩
  rw[<-c3]at a8 a9;rw[a8]at a9
  obtain⟨b2,rfl⟩:=jgp a9 (fun e=>hU0 (bO vO))
  subst a8;have e6:=Hd a9;have d7:=Hd c3.symm;have b9:=Hd hU0;have d8:=Hd (show n1+n2<=200000 by have:=c8.o;have:=d3.o;omega);have QH:=Hd (q.o.1.var.cell (i:=0) (v:=.slice (some ⟨b2,0,none⟩) n2 c2) vF);clear hU0 a9 c3;refine jaq [0,1,2,3,4,5,6,7,8,9,10,11,12] [9,12] (Ext) ExtR ExtT vY vY vY ?_;iterate 2 refine vP ?_
  refine qA _ ((.pointer (some ⟨g,0,none⟩))) rfl (fun w1=>by kernel_rfl) ?_;refine vS ?_
  refine vP ?_
  refine qL ⟨g,0,none⟩ _ rfl (fun w1 h1=>jag (fun w=>by kernel_rfl) (jaa QG.o ((jak _).trans h1))) ?_;refine vS ?_
  refine vP ?_
  refine qA _ ((.pointer (some ⟨h,0,none⟩))) rfl (fun w1=>by kernel_rfl) ?_;refine vS ?_
  refine vP ?_
  refine qL ⟨h,0,none⟩ _ rfl (fun w1 h1=>jag (fun w=>by kernel_rfl) (jaa QH.o ((jak _).trans h1))) ?_;refine vS ?_;refine qH _ rfl (fun w5 O K hK=>?_);have J:=(jak _).trans O;refine jc1 w5 (.tmp 37) (.tmp 41) 34 rfl 9 i0 _ 1 16 Tryz.uStrs d1 e3 e4 e5 rfl vI (.slice a1 n1 c1) n1 _ rfl (jaZ d4.o J) ⟨b2,0,none⟩ n2 c2 (U.map Value.string) rfl (by rw[bS,d7.o,Nat.mul_one]) (fun j u hj=>by rw[Addr.add_lit,bT];exact (jb3 (jaZ e6.o J) hj)) (by intro u hu;obtain⟨y,_,rfl⟩:=bD.1 hu;rfl) (by have:=d8.o;unfold maxLen;omega) (by have:=d8.o;omega) ?_;intro v' w6 r1 r2 r3;have HA:=Hd (bA J (bA r1 (bA r2 r3)))
  obtain⟨a',c',e7⟩:=jaD r1
  subst e7;refine hK _ _ ?_;clear hK K O J r1 r2 r3;refine vS ?_;refine qA _ ((.pointer (some ⟨g,0,none⟩))) rfl (fun w1=>by kernel_rfl) ?_;refine vS ?_
  refine vP ?_
  refine qH _ rfl (fun w8 H K hK=>?_)
  obtain⟨J,r1,r2,r3⟩:=HA.o
  have a5:=q.o.2.1.ext J;have d9:w0.heap.size<=w5.heap.size:=bE a5.lo (Nat.le_of_lt a5.var.lt);have hp:=a5.push (n:=n1+n2) (by rw[bI, <-d3.o,d7.o]) (by rw[bY];exact jaZ r1 H) (r2.trans (H.mono (fun _ _ e=>e.elim))) r3 d9 b9.o;have A:=(a5.var.keeps r2 (fun e=>(a5.own g e).2.1 rfl)).keeps H (fun e=>e);have q8:w8.cell? ⟨g,0,none⟩=some (.slice a1 n1 c1):=A.cell (i:=0) vF;have f8:w8.frozen? ⟨g,0,none⟩=false:=A.frozen;have H8:=Hd (bA hp J);clear J r1 r2 r3 a5 d9 hp A H;go_simp;refine hK _ _ ?_;clear hK K q8 f8;refine qE (fun w7 O=>?_);have c0:=Hd O;clear O;go_wp2_with fail
  go_ret
  exact⟨rfl,_,((WrTo.refl HG.o (q.o.2.2.trans H8.o.2)).trans H8.o.1).ext c0.o⟩
theorem jup(hT:TopC P)(hz:¬(textP P).size < 32)(w0 W:vW)(T:TypeId)(x:vV)(D:Nat->Prop)(g:Nat)(v:vV)(Tx:vM)(hc:jbA w0)(O:ErrT w0)(hP:PaO P (.iface T x) D w0)(hE:Ext w0 W)(hW:WrAt w0.heap.size g v Tx W)(hl:Tx.length+cntP P<=100000) :
  vQ 274 #[.pointer (some ⟨g,0,none⟩),.iface T x] W (FoP w0.heap.size g v W (.string (refB (textP P))) (Tx++(textP P :: underP P))):=by
 obtain⟨W1,c3⟩:=vE (W.alloc (.cells #[.slice none 0 0] 247))
 have d0:Ext W W1:=by rw[c3];exact (ExtR W).alloc _
 have d1:WrAt w0.heap.size W.heap.size (.slice none 0 0) [] W1:=⟨hE.size,by rw[c3];exact Blk.new W _,fE _ _ _ _,fun b hb=>(by cases hb),fun _=>rfl⟩;have a3:=hT w0 W1 T x D W.heap.size (.slice none 0 0) [] hc O hP (hE.trans d0) d1 (by have:([]:vM).length=0:=rfl;omega);rw[cN]at a3;have b5:=Hd a3;clear a3;have e0:=Hd c3;have f9:=e0;have HG:=Hd hW;have X:=Hd (bA d1 (bA d0 hE));have g0:=hc;have b6:=Hd (fun w (e:Ext w0 w)=>jwh w (textP P) (hc.ext e));have a4:=Hd (fun w=>jdf w (refB (textP P)) (by have:=jlJ (textP P);omega) (jjC P));rw[jte _ hz]at a4;have e1:Tx.length+(underP P).length<=100000:=by
  cases hn:P.isNil with
  | true=>rw[jcW hn];show Tx.length+0<=_;omega
  | false=>have:=jdk P hn;omega
 have d2:=Hd e1
 obtain⟨U,hU⟩:=vE (underP P)
 obtain⟨t,ht⟩:=vE (textP P)
 rw[<-ht, <-hU]at b5;rw[<-ht]at b6 a4 ⊢;rw[<-hU]at d2 ⊢;clear hT hz hc O hP hE hW hl d0 d1 e1 hU ht c3 f9 g0;go_enter Tryz.func274,Tryz.ntmps274;go_wp2_with fail
 rw[<-e0.o];refine b5.o.mono ?_;rintro e w2 ⟨rfl,v2,Z⟩;have d3:g≠W.heap.size:=by have:=HG.o.var.lt;omega
 have b7:=Z.ext0 X.o.1 (X.o.2.2.trans X.o.2.1) (bL _);have e2:WrAt w0.heap.size g v Tx w2:=(HG.o.ext X.o.2.1).off Z.kp (fun e=>e.elim d3 (fun e=>by cases e)) (fun b hb e=>e.elim (fun e=>by have:=(HG.o.own b hb).2.2;omega) (fun e=>by cases e));have e3:Ext W w2:=X.o.2.1.trans' Z.kp (fun x hx e=>e.elim (fun e=>by omega) (fun e=>by cases e));have d8:Hid (∀ b,v2.ownBlock=some b->W.heap.size<=b):=(fun b hb=>(Z.sub b hb).elim (fun e=>by cases e) (fun e=>bE X.o.2.1.size e));have a8:=Hd (bA Z.at' (bA e2 (bA e3 b7)));clear Z e2 e3 b7
 obtain⟨h,hh⟩:=vE W.heap.size
 have e4:=Hd (bA d3 hh);rw[<-hh]at a8 ⊢;clear d3 hh;go_wp2_with fail
 refine vH (b6.o w2 a8.o.2.2.2) fun w3 g2=>?_;go_wp2_with fail
 refine vC (a4.o w3) fun w4 a5=>?_;have a5:=g2.o.trans a5;have q:=Hd (bA (a8.o.1.ext a5) (bA (a8.o.2.1.ext a5) (a8.o.2.2.1.trans a5)));clear a5;unfold optV
 obtain⟨i0,a9,c4,c5,c7⟩:=info_parts Tryz.infoStr
 have b0:=q.o.2.1
 obtain⟨a0,c0,g3⟩:=jaD b0.row
 have q4:=b0.var.cell (i:=0) (v:=v) vF;have e5:=Hd (show Tx.length<=100000 by have:=d2.o;omega);have g4:=Hd b0.row;have b1:=Hd b0;clear b0;subst g3;go_wp2_with (at_builtin;refine jbn _ rfl (.tmp 27) (.tmp 29) 34 rfl 9 i0 _ 1 16 Tryz.uStrs a9 c4 c5 c7 rfl vI (.slice a0 Tx.length c0) Tx.length _ rfl (jaZ g4.o ((ExtR w4).alloc _)) ⟨w4.heap.size,0,none⟩ 1 1 [.string t] rfl rfl (jaN (Blk.new w4 _)) (by simp[Value.oneCell']) (by have:=e5.o;unfold maxLen;omega) (by have:=e5.o;omega) ?_;intro v' w6 r1 r2 r3;obtain⟨e6,e7,rfl⟩:=jaD r1;have g5:=b1.o.var.lt;have d4:=(b1.o.var.alloc (.cells #[.string t] 9)).keeps r2 (fun e=>(b1.o.own g e).2.1 rfl);have g6:w6.cell? ⟨g,0,none⟩=some (.slice a0 Tx.length c0):=d4.cell (i:=0) vF;have g7:w6.frozen? ⟨g,0,none⟩=false:=d4.frozen)
 obtain⟨wS,e8⟩:=vE (w6.setCell ⟨g,0,none⟩ (.slice e6 (Tx.length+1) e7))
 have b8:=b1.o.ext ((ExtR w4).alloc (.cells #[.string t] 9));have hp:=b8.push (n:=Tx.length+1) (New:=[t]) (by simp) (by rw[bY];exact r1) r2 r3 (by have:=b1.o.lo;rw[bF];omega) (by simp);rw[<-e8]at hp ⊢;have hp:=WrTo.ahead ((ExtR w4).alloc (.cells #[.string t] 9)) hp;have e9:=q.o.1.off hp.kp (fun e=>e.elim (fun e=>by have:=HG.o.var.lt;have:=e4.o.2;omega) (fun e=>by have:=(HG.o.own h e).2.2;have:=e4.o.2;omega)) (fun b hb e=>by
  have h1:=d8.o b hb;rcases e with e | e
  ·have:=HG.o.var.lt;omega
  ·have:=(HG.o.own b e).2.2;omega)
 have b9:WrTo w0.heap.size g (.slice a0 Tx.length c0) W wS (.slice e6 (Tx.length+1) e7) (Tx++[t]):=(WrTo.refl HG.o q.o.2.2).trans hp;have c8:∃ v1,WrAt w0.heap.size h v2 U wS/\WrAt w0.heap.size g v1 (Tx++[t]) wS/\WrTo w0.heap.size g (.slice a0 Tx.length c0) W wS v1 (Tx++[t]):=⟨_,e9,hp.at',b9⟩
 obtain⟨v1,c8⟩:=c8
 clear q hp b8 e8 e9 b9 g6 g7 d4 r1 r2 r3 g5 q4;have q:=Hd c8;clear c8 a9 c4 c5 c7
 obtain⟨i0,a9,c4,c5,c7⟩:=info_parts Tryz.infoStr
 obtain⟨a1,c1,f0⟩:=jaD q.o.2.1.row
 obtain⟨n1,c9⟩:∃ n,n=List.length (Tx++[t]):=⟨_,rfl⟩
 rw[<-c9]at f0;subst f0;have f1:=Hd c9;have f2:=Hd (show World.ownsRow wS 0 9 1 (.slice a1 n1 c1) n1 (List.map Value.string (Tx++[t])) by have h9:=q.o.2.1.row;rw[<-c9]at h9;exact h9);have d9:=Hd (jra f2.o);have QG:=Hd (q.o.2.1.var.cell (i:=0) (v:=.slice a1 n1 c1) vF);clear c9
 by_cases hU0:U=[]
 ·have b3:=q.o.1.nil hU0
  subst b3;have QH:=Hd (q.o.1.var.cell (i:=0) (v:=.slice none 0 0) vF);have d5:=Hd hU0;clear hU0;refine jaq [0,1,2,3,4,5,6,7,8,9,10,11,12] [9,12] (Ext) ExtR ExtT vY vY vY ?_;iterate 2 refine vP ?_
  refine qA _ ((.pointer (some ⟨g,0,none⟩))) rfl (fun w1=>by kernel_rfl) ?_;refine vS ?_
  refine vP ?_
  refine qL ⟨g,0,none⟩ _ rfl (fun w1 h1=>jag (fun w=>by kernel_rfl) (jaa QG.o ((jak _).trans h1))) ?_;refine vS ?_
  refine vP ?_
  refine qA _ ((.pointer (some ⟨h,0,none⟩))) rfl (fun w1=>by kernel_rfl) ?_;refine vS ?_
  refine vP ?_
  refine qL ⟨h,0,none⟩ _ rfl (fun w1 h1=>jag (fun w=>by kernel_rfl) (jaa QH.o ((jak _).trans h1))) ?_;refine vS ?_;refine qH _ rfl (fun w5 O K hK=>?_);refine jbk (v:=.slice a1 n1 c1) (w':=w5) (jde (jbZ (i:=i0) Tryz.uStrs a9 a1 n1 c1 d9.o 0 w5) vY) (hK _ _ ?_);have f3:=Hd ((jak _).trans O);clear hK K O;refine vS ?_;refine qA _ ((.pointer (some ⟨g,0,none⟩))) rfl (fun w1=>by kernel_rfl) ?_;refine vS ?_
  refine vP ?_
  refine qH _ rfl (fun w8 H K hK=>?_);have A:=q.o.2.1.ext (f3.o.trans H);have q8:w8.cell? ⟨g,0,none⟩=some (.slice a1 n1 c1):=A.var.cell (i:=0) vF;have f8:w8.frozen? ⟨g,0,none⟩=false:=A.var.frozen;have f4:WrAt w0.heap.size g (.slice a1 n1 c1) (Tx++[t]) (w8.setCell ⟨g,0,none⟩ (.slice a1 n1 c1)):=A.same;have H8:=Hd (bA f4 (bA (f3.o.trans H) A));clear A f4 H;go_simp;refine hK _ _ ?_;clear hK K q8 f8;refine qE (fun w7 O=>?_);have H9:=Hd (H8.o.1.ext O);have d6:=Hd O;clear O;go_wp2_with fail
  go_ret;rw[d5.o]
  exact⟨rfl,_,(q.o.2.2.ext H8.o.2.1).trans ((H8.o.2.2.sameTo).ext d6.o)⟩
 ·obtain⟨a2,c2,b3⟩:=jaD q.o.1.row
  have b4:=q.o.1.row
  obtain⟨n2,d7⟩:∃ n,n=List.length U:=⟨_,rfl⟩
  rw[<-d7]at b3 b4;rw[b3]at b4
  obtain⟨b2,rfl⟩:=jgp b4 (fun e=>hU0 (bO vO))
  subst b3;have g8:=Hd b4;have f5:=Hd d7.symm;have d5:=Hd hU0;have f6:=Hd (show n1+n2<=200000 by have:=d2.o;have h9:=f1.o;rw[bI,List.length_singleton]at h9;omega);have QH:=Hd (q.o.1.var.cell (i:=0) (v:=.slice (some ⟨b2,0,none⟩) n2 c2) vF);clear hU0 b4 d7;refine jaq [0,1,2,3,4,5,6,7,8,9,10,11,12] [9,12] (Ext) ExtR ExtT vY vY vY ?_;iterate 2 refine vP ?_
  refine qA _ ((.pointer (some ⟨g,0,none⟩))) rfl (fun w1=>by kernel_rfl) ?_;refine vS ?_
  refine vP ?_
  refine qL ⟨g,0,none⟩ _ rfl (fun w1 h1=>jag (fun w=>by kernel_rfl) (jaa QG.o ((jak _).trans h1))) ?_;refine vS ?_
  refine vP ?_
  refine qA _ ((.pointer (some ⟨h,0,none⟩))) rfl (fun w1=>by kernel_rfl) ?_;refine vS ?_
  refine vP ?_
  refine qL ⟨h,0,none⟩ _ rfl (fun w1 h1=>jag (fun w=>by kernel_rfl) (jaa QH.o ((jak _).trans h1))) ?_;refine vS ?_;refine qH _ rfl (fun w5 O K hK=>?_);have J:=(jak _).trans O;refine jc1 w5 (.tmp 37) (.tmp 41) 34 rfl 9 i0 _ 1 16 Tryz.uStrs a9 c4 c5 c7 rfl vI (.slice a1 n1 c1) n1 _ rfl (jaZ f2.o J) ⟨b2,0,none⟩ n2 c2 (U.map Value.string) rfl (by rw[bS,f5.o,Nat.mul_one]) (fun j u hj=>by rw[Addr.add_lit,bT];exact (jb3 (jaZ g8.o J) hj)) (by intro u hu;obtain⟨y,_,rfl⟩:=bD.1 hu;rfl) (by have:=f6.o;unfold maxLen;omega) (by have:=f6.o;omega) ?_;intro v' w6 r1 r2 r3;have HA:=Hd (bA J (bA r1 (bA r2 r3)))
  obtain⟨a',c',g9⟩:=jaD r1
  subst g9;refine hK _ _ ?_;clear hK K O J r1 r2 r3;refine vS ?_;refine qA _ ((.pointer (some ⟨g,0,none⟩))) rfl (fun w1=>by kernel_rfl) ?_;refine vS ?_
  refine vP ?_
  refine qH _ rfl (fun w8 H K hK=>?_)
  obtain⟨J,r1,r2,r3⟩:=HA.o
  have a7:=q.o.2.1.ext J;have f7:w0.heap.size<=w5.heap.size:=bE a7.lo (Nat.le_of_lt a7.var.lt);have hp:=a7.push (n:=n1+n2) (by rw[bI, <-f1.o,f5.o]) (by rw[bY];exact jaZ r1 H) (r2.trans (H.mono (fun _ _ e=>e.elim))) r3 f7 d5.o;have A:=(a7.var.keeps r2 (fun e=>(a7.own g e).2.1 rfl)).keeps H (fun e=>e);have q8:w8.cell? ⟨g,0,none⟩=some (.slice a1 n1 c1):=A.cell (i:=0) vF;have f8:w8.frozen? ⟨g,0,none⟩=false:=A.frozen;have H8:=Hd (bA hp J);clear J r1 r2 r3 a7 f7 hp A H;go_simp;refine hK _ _ ?_;clear hK K q8 f8;refine qE (fun w7 O=>?_);have d6:=Hd O;clear O;go_wp2_with fail
  go_ret;rw[show Tx++t :: U=Tx++[t]++U by rw[cE];rfl]
  exact⟨rfl,_,((q.o.2.2.ext H8.o.2).trans H8.o.1).ext d6.o⟩
theorem juS(hT:TopC P):ju7 P:=by
 intro w0 W T x D g v e q A H J K O;unfold bigs
 by_cases hz:(textP P).size < 32
 ·rw[if_pos hz]
  exact joH P hT hz w0 W T x D g v e q A H J K O
 ·rw[if_neg hz]
  exact jup P hT hz w0 W T x D g v e q A H J K O
theorem jlh(k:Int)(p v r r':vB):(jbW k p v r).toArray.setIfInBounds 3 (.string r')=(jbW k p v r').toArray:=by simp[jbW]
theorem jvx(W:vW)(q:vB)(n:PA)(T:TypeId)(x:vV)(Dn:Nat->Prop)(b:Nat)(hB:Blk w0 b (.cells #[.string q,.iface T x] 381))(hv:PaO n (.iface T x) Dn w0)(hR:ju7 n)(g:Nat)(v:vV)(Tx:vM)(hc:jbA w0)(he:ErrT w0)(hE:Ext w0 W)(hW:WrAt w0.heap.size g v Tx W)(hl:Tx.length+cntP n<=100000) :
  vQ 291 #[.pointer (some ⟨b,0,none⟩),.pointer (some ⟨g,0,none⟩)] W (FoP w0.heap.size g v W (jae.V ⟨2,q,⟨#[]⟩,refB (textP n) :: jaw 15⟩) (Tx++(bigs (textP n)++underP n))):=by
 have Q0:=Hd (hB.cell (i:=0) (v:=.string q) vF);have Q1:=Hd (hB.cell (i:=1) (v:=.iface T x) vF);have HW:=Hd (bA hW hE);have a0:=Hd (fun w (e:Ext w0 w) (k:WrAt w0.heap.size g v Tx w)=>hR w0 w T x Dn g v Tx hc he hv e k hl)
 obtain⟨t,ht⟩:=vE (refB (textP n))
 obtain⟨U,hU⟩:=vE (Tx++(bigs (textP n)++underP n))
 rw[<-ht, <-hU]at a0;rw[<-ht, <-hU];clear hB hv hR hc he hE hW hl ht hU;have c7:∀ w,(Instr.build 206 #[(0,.int .i64 2),(1,.string q)]).run Tryz.prog w=.ok (.agg (jbW 2 q ⟨#[]⟩ ⟨#[]⟩).toArray) w:=fun w=>by kernel_rfl
 go_enter Tryz.func291,Tryz.ntmps291;go_wp2_with (first |(refine jah (w:=W) Tryz.allocNode rfl rfl ?_;intro A b3 a4;have b4:=Hd b3;have b5:=Hd a4;have q0:=jaa Q0.o (HW.o.2.trans a4);clear b3 a4) |(refine jah (w:=A) Tryz.allocNode rfl rfl ?_;intro W2 b6 a5) |(refine jad (vs:=jbW 2 q ⟨#[]⟩ ⟨#[]⟩) rfl rfl rfl rfl b6 rfl Tryz.szNode (jbX _ _ _ _) ?_;intro W3 a7 a8;have q1:=jaa (jaa Q1.o (HW.o.2.trans b5.o)) (a5.trans' a8 (fun x hx e=>by have e:x=A.heap.size:=e;omega))))
 have J:Ext A W3:=a5.trans' a8 (fun x hx e=>by have e:x=A.heap.size:=e;omega);have K:=Hd (bA a7 (bA (b4.o.keeps J (fun e=>e)) (b5.o.trans J)));have b7:=b4.o.lt;have HN:=Hd (show W.heap.size < A.heap.size/\A.heap.size < W3.heap.size from⟨b7,a7.lt⟩);clear b6 a5 a7 a8 J b7;refine (a0.o W3 (HW.o.2.trans K.o.2.2) (HW.o.1.ext K.o.2.2)).mono ?_;rintro e w4 ⟨rfl,v4,H⟩;have c1:=HW.o.1.var.lt;have a9:A.heap.size≠g:=by have:=HN.o.1;omega
 have b0:v.ownBlock≠some A.heap.size:=fun e=>by have:=(HW.o.1.own _ e).2.2;have:=HN.o.1;omega
 have O:=H.blk K.o.1 a9 b0;have a1:=H.blk K.o.2.1 vO (fun e=>by have:=(HW.o.1.own _ e).2.2;omega);have qf:w4.cell? ⟨A.heap.size,3,none⟩=some (.string ⟨#[]⟩):=O.cellL (i:=3) vF;have ff:w4.frozen? ⟨A.heap.size,3,none⟩=false:=O.frozen
 obtain⟨W5,X⟩:=vE (w4.setCell ⟨A.heap.size,3,none⟩ (.string t))
 have c2:Blk W5 A.heap.size (.cells (jbW 2 q ⟨#[]⟩ t).toArray 206):=by
  have:=O.set_same (i:=3) (.string t)
  rw[jlh]at this;rw[X];exact this
 have b1:jac (fun z=>z=A.heap.size) w4 W5:=by rw[X];exact jac.oneSet w4 ⟨A.heap.size,3,none⟩ (.string t)
 have a2:Blk W5 W.heap.size (.cells jas.cells.toArray 206):=a1.keeps b1 (fun e=>by have:=HN.o.1;have e:W.heap.size=A.heap.size:=e;omega);have b8:v4.ownBlock≠some A.heap.size:=fun e=>by
  rcases H.sub _ e with e | e
  ·exact b0 e
  ·have:=HN.o.2;omega
 have b9:=(WrTo.ahead K.o.2.2 H).fill b1 a9 b8 (by have:=HN.o.1;omega);have a3:v4.ownBlock≠some W.heap.size:=fun e=>by
  rcases H.sub _ e with e | e
  ·have:=(HW.o.1.own _ e).2.2;omega
  ·have:=HN.o.1;have:=HN.o.2;omega
 have Z:=Hd (bA b9 (bA a2 (bA a3 (show W.heap.size≠g by omega))));have b2:=Hd X;clear H c1 a9 b0 O a1 b1 b8 b9 a3 X a2 q0 q1;have c3:Blk (w4.setCell ⟨A.heap.size,3,none⟩ (.string t)) A.heap.size (.cells (jae.cells ⟨2,q,⟨#[]⟩,t :: jaw 15⟩).toArray 206):=by rw[<-b2.o];exact c2
 have c4:Blk (w4.setCell ⟨A.heap.size,3,none⟩ (.string t)) W.heap.size (.cells jas.cells.toArray 206):=by rw[<-b2.o];exact Z.o.2.1
 go_wp2_with (refine jaf 206 (.tmp 5) rfl rfl _ _ rfl (jap _ _ ⟨2,q,⟨#[]⟩,t :: jaw 15⟩ rfl c3) ?_;refine jad (vs:=jae.cells ⟨2,q,⟨#[]⟩,t :: jaw 15⟩) rfl rfl rfl rfl c4 rfl Tryz.szNode (jae.one _) ?_;intro W8 c5 c0)
 rw[<-b2.o]at c0;refine bodyPost_ret (jbl rfl rfl (jat W8 _ ⟨2,q,⟨#[]⟩,t :: jaw 15⟩ rfl c5)) rfl ?_
 exact⟨rfl,v4,Z.o.1.fill c0 Z.o.2.2.2 Z.o.2.2.1 (bL _)⟩
def bfN(u:vB)(rs:vM)(k:Nat):jae:=⟨3,⟨#[]⟩,u,rs.take k++jaw (16 - k)⟩
theorem jvd(h:rs.length=16)(hk:k < 16)(r:vB)(hr:rs[k]?=some r):(bfN u rs k).cells.set (3+k) (.string r)=(bfN u rs (k+1)).cells:=by
 have e:(rs.take k++jaw (16 - k)).set k r=rs.take (k+1)++jaw (16 - (k+1)):=by
  rw[dK _ _ (by simp[h];omega)]
  have:k - (rs.take k).length=0:=by simp[h];omega
  rw[this,show 16 - k=(16 - (k+1))+1 by omega];unfold jaw;rw[dQ,dG,bX,hr];simp
 unfold jae.cells bfN;simp only;rw[show 3+k=k+1+1+1 by omega,dB,dB,dB, <-e,gB]
theorem jso(h:rs.length=16)(hk:k < 16)(hr:rs[k]?=some ⟨#[]⟩):bfN u rs (k+1)=bfN u rs k:=by
 unfold bfN;rw[bX,hr,show 16 - k=(16 - (k+1))+1 by omega];unfold jaw;rw[dQ];simp
theorem jvc(h:rs.length=16)(hk:k<=16):(bfN u rs k).refs.length=16:=by
 unfold bfN jaw;simp[h];omega
theorem jzd(rs:vM):(bfN u rs 0).cells=jbW 3 ⟨#[]⟩ u ⟨#[]⟩:=rfl
theorem jxA(h:rs.length=16):bfN u rs 16=⟨3,⟨#[]⟩,u,rs⟩:=by
 unfold bfN jaw;rw[cF vO];simp
noncomputable def underK(ks:Nat->PA)(k:Nat):vM:=(List.range k).flatMap fun i=>if (ks i).isNil then []else bigs (textP (ks i))++underP (ks i)
theorem jlS(k:Nat):underK ks (k+1)=underK ks k++(if (ks k).isNil then []else bigs (textP (ks k))++underP (ks k)):=by
 unfold underK;rw[gI,dZ]
 simp
theorem joF(k:Nat):(underK ks k).length<=sumF (fun i=>cntP (ks i)) k:=jfz _ _ (fun i=>by
 show (if (ks i).isNil=true then ([]:vM)else bigs (textP (ks i))++underP (ks i)).length<=cntP (ks i);cases hn:(ks i).isNil with
 | true=>rw[if_pos rfl];exact cB _
 | false =>
  rw[if_neg ff,bI];have e:=ji1 (textP (ks i))
  have:=jdk (ks i) hn
  omega) k
noncomputable def refsK(ks:Nat->PA):vM:=(List.range 16).map fun i=>if (ks i).isNil then ⟨#[]⟩else refB (textP (ks i))
theorem jcK:(refsK ks).length=16:=by unfold refsK;simp
theorem jtZ(hk:k < 16):(refsK ks)[k]?=some (if (ks k).isNil then ⟨#[]⟩else refB (textP (ks k))):=by
 unfold refsK;rw[bV,fF hk];rfl
def jyM(z g:Nat)(v:vV)(W:vW)(L:Nat)(u:vB)(rs:vM)(Tx:vM)(ks:Nat->PA)(iv:vV)(wr:vW):Prop:=
 ∃ k:Nat,k<=16/\iv=.int .i64 k/\∃ v',WrTo z g v W wr v' (Tx++underK ks k)/\Blk wr L (.cells (bfN u rs k).cells.toArray 206)/\Blk wr W.heap.size (.cells jas.cells.toArray 206)/\v'.ownBlock≠some L/\v'.ownBlock≠some W.heap.size
theorem jve(W:vW)(u:vB)(ks:Nat->PA)(b:Nat)(vk:Nat->vV)(Dk:Nat->Nat->Prop)(hb:BrRd u ks b vk Dk w0)(hR:∀ i,i < 16->(ks i).isNil=false->ju7 (ks i))(g:Nat)(v:vV)(Tx:vM)(hc:jbA w0)(he:ErrT w0)(hE:Ext w0 W)(hW:WrAt w0.heap.size g v Tx W)(hl:Tx.length+(1+sumF (fun i=>cntP (ks i)) 16)<=100000) :
  vQ 295 #[.pointer (some ⟨b,0,none⟩),.pointer (some ⟨g,0,none⟩)] W (FoP w0.heap.size g v W (jae.V ⟨3,⟨#[]⟩,u,refsK ks⟩) (Tx++underK ks 16)):=by
 have q0:=jaa (hb.blk.cellL (i:=0) (v:=.string u) vF) hE;have HB:=Hd hb;have HW:=Hd (bA hW hE);have b3:=Hd (fun(k:Nat) (hk:k < 16) (hn:(ks k).isNil=false) (T:TypeId) (x:vV) (hx:vk k=.iface T x) (w:vW) (v':vV) (e:Ext w0 w) (h:WrAt w0.heap.size g v' (Tx++underK ks k) w)=>hR k hk hn w0 w T x (Dk k) g v' (Tx++underK ks k) hc he (hx ▸ hb.kid k hk) e h (by
  have h1:=joF ks k;have h2:=jeI (fun i=>cntP (ks i)) (k+1) (15 - k);rw[show k+1+(15 - k)=16 by omega]at h2;have h3:sumF (fun i=>cntP (ks i)) k+cntP (ks k)<=sumF (fun i=>cntP (ks i)) 16:=h2;rw[bI];omega))
 have d6:=jjm;clear hR hc he hl;have d7:∀ w,(Instr.build 206 #[(0,.int .i64 3),(2,.string u)]).run Tryz.prog w=.ok (.agg (jbW 3 ⟨#[]⟩ u ⟨#[]⟩).toArray) w:=fun w=>by kernel_rfl
 clear hb hW hE;go_enter Tryz.func295,Tryz.ntmps295;go_wp2_with (first |(refine jah (w:=W) Tryz.allocNode rfl rfl ?_;intro W1 b4 a3;have a4:=Hd b4;have a5:=Hd a3;have q1:=jaa q0 a3;clear b4 a3) |(refine jah (w:=W1) Tryz.allocNode rfl rfl ?_;intro W2 b5 b6) |(refine jad (vs:=jbW 3 ⟨#[]⟩ u ⟨#[]⟩) rfl rfl rfl rfl b5 rfl Tryz.szNode (jbX _ _ _ _) ?_;intro W3 a7 b7;have K:Ext W1 W3:=b6.trans' b7 (fun x hx e=>by have e:x=W1.heap.size:=e;omega);have b8:=jaX (HB.o.blk.keeps ((HW.o.2.trans a5.o).trans K) (fun e=>e))) |(refine jaf 383 (.tmp 15) rfl rfl _ _ rfl b8 ?_))
 have Z:=Hd (bA a7 (bA (a4.o.keeps K (fun e=>e)) (a5.o.trans K)));have q:=a4.o.lt;have HN:=Hd (show W.heap.size < W1.heap.size/\W1.heap.size < W3.heap.size from⟨q,a7.lt⟩);clear b5 b6 a7 b7 K q b8 q0 q1
 obtain⟨L,hL⟩:=vE W1.heap.size
 rw[<-hL]at Z HN ⊢;clear hL a4 a5;have HG:=Hd HW.o.1.var.lt;go_loopw [17] (fun iv wr=>jyM w0.heap.size g v W L u (refsK ks) Tx ks iv wr) (fun iv _=>16 - (intOf iv).toNat)
 case atStart =>
  have:=HN.o
  have hg:=HG.o
  exact⟨0,by omega,rfl,v,by rw[show underK ks 0=[]from rfl,cA];exact WrTo.refl HW.o.1 Z.o.2.2,by rw[jzd];exact Z.o.1,Z.o.2.1,fun e=>by have:=(HW.o.1.own _ e).2.2;omega,fun e=>by have:=(HW.o.1.own _ e).2.2;omega⟩
 case round =>
  obtain⟨k,hk,rfl,v1,hT,b9,c0,c1,c2⟩:=hrel
  have A:=Hd (bA hT (bA b9 (bA c0 (bA c1 c2))));clear hT b9 c0 c1 c2
  by_cases q:k < 16
  ·have c3:=jd2 vk q
   have O:=jlS ks k;have H:=jtZ ks q;rcases (HB.o.kid k q).at'.kid with⟨hn,hv⟩ |⟨hn,T,x,hv⟩
   ·rw[hn,if_pos rfl,cA]at O
    rw[hn,if_pos rfl]at H;rw[hv]at c3;have c9:=Hd O;have d0:=Hd (jso u (jcK ks) q H);clear O hn hv H;go_wp2;go_roundw
    case rel=>exact⟨k+1,by omega,by go_num,v1,by rw[c9.o];exact A.o.1,by rw[d0.o];exact A.o.2.1,A.o.2.2.1,A.o.2.2.2⟩
    case measure=>exact vJ
   ·rw[hn,if_neg ff]at O
    rw[hn,if_neg ff]at H;rw[hv]at c3;have hq:=jcY T x;have J:=Hd (b3.o k q hn T x hv wr v1 (A.o.1.ext0 HW.o.1 HW.o.2 (bL _)) A.o.1.at');rw[cE, <-O]at J
    obtain⟨r,hr⟩:=vE (refB (textP (ks k)))
    rw[<-hr]at H J;have d1:=Hd H;clear O hn hv H hr;have b2:(k:Int) < 16:=vO
    go_wp2_with fail
    refine J.o.mono ?_;rintro e w4 ⟨rfl,v4,X⟩;have a8:L≠g:=by have:=HN.o.1;have:=HG.o;omega
    have c4:W.heap.size≠g:=by have:=HG.o;omega
    have a2:=X.blk A.o.2.1 a8 A.o.2.2.2.1;have a0:=X.blk A.o.2.2.1 c4 A.o.2.2.2.2;have a9:∀ y,y < wr.heap.size->v1.ownBlock≠some y->v4.ownBlock≠some y:=fun y hy h1 e=>by
     rcases X.sub y e with e | e
     ·exact h1 e
     ·omega
    have b0:=a9 L A.o.2.1.lt A.o.2.2.2.1;have c5:=a9 W.heap.size A.o.2.2.1.lt A.o.2.2.2.2;have d2:(bfN u (refsK ks) k).cells.length=19:=jae.cells_len _ (jvc u (jcK ks) hk)
    obtain⟨old,qf⟩:∃ v,w4.cell? ⟨L,3+k,none⟩=some v:=⟨_,a2.cellL (bB vO)⟩
    have d8:w4.frozen? ⟨L,3+k,none⟩=false:=a2.frozen;have b1:=a2.set_same (i:=3+k) (.string r);rw[show (bfN u (refsK ks) k).cells.toArray.setIfInBounds (3+k) (.string r)=((bfN u (refsK ks) k).cells.set (3+k) (.string r)).toArray by simp,jvd u (jcK ks) q r d1.o]at b1;have K5:jac (fun z=>z=L) w4 (w4.setCell ⟨L,3+k,none⟩ (.string r)):=jac.oneSet w4 ⟨L,3+k,none⟩ (.string r);have a1:=a0.keeps K5 (fun e=>by have e:W.heap.size=L:=e;have:=HN.o.1;omega);have c7:=(A.o.1.trans X).fill K5 a8 b0 (by have:=HN.o.1;omega);have H5:=Hd (bA c7 (bA b1 (bA a1 (bA b0 c5))));clear X a8 c4 a2 a0 a9 b0 c5 d2 b1 K5 a1 c7;go_wp2_with fail
    go_roundw
    case rel=>exact⟨k+1,by omega,by go_num,v4,H5.o⟩
    case measure=>exact vJ
  ·obtain rfl:k=16:=vO
   have c8:=A.o.2.1;rw[jxA u (jcK ks)]at c8;have d3:=A.o.2.2.1;go_wp2_with (refine jaf 206 (.tmp 5) rfl rfl _ _ rfl (jap _ _ ⟨3,⟨#[]⟩,u,refsK ks⟩ (jcK ks) c8) ?_;refine jad (vs:=jae.cells ⟨3,⟨#[]⟩,u,refsK ks⟩) rfl rfl rfl rfl d3 (by rw[jae.cells_len _ (jcK ks)];rfl) (by rw[jae.cells_len _ (jcK ks)];exact Tryz.szNode) (jae.one _) ?_;intro W8 d4 d5)
   refine bodyPost_ret (jbl rfl rfl (jat W8 _ ⟨3,⟨#[]⟩,u,refsK ks⟩ (jcK ks) d4)) rfl ?_
   exact⟨rfl,v1,A.o.1.fill d5 (by have:=HG.o;omega) A.o.2.2.2.2 (bL _)⟩
end
section
open Go Go.RowKit
theorem jjr:∀ (P:PA),PutP P->jw4 P
 | .nil=>fun _ w0 W T x D g v A O X h J H K=>by cases h.at'
 | .no=>fun _ w0 W T x D g v A O X h J H K=>by
  have e:Value.iface T x=noV:=h.at';unfold noV at e;injection e with e1 e2;subst e1 e2;show Calls _ _ _ W (FoP w0.heap.size g v W jas.V (A++[]));rw[cA];exact jtL _ g v A W H
 | .leaf q u=>fun _ w0 W T x D g v A O X h J H K=>by
  obtain⟨b,e,h1,Z⟩:=h.at'
  unfold jh4 at e;injection e with e1 e2;subst e1 e2;show Calls _ _ _ W (FoP w0.heap.size g v W (jae.V ⟨1,q,u,jaw 16⟩) (A++[]));rw[cA];exact jvS w0 _ g v A W J q u b Z H
 | .ext q m=>fun hp w0 W T x D g v A O X h J H K=>by
  obtain⟨b,T',x',Dn,e,h1,Z,h3,h4,h5⟩:=h.at'
  unfold extV at e;injection e with e1 e2;subst e1 e2;have K:A.length+(1+cntP m)<=100000:=K;have hn:m.isNil=false:=by
   cases m with
   | nil=>cases h3
   | _=>rfl
  exact jvx w0 W q m T' x' Dn b Z ⟨h3,fun z hz=>h.lt z (h5 z hz)⟩ (juS m (jr0 m hn hp.2 (jjr m hp.2))) g v A O X J H vO
 | .br u ks=>fun hp w0 W T x D g v A O X h J H K=>by
  obtain⟨b,vk,Dk,e,h1,Z,h3,h4⟩:=h.at'
  unfold brV at e;injection e with e1 e2;subst e1 e2;have hb:BrRd u ks b vk Dk w0:=⟨Z,fun i hi=>⟨(h3 i hi).1,fun z hz=>h.lt z ((h3 i hi).2.2 z hz)⟩⟩;exact jve w0 W u ks b vk Dk hb (fun i _ hn=>juS (ks i) (jr0 (ks i) hn (hp.2 i) (jjr (ks i) (hp.2 i)))) g v A O X J H K
end
section
open Go Go.RowKit
attribute [local go_sem] Oper.semAt_some
end
section
open Go Go.RowKit
theorem jfb:∀ (xs:List Chg) (j:Nat) (p:Chg),xs[j]?=some p->(jb5 xs)[j * 3]?=some (.string p.key)/\(jb5 xs)[j * 3+1]?=some (.string p.value)/\(jb5 xs)[j * 3+2]?=some (.bool p.gone)
 | [],j,p,h=>by simp at h
 | x :: r,0,p,h=>by simp at h;subst h;exact⟨rfl,rfl,rfl⟩
 | x :: r,j+1,p,h=>by
  obtain⟨e,q,A⟩:=jfb r j p (by simpa using h)
  rw[show (j+1) * 3=j * 3+3 by omega]
  exact⟨e,q,A⟩
theorem CRow.rdT{w0 w:vW}{xs:List Chg}(h:CRow w0 w v n xs):RdC w v xs:=by
 have A:xs.length=n:=by have:=h.len;rw[jf7]at this;omega
 obtain⟨_,⟨rfl,h2⟩ |⟨g,e,H,rfl,h3,J,K,h6,h7⟩⟩:=h.own
 ·exact .inl ⟨none,0,rfl,bO vO⟩
 ·subst A
  refine .inr ⟨g,0,e,rfl,(cX.1 J).1,K,fun j x q=>?_⟩;have hj:=(bH.1 q).1
  obtain⟨O,X,Z⟩:=jfb xs j x q
  exact⟨by rw[bT,h.own.cellAt (j * 3) vO,O],by rw[bT,h.own.cellAt (j * 3+1) vO,X],by rw[bT,h.own.cellAt (j * 3+2) vO,Z]⟩
theorem jnW(h1:l.length<=40)(h2:m.length<=40):(jdd l m).length<=80:=by
 have e:∀ l m:vL,(ja8 l m).length<=l.length+m.length:=fun l m=>by
  fun_induction ja8 l m <;> simp only[bU,dA]at * <;> omega
 unfold jdd;split
 ·have:=e l m;omega
 ·simp
theorem jmE{c:Chg}(h:c.bad=false):c.key.size<=6:=by
 unfold Chg.bad at h;have q:jds c.key=true:=by
  cases e:jds c.key with
  | true=>rfl
  | false=>rw[e]at h;simp at h
 unfold jds at q;exact (of_decide_eq_true q).2
noncomputable def lackB(S:vT)(t:vB):Bool:=(atL S (shaB t).data.toList).isNone
noncomputable def freshU(S:vT)(U:vM):vM:=(jb6 U).filter (lackB S)
theorem jn8(x:vB):freshU S (U++[x])=freshU S U++(if memB (jb6 U) x=true then []else if lackB S x=true then [x]else []):=by
 unfold freshU;rw[jhv];unfold addF
 by_cases h:memB (jb6 U) x=true
 ·rw[if_pos h,if_pos h,cA]
 ·rw[if_neg h,if_neg h,List.filter_append]
  congr 1
  cases e:lackB S x <;> simp[e]
theorem jko:(freshU S U).length<=U.length:=bE (dU _ _) (jn6 U)
def jxq(W3:vW)(D0:Nat->Prop)(P0:PA)(ds:List Chg)(pv iv:vV)(wr:vW):Prop:=∃ (k:Nat) (T:TypeId) (x:vV) (D:Nat->Prop),k<=ds.length/\iv=.int .i64 k/\pv=.iface T x/\PaO ((ds.take k).foldl jcv P0) (.iface T x) D wr/\(∀ z,D z->D0 z\/W3.heap.size<=z)/\jac D0 W3 wr
structure UpB(W7:World)(S:vT)(mb:Nat)(t:vB)(U:vM)(k:Nat)(rv:Value)(wr:World):Prop where
 row:∃ n,SRow W7 wr rv n (t :: freshU S (U.take k))
 out:rv.ownBlock≠some mb
 tab:∃ es ck,Blk wr mb (.map (Tryz.ES.arr es) ck)/\∀ x:vB,jay es x.data.toList=cntV (cntB (U.take k) x)
def jxr(W7:vW)(S:vT)(mb:Nat)(t:vB)(U:vM)(rv iv:vV)(wr:vW):Prop:=∃ k:Nat,k<=U.length/\iv=.int .i64 k/\UpB W7 S mb t U k rv wr
theorem jnT(L:vM)(x y:vB):cntB (L++[x]) y=cntB L y+(if x.data.toList=y.data.toList then 1 else 0):=by
 unfold cntB;rw[bY,List.count_append,bN,fT,List.count_singleton]
 simp
theorem jlQ{α:Type}{l:List α}{x:α}(h:l[k]?=some x):l.take (k+1)=l.take k++[x]:=by rw[bX,h];rfl
end
section
open Go Go.RowKit
attribute [local go_sem] Oper.semAt_some
theorem ERow.newP{w:vW}{xs:vL}(h:ERow w w' v n xs):RdPD (NewB w w') w' v xs:=⟨h.rd,fun b hb=>⟨h.new b hb,h.lt b hb⟩⟩
theorem CRow.newC{w:vW}{xs:List Chg}(h:CRow w w' v n xs):RdCD (NewB w w') w' v xs:=⟨h.rdT,fun b hb=>⟨h.new b hb,h.lt b hb⟩⟩
theorem jj9(v:vV)(xs:vL)(hv:RdP w v xs)(hn:xs.length<=1000) :
  vQ 79 #[v] w fun e w'=>∃ A,e=.returned A/\RdPD (NewB w w') w' A xs/\Ext w w':=by
 have J:=fun(W:vW) a n c=>Lib.run_eql_slice_nil (P:=Tryz.prog) W 53 52 a n c 0 0 Tryz.uEnts;have K:=Hd hv.g
 obtain⟨a,c,rfl⟩:=hv.sl
 have O:a=none->xs=[]:=fun Z=>by
  rcases hv with⟨_,_,_,h⟩ |⟨_,_,_,h,_⟩
  ·exact h
  ·rw[Z]at h;cases h
 have HX:=Hd O
 obtain⟨n,q⟩:=vE xs.length
 rw[<-q]at K hn ⊢;have HN:=Hd q;clear O hv q;cases a with
 | none =>
  go_enter Tryz.func79,Tryz.ntmps79;go_wp2;go_ret
  exact⟨_,rfl,⟨.inl ⟨none,0,rfl,HX.o trivial⟩,fun b e=>by cases e⟩,jac.refl _ _⟩
 | some ad =>
  go_enter Tryz.func79,Tryz.ntmps79;go_wp2_with (at_builtin;refine jh0 Tryz.sEnts (ORow.lit (n:=0) #[] (ExtR w) vI rfl) (K.o.ext ((ExtR w).alloc _)) rfl rfl vO vI ?_;intro A w' H r2 r3)
  rw[bT]at H;have X:Hid (ERow w w' A n xs):=H
  obtain⟨a',c',rfl⟩:=H.sl
  clear H r2 r3;go_wp2;go_ret
  exact⟨_,rfl,X.o.newP,X.o.ext⟩
theorem jj8(v:vV)(xs:List Chg)(hv:RdC w v xs)(hn:xs.length<=1000) :
  vQ 54 #[v] w fun e w'=>∃ A,e=.returned A/\RdCD (NewB w w') w' A xs/\Ext w w':=by
 have J:=fun(W:vW) a n c=>Lib.run_eql_slice_nil (P:=Tryz.prog) W 41 49 a n c 0 0 Tryz.uChgs;have K:=Hd hv.g
 obtain⟨a,c,rfl⟩:=hv.sl
 have O:a=none->xs=[]:=fun Z=>by
  rcases hv with⟨_,_,_,h⟩ |⟨_,_,_,h,_⟩
  ·exact h
  ·rw[Z]at h;cases h
 have HX:=Hd O
 obtain⟨n,q⟩:=vE xs.length
 rw[<-q]at K hn ⊢;have HN:=Hd q;clear O hv q;cases a with
 | none =>
  go_enter Tryz.func54,Tryz.ntmps54;go_wp2;go_ret
  exact⟨_,rfl,⟨.inl ⟨none,0,rfl,HX.o trivial⟩,fun b e=>by cases e⟩,jac.refl _ _⟩
 | some ad =>
  go_enter Tryz.func54,Tryz.ntmps54;go_wp2_with (at_builtin;refine jh0 Tryz.sChgs (ORow.lit (n:=0) #[] (ExtR w) vI rfl) (K.o.ext ((ExtR w).alloc _)) rfl rfl vO vI ?_;intro A w' H r2 r3)
  rw[bT]at H;have X:Hid (CRow w w' A n xs):=H
  obtain⟨a',c',rfl⟩:=H.sl
  clear H r2 r3;go_wp2;go_ret
  exact⟨_,rfl,X.o.newC,X.o.ext⟩
end
