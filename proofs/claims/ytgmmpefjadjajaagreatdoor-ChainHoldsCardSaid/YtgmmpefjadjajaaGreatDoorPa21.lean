/- Lemmas. -/
import Derived.Test.YtgmmpefjadjajaaGreatDoorPa0
import Derived.Test.YtgmmpefjadjajaaGreatDoorPa20
namespace Go.Proofs.YtgmmpefjadjajaaGreatDoor
open Go.Proofs.Tryz
set_option linter.unusedSimpArgs false
set_option linter.unusedVariables false
set_option maxRecDepth 100000
set_option maxHeartbeats 16000000
variable (r t u:vB)(S:vT)(U:vM)(w w0:vW)(ks:Nat->PA){xs:List vV}{n k z g b L d sz c j f:Nat}{a:Option Addr}{P:PA}{l m:vL}{Tx rs T T' New:vM}{v v' v'':vV}{W w' W' W'' W0 w6:vW}
section
open Go Go.RowKit
attribute [local go_sem] Oper.semAt_some
theorem Y2(W:vW)(x:vB):vQ 213 #[x] W λe w'=>e=.returned (.tuple #[])/\w'=W:=by
 unfold vQ;go_in;go_wp2_with fail
 refine bodyPost_end (results_none rfl _ _ _) rfl ?_
 exact⟨rfl,rfl⟩
theorem yS(W:vW)(s bm:Nat)(room:Int)(S:vT)(hs:Ev W s bm room S)(k:vB)(y:Gk)(hy:Be S k.data.toList=some y)(f:Nat)(n:Ai)(hg:Gn (Bx f) n)(ht:y.2.2.text=Cu n):vR 135 #[s,k,.func (.func 213) #[] #[]] W (.tuple #[n.V,true]):=by
 have hn:=(hg.one (Bm f)).refs;have HN:=J hn;have HG:=J hg;have HL:=J (n.z3 hn);have q:=λw (h:Ev w s bm room S)=>AL w s bm room S k h;rw[hy]at q;simp only[fP,Cw]at q;have O:=J q;have HS:=J hs
 obtain⟨t,X⟩:=vE y.2.2.text
 rw[<-X]at O ht;have HT:=J ht;clear q hs hg ht hn hy X;unfold vR vQ;go_in;go_wp2_with (refine Di Ac rfl rfl ?_;intro W1 Z H)
 refine vC (O.o W1 (HS.o.ext H)) λw3 K=>?_;have a1:=J (Z.Z K kI);have a2:=J (H.trans K);clear K Z H;go_wp2_with fail
 refine (Y2 w3 t).mono ?_;rintro e w4 ⟨rfl,rfl⟩;go_wp2_with fail
 rw[HT.o];refine vC (AJ (Bm f) w4 n HG.o) λw5 K=>?_;rw[<-HT.o];have A:=a1.o.Z K kI;have a3:=J K;clear K a1;unfold Ai.V;go_wp2_with (first|(refine Di Ac rfl rfl ?_;intro W5 a7 a4;refine Bt (vs:=n.cells) rfl rfl rfl rfl a7 (by rw[HL.o];rfl) (by rw[HL.o];exact Ab) n.one ?_;intro W6 a8 a5;have a0:=(A.Z a4 kI).Z a5 (kL A.lt))|(refine Gz 215 (.tmp 10) rfl rfl _ _ rfl (Ka _ _ n HN.o a8) ?_)|(refine Bt (vs:=n.cells) rfl rfl rfl rfl a0 (by rw[HL.o];rfl) (by rw[HL.o];exact Ab) n.one ?_;intro W8 a9 b0))
 refine bodyPost_ret (Ot rfl rfl rfl (Qb W8 _ n HN.o a9)) rfl ?_;have b1:Af W W6:=(((a2.o.trans a3.o).trans a4)).O a5 (λx hx e=>by have e:x=(w5:Nat):=e;have:=a3.o.size;have:=a2.o.size;omega)
 exact⟨rfl,b1.O b0 kJ⟩
section
variable (w0:vW) (s bm:Nat) (room:Int) (S:vT) (rb:Nat)
structure Wn:Prop where
 st:Ev w0 s bm room S
 nodes:AH S
 new:(w0:Nat)<=rb
def LY(f:Nat):Prop:=∀ n d,Gn (Bx d) n->∀ (W:vW) (left:Nat),Af w0 W->Ee W rb s left->left<=f->left<=160->vQ 214 #[rb,n.V] W (So W rb s (Hu (Bp S) f n left))
def DW(f:Nat):Prop:=∀ r d,Gj (Bx d) r->∀ (W:vW) (left:Nat),Af w0 W->Ee W rb s left->left<=f->left<=160->vQ 238 #[rb,.string r] W (So W rb s ((Bp S r).bind λm=>Hu (Bp S) f m left))
noncomputable def Kn(h:vB):Option Ai:=(Be S h.data.toList).map λx=>Bq x.2.2.text
def tQ(f:Nat):Prop:=∀ h,∀ (W:vW) (left:Nat),Af w0 W->Ee W rb s left->left<=f->left<=160->vQ 171 #[rb,.string h] W (So W rb s ((Kn S h).bind λm=>Hu (Bp S) f m left))
end
theorem Ee.ext{W W':vW}{rb s left:Nat}(h:Ee W rb s left)(e:Af W W'):Ee W' rb s left:=h.Z e kI
theorem q7(w0:vW)(s bm:Nat)(room:Int)(S:vT)(rb:Nat)(hR:Wn w0 s bm room S rb)(h:vB)(W:vW)(left:Nat)(A:Af w0 W)(hr:Ee W rb s left)(ha:Be S h.data.toList=none):vQ 171 #[rb,h] W (So W rb s none):=by
 have H:=sJ W s bm room S (hR.st.ext A) (.func (.func 213) #[] #[]) h ha;have K:=J H;have HR:=J hr;unfold Ee at hr;have q0:=hr.cell (i:=0) (v:=.pointer (some s)) vF;unfold vQ;go_in;go_wp2_with fail
 refine K.o.mono ?_;rintro e w1 ⟨rfl,A⟩;have HE:=J A;unfold Ai.V;go_wp2_with (first|(refine Di Ac rfl rfl ?_;intro W5 O X;refine Bt (vs:=Cv.cells) rfl rfl rfl rfl O rfl Ab Cv.one ?_;intro W6 a0 Z))
 go_ret2;have q:Af W W6:=(HE.o.trans X).O Z (λx hx e=>by have e:x=(w1:Nat):=e;have:=HE.o.size;omega)
 exact⟨q.mono kZ,_,left,rfl,.inl rfl,HR.o.ext q⟩
theorem q6(w0:vW)(s bm:Nat)(room:Int)(S:vT)(rb:Nat)(hR:Wn w0 s bm room S rb)(f:Nat)(hN:LY w0 s S rb f)(h:vB)(W:vW)(left:Nat)(K:Af w0 W)(hr:Ee W rb s left)(hf:left<=f)(h160:left<=160)(y:Gk)(ha:Be S h.data.toList=some y):vQ 171 #[rb,h] W (So W rb s (Hu (Bp S) f (Bq y.2.2.text) left)):=by
 obtain⟨n0,O⟩:=hR.nodes y (Fd ha).1
 have hn:=Vm O
 obtain⟨n,X⟩:=vE (Bq y.2.2.text)
 rw[<-X]at hn ⊢
 obtain⟨ht,d,hg⟩:=hn
 have H:=(hg.one (Bm d)).refs;have a8:=J H;have HL:=J (n.z3 H);have Z:=yS W s bm room S (hR.st.ext K) h y ha d n hg ht;have a9:=J Z;have HR:=J hr;have a0:=J (show ∀ w,Af W w->vQ 214 #[rb,n.V] w (So w rb s (Hu (Bp S) f n left))from λw e=>hN n d hg w left (K.trans e) (hr.ext e) hf h160);unfold Ee at hr;have q0:=hr.cell (i:=0) (v:=.pointer (some s)) vF
 obtain⟨o,ho⟩:=vE (Hu (Bp S) f n left)
 rw[<-ho]at a0 ⊢;clear Z hr hR K ha O X ht hg H hN ho;unfold vQ;go_in;go_wp2_with fail
 refine a9.o.mono ?_;rintro e w1 ⟨rfl,K⟩;have HE:=J K;clear K;unfold Ai.V;go_wp2_with (first|(refine Di Ac rfl rfl ?_;intro W5 a1 a2;refine Bt (vs:=n.cells) rfl rfl rfl rfl a1 (by rw[HL.o];rfl) (by rw[HL.o];exact Ab) n.one ?_;intro W6 a3 a4)|(refine Gz 215 (.tmp 6) rfl rfl _ _ rfl (Ka _ _ n a8.o a3) ?_))
 have a5:Af W W6:=(HE.o.trans a2).O a4 (λx hx e=>by have e:x=(w1:Nat):=e;have:=HE.o.size;omega);have HX:=J a5;clear a5 a1 a2 a3 a4;refine (a0.o W6 HX.o).mono ?_;intro e w7 hO
 obtain⟨hk,a7⟩:=hO
 cases o with
 |none =>(obtain⟨v,l,rfl,hv,q⟩:=a7;have A:=J (kT hk hv q);clear hk q;rcases hv with rfl|⟨T,x,rfl⟩;{(go_wp2);go_ret2;exact⟨(HX.o.mono kZ).trans A.o.1,_,l,rfl,.inl rfl,A.o.C⟩};(go_wp2);go_ret2;exact⟨(HX.o.mono kZ).trans A.o.1,_,l,rfl,.inr ⟨T,x,rfl⟩,A.o.C⟩)
 |some Pl =>obtain⟨P,l⟩:=Pl;obtain⟨T,x,rfl,hP,q⟩:=a7;(have A:=J (kT hk hP q);clear hk hP q;go_wp2);go_ret2;exact⟨(HX.o.mono kZ).trans A.o.1,T,x,rfl,A.o.2.1.mono λz hz=>⟨bH HX.o.size hz.1,hz.2⟩,A.o.C⟩
theorem rL(w0:vW)(s bm:Nat)(room:Int)(S:vT)(rb:Nat)(hR:Wn w0 s bm room S rb)(f:Nat)(hN:LY w0 s S rb f):tQ w0 s S rb f:=by
 intro h W left q A H e;unfold Kn;cases ha:Be S h.data.toList with
 |none=>exact q7 w0 s bm room S rb hR h W left q A ha
 |some y=>exact q6 w0 s bm room S rb hR f hN h W left q A H e y ha
end
section
open Go Go.RowKit
attribute [local go_sem] Oper.semAt_some
theorem HJ:Zh r=Lf r:=by
 unfold Zh Lf;cases Dx r<;>rfl
theorem P0(s:Nat)(S:vT)(rb:Nat)(f:Nat)(hH:tQ w0 s S rb f)(r h:vB)(hrh:Lf r=some h)(hs:r.size<=1000)(W:vW)(left:Nat)(X:Af w0 W)(hr:Ee W rb s left)(hf:left<=f)(h160:left<=160):vQ 238 #[rb,r] W (So W rb s ((Kn S h).bind λm=>Hu (Bp S) f m left)):=by
 have q:=KI W r vO (k9 ((HJ r).trans hrh));rw[HJ,hrh]at q;unfold Cw at q;have HA:=J q;have Z:=J (show ∀ w,Af W w->vQ 171 #[rb,h] w (So w rb s ((Kn S h).bind λm=>Hu (Bp S) f m left))from λw e=>hH h w left (X.trans e) (hr.ext e) hf h160)
 obtain⟨o,ho⟩:=vE ((Kn S h).bind λm=>Hu (Bp S) f m left)
 rw[<-ho]at Z ⊢;unfold vQ;go_in;go_wp2_with fail
 refine HA.o.mono ?_;rintro e w1 ⟨rfl,X⟩;have K:=J X;go_wp2_with fail
 refine (Z.o w1 K.o).mono ?_;intro e w7 hO
 obtain⟨hk,O⟩:=hO
 cases o with
 |none =>(obtain⟨v,l,rfl,hv,H⟩:=O;have A:=J (kT hk hv H);rcases hv with rfl|⟨T,x,rfl⟩;{(go_wp2);go_ret2;exact⟨(K.o.mono kZ).trans A.o.1,_,l,rfl,.inl rfl,A.o.C⟩};(go_wp2);go_ret2;exact⟨(K.o.mono kZ).trans A.o.1,_,l,rfl,.inr ⟨T,x,rfl⟩,A.o.C⟩)
 |some Pl =>obtain⟨P,l⟩:=Pl;obtain⟨T,x,rfl,hP,H⟩:=O;(have A:=J (kT hk hP H);go_wp2);go_ret2;exact⟨(K.o.mono kZ).trans A.o.1,T,x,rfl,A.o.2.1.mono λz hz=>⟨bH K.o.size hz.1,hz.2⟩,A.o.C⟩
theorem T0(s:Nat)(S:vT)(rb:Nat)(f:Nat)(hN:LY w0 s S rb f)(r:vB)(d:Nat)(n:Ai)(hi:Bx (d+1) r n)(hs:r.size<=1000)(W:vW)(left:Nat)(hE:Af w0 W)(hr:Ee W rb s left)(hf:left<=f)(h160:left<=160):vQ 238 #[rb,r] W (So W rb s (Hu (Bp S) f n left)):=by
 have A:=KI W r vO (λe=>by obtain⟨q,h1,_⟩:=(Bm (d+1)).nohash r n hi;rw[e]at h1;cases h1);rw[HJ,ED (Bm (d+1)) hi]at A;unfold Cw at A;have HA:=J A;have O:=(hi.1.one (Bm d)).refs;have a1:=J O;have HL:=J (n.z3 O);have HI:=J (λw=>(Bm (d+1)).inl r n hi w);have X:=J (show ∀ w,Af W w->vQ 214 #[rb,n.V] w (So w rb s (Hu (Bp S) f n left))from λw e=>hN n d hi.1 w left (hE.trans e) (hr.ext e) hf h160)
 obtain⟨o,ho⟩:=vE (Hu (Bp S) f n left)
 rw[<-ho]at X ⊢;unfold vQ;go_in;go_wp2_with fail
 refine HA.o.mono ?_;rintro e a2 ⟨rfl,a3⟩;have a4:=J a3;go_wp2_with fail
 refine vC (HI.o a2) λw1 hE=>?_;have HE:=J (a4.o.trans hE);unfold Ai.V;go_wp2_with (first|(refine Di Ac rfl rfl ?_;intro W5 a5 a7;refine Bt (vs:=n.cells) rfl rfl rfl rfl a5 (by rw[HL.o];rfl) (by rw[HL.o];exact Ab) n.one ?_;intro W6 a8 a9)|(refine Gz 215 (.tmp 8) rfl rfl _ _ rfl (Ka _ _ n a1.o a8) ?_))
 have b0:Af W W6:=(HE.o.trans a7).O a9 (λx hx e=>by have e:x=(w1:Nat):=e;have:=HE.o.size;omega);have Z:=J b0;refine (X.o W6 Z.o).mono ?_;intro e w7 hO
 obtain⟨hk,a0⟩:=hO
 cases o with
 |none =>(obtain⟨v,l,rfl,hv,K⟩:=a0;have H:=J (kT hk hv K);rcases hv with rfl|⟨T,x,rfl⟩;{(go_wp2);go_ret2;exact⟨(Z.o.mono kZ).trans H.o.1,_,l,rfl,.inl rfl,H.o.C⟩};(go_wp2);go_ret2;exact⟨(Z.o.mono kZ).trans H.o.1,_,l,rfl,.inr ⟨T,x,rfl⟩,H.o.C⟩)
 |some Pl =>obtain⟨P,l⟩:=Pl;obtain⟨T,x,rfl,hP,K⟩:=a0;(have H:=J (kT hk hP K);go_wp2);go_ret2;exact⟨(Z.o.mono kZ).trans H.o.1,T,x,rfl,H.o.2.1.mono λz hz=>⟨bH Z.o.size hz.1,hz.2⟩,H.o.C⟩
theorem zH(s bm:Nat)(room:Int)(S:vT)(rb:Nat)(hR:Wn w0 s bm room S rb)(f:Nat)(hN:LY w0 s S rb f):DW w0 s S rb f:=by
 intro r d A W left H K O e;have X:r.size<=1000:=kL (A.size (Bm d))
 unfold Bp;rcases A with hh|⟨m,hi⟩
 ·obtain⟨h,Z,h2⟩:=hh;(have q:Lf r=some h:=by rw[h2];exact JZ Z);rw[q];exact P0 w0 s S rb f (rL w0 s bm room S rb hR f hN) r h q X W left H K O e
 ·cases d with| zero=>exact hi.elim| succ d =>rw[ED (Bm (d+1)) hi];show Calls _ _ _ W (So W rb s (Hu (Bp S) f (Ti r) left));rw[US w0 hi];exact T0 w0 s S rb f hN r d m hi X W left H K O e
theorem lO(W:vW)(rb s:Nat)(n:Ai)(hr:Ee W rb s 0):vQ 214 #[rb,n.V] W (So W rb s none):=by
 have A:=hr.lt;have q:=hr.ext ((Aa W).alloc (.cells n.cells.toArray 215));have H:=J q;unfold Ee at q;have K:=q.cell (i:=1) (v:=.int .i64 0) vF;unfold Ai.V;unfold vQ;go_in;go_wp2
 go_ret2
 exact⟨((Aa W).alloc _).mono kZ,_,0,rfl,.inl rfl,H.o⟩
theorem z3(W:vW)(rb s k:Nat)(hk:k<=160)(q v:vB)(rs:vM)(hr:Ee W rb s (k+1)):vQ 214 #[rb,(Ai.mk 1 q v rs).V] W (So W rb s (some (.leaf q v,k))):=by
 have a9:=hr.lt;have b0:(W:Nat)≠rb:=vO
 obtain⟨X,A⟩:=vE (W.setCell ⟨rb,1,none⟩ (k:Int))
 obtain⟨K,H⟩:=vE (X.alloc (.cells (Ai.cells ⟨1,q,v,rs⟩).toArray 215))
 have a5:Ee X rb s k:=by rw[A];exact Ae.z2 (i:=1) hr _
 have a1:(X:Nat)=↑W:=by rw[A];exact fT _ _ _
 have O:Af X K:=by rw[H];exact (Aa X).alloc _
 have a2:Ae K W (.cells (Ai.cells ⟨1,q,v,rs⟩).toArray 215):=by rw[<-a1,H];exact Ae.new X _
 have Z:Ee K rb s k:=a5.ext O;have a0:Ad (λz=>z=rb) W K:=(show Ad (λz=>z=rb) W X by rw[A];exact Ad.z4 _ ⟨rb,1,none⟩ _).trans (O.mono kZ);have a7:=J (kT Z a0 a2);have hA:=hr.ext ((Aa W).alloc (.cells (Ai.cells ⟨1,q,v,rs⟩).toArray 215));unfold Ee at hA;have q1:=hA.cell (i:=1) (v:=.int .i64 ((k:Int)+1)) vF;have f1:(W.alloc (.cells (Ai.cells ⟨1,q,v,rs⟩).toArray 215)).frozen? ⟨rb,1,none⟩=false:=hA.frozen;have e0:(Ai.cells ⟨1,q,v,rs⟩)[0]?=some (.int .i64 1):=rfl;have e1:(Ai.cells ⟨1,q,v,rs⟩)[1]?=some (.string q):=rfl;have e2:(Ai.cells ⟨1,q,v,rs⟩)[2]?=some (.string v):=rfl;have HW:=J (bA A H);unfold Ai.V;unfold vQ;go_in;go_wp2
 go_ret2
 obtain⟨A,H⟩:=HW.o
 rw[<-A, <-H]
 obtain⟨Z,a0,a2⟩:=a7.o
 have a3:=(Aa K).alloc (.cells #[q,v] 380);have a8:=Ae.new K (.cells #[q,v] 380);have hz:(K:Nat)=↑W+1:=by rw[H,bJ,a1]
 have a4:Ae (K.alloc (.cells #[q,v] 380)) ((W:Nat)+1) (.cells #[q,v] 380):=by rw[<-hz];exact a8
 exact⟨a0.trans (a3.mono kZ),_,_,rfl,⟨_,rfl,⟨iD _,a4.lt⟩,a4⟩,Z.ext a3⟩
theorem jtn(W:vW)(rb s k:Nat)(hk:k<=160)(q v:vB)(rs:vM)(hr:Ee W rb s (k+1)):vQ 214 #[rb,(Ai.mk 0 q v rs).V] W (So W rb s (some (.no,k))):=by
 have a4:=hr.lt;have a5:(W:Nat)≠rb:=vO
 obtain⟨O,A⟩:=vE (W.setCell ⟨rb,1,none⟩ (k:Int))
 obtain⟨W2,H⟩:=vE (O.alloc (.cells (Ai.cells ⟨0,q,v,rs⟩).toArray 215))
 have a1:Ee O rb s k:=by rw[A];exact Ae.z2 (i:=1) hr _
 have a2:(O:Nat)=↑W:=by rw[A];exact fT _ _ _
 have K:Af O W2:=by rw[H];exact (Aa O).alloc _
 have a0:Ae W2 W (.cells (Ai.cells ⟨0,q,v,rs⟩).toArray 215):=by rw[<-a2,H];exact Ae.new O _
 have X:Ee W2 rb s k:=a1.ext K;have Z:Ad (λz=>z=rb) W W2:=(show Ad (λz=>z=rb) W O by rw[A];exact Ad.z4 _ ⟨rb,1,none⟩ _).trans (K.mono kZ);have a3:=J (kT X Z a0);have hA:=hr.ext ((Aa W).alloc (.cells (Ai.cells ⟨0,q,v,rs⟩).toArray 215));unfold Ee at hA;have q1:=hA.cell (i:=1) (v:=.int .i64 ((k:Int)+1)) vF;have f1:(W.alloc (.cells (Ai.cells ⟨0,q,v,rs⟩).toArray 215)).frozen? ⟨rb,1,none⟩=false:=hA.frozen;have e0:(Ai.cells ⟨0,q,v,rs⟩)[0]?=some (.int .i64 0):=rfl;have HW:=J (bA A H);unfold Ai.V;unfold vQ;go_in;go_wp2
 go_ret2
 obtain⟨A,H⟩:=HW.o
 rw[<-A, <-H]
 obtain⟨X,Z,a0⟩:=a3.o
 exact⟨Z,_,_,rfl,rfl,X⟩
theorem N2(s:Nat)(S:vT)(rb f:Nat)(hRef:DW w0 s S rb f)(hnew:(w0:Nat)<=rb)(W:vW)(k:Nat)(hE0:Af w0 W)(hk:k<=f)(h160:k<=159)(q v r:vB)(rs:vM)(d:Nat)(hm:Gj (Bx d) r)(hr:Ee W rb s (k+1)):vQ 214 #[rb,(Ai.mk 2 q v (r::rs)).V] W (So W rb s ((Bp S r).bind λm=>(Hu (Bp S) f m k).map λx=>(.ext q x.1,x.2))):=by
 have c1:=hr.lt;have b1:(W:Nat)≠rb:=vO
 obtain⟨W1,A⟩:=vE (W.setCell ⟨rb,1,none⟩ (k:Int))
 obtain⟨H,K⟩:=vE (W1.alloc (.cells (Ai.cells ⟨2,q,v,r::rs⟩).toArray 215))
 have b2:Ee W1 rb s k:=by rw[A];exact Ae.z2 (i:=1) hr _
 have a7:(W1:Nat)=↑W:=by rw[A];exact fT _ _ _
 have a0:Af W1 H:=by rw[K];exact (Aa W1).alloc _
 have b3:Ae H W (.cells (Ai.cells ⟨2,q,v,r::rs⟩).toArray 215):=by rw[<-a7,K];exact Ae.new W1 _
 have a2:Ee H rb s k:=b2.ext a0;have a8:Ad (λz=>z=rb) W H:=(show Ad (λz=>z=rb) W W1 by rw[A];exact Ad.z4 _ ⟨rb,1,none⟩ _).trans (a0.mono kZ);have a3:=J (kT a2 a8 b3);have hA:=hr.ext ((Aa W).alloc (.cells (Ai.cells ⟨2,q,v,r::rs⟩).toArray 215));unfold Ee at hA;have q1:=hA.cell (i:=1) (v:=.int .i64 ((k:Int)+1)) vF;have f1:(W.alloc (.cells (Ai.cells ⟨2,q,v,r::rs⟩).toArray 215)).frozen? ⟨rb,1,none⟩=false:=hA.frozen;have e0:(Ai.cells ⟨2,q,v,r::rs⟩)[0]?=some (.int .i64 2):=rfl;have e1:(Ai.cells ⟨2,q,v,r::rs⟩)[1]?=some (.string q):=rfl;have e3:(Ai.cells ⟨2,q,v,r::rs⟩)[3]?=some (.string r):=rfl;have b4:Af w0 H:=hE0.O a8 kJ;have HC:=J (hRef r d hm H k b4 a2 hk vO);have c2:(Ai.cells ⟨2,q,v,r::rs⟩).toArray.size=(Ai.cells ⟨2,q,v,r::rs⟩).length:=by simp
 have a5:rb<(H:Nat):=a2.lt;have c3:=J a5
 obtain⟨o,ho⟩:=vE ((Bp S r).bind λm=>Hu (Bp S) f m k)
 have b5:((Bp S r).bind λm=>(Hu (Bp S) f m k).map λx=>(PA.ext q x.1,x.2))=o.map λx=>(PA.ext q x.1,x.2):=by rw[ho];cases Bp S r with| none=>rfl| some m=>rfl
 rw[<-ho]at HC;rw[b5];have HW:=J (bA A K);have b6:(H:Nat)=↑W+1:=by rw[K,bJ,a7]
 have b7:=J b6;have c4:=hr;unfold Ai.V;unfold vQ;go_in;go_wp2_with fail
 rw[<-A, <-K];refine HC.o.mono ?_;intro e O hO
 obtain⟨Z,a9⟩:=hO
 have b8:=a3.o.2.2.Z Z (λe=>b1 (by exact e));have q7:=b8.z1 (i:=1) e1;have a4:=J (a3.o.2.1.trans Z);have b9:=a3.o.2.2.lt;have c0:=J (show (W:Nat)<=↑O/\(W:Nat)+1=↑H/\(H:Nat)<=↑O from⟨bH (Nat.le_of_lt b9) Z.size,b7.o.symm,Z.size⟩);cases o with
 |none =>(obtain⟨v7,l,rfl,hv,X⟩:=a9;have HZ:=J X;rcases hv with rfl|⟨T,x,rfl⟩;{(go_wp2);go_ret2;exact⟨a4.o.trans (((Aa O).alloc _).mono kZ),_,l,rfl,.inr ⟨_,_,rfl⟩,HZ.o.ext ((Aa O).alloc _)⟩};(go_wp2);go_ret2;exact⟨a4.o.trans (((Aa O).alloc _).mono kZ),_,l,rfl,.inr ⟨_,_,rfl⟩,HZ.o.ext ((Aa O).alloc _)⟩)
 |some Pl =>obtain⟨P,l⟩:=Pl;obtain⟨T,x,rfl,hP,X⟩:=a9;(have HZ:=J (bA hP X);go_wp2);go_ret2;obtain⟨hP,X⟩:=HZ.o;have a1:=(Aa O).alloc (.cells #[q,.iface T x] 383);have b0:=Ae.new O (.cells #[q,.iface T x] 383);obtain⟨z1,z2,z3⟩:=c0.o;refine⟨a4.o.trans (a1.mono kZ),_,_,rfl,⟨_,T,x,DK H O,rfl,⟨by omega,b0.lt⟩,b0,hP.Z a1 _ _ _ λ_ _ e=>e,λe=>kL e.2,λz hz=>⟨kL hz.1,bE hz.2 a1.size⟩⟩,X.ext a1⟩
theorem aG{R:Ai->Nat->Option (PA × Nat)}{G:vB->Option Ai}{rs:vM}{k left:Nat}(h:Tq R G rs k left=none):∀ d,Tq R G rs (k+d) left=none
 |0=>h
 |d+1=>by
  show Tq R G rs (k+d+1) left=none;rw[MZ,aG h d];rfl
structure tU(W:World)(rb s bb:Nat)(G:vB->Option Ai)(R:Ai->Nat->Option (PA × Nat))(v:vB)(rs:vM)(left:Nat)(iv:Value)(wr:World)(k:Nat)(ks:Nat->PA)(l:Nat)(vk:Nat->Value)(Dk:Nat->Nat->Prop)(D:Nat->Prop):Prop where
 le:k<=16
 iv:iv=.int .i64 (k:Int)
 rd:Tq R G rs k left=some (ks,l)
 br:Gs v ks bb vk Dk D wr
 since:∀ z,D z->(W:Nat)<=z
 rdr:Ee wr rb s l
 kp:Ad (λz=>z=rb) W wr
theorem x_{n:Ai}(hr:n.refs.length=16)(hB:Ae W b (.cells n.cells.toArray 215)):(Instr.loadAt 213 (.pointer (some ⟨b,3,none⟩))).run prog W=.ok (.agg (n.refs.map Value.string).toArray) W:=by
 have e:W.rangeAt b 3 (n.refs.map Value.string):=λj v A=>hB.z1 (by unfold Ai.cells;rw[show 3+j=j+3 by omega];simpa using A)
 have q:=run_loadVar_mid (P:=prog) W b 3 213 _ _ e Fm rfl (by simp only[bT,hr];exact Ks);simp[Instr.loadAt,Instr.sureAddr,bS,Result.andThen,q]
theorem U9(s:Nat)(S:vT)(rb f:Nat)(hRef:DW w0 s S rb f)(hnew:(w0:Nat)<=rb)(W:vW)(k0:Nat)(hE0:Af w0 W)(hk:k0<=f)(h160:k0<=159)(q v:vB)(rs:vM)(d:Nat)(hrl:rs.length=16)(hm:∀ r∈rs,r.size≠0->Gj (Bx d) r)(hr:Ee W rb s (k0+1)):vQ 214 #[rb,(Ai.mk 3 q v rs).V] W (So W rb s ((Tq (Hu (Bp S) f) (Bp S) rs 16 k0).map λx=>(.br v x.1,x.2))):=by
 have e3:=hr.lt
 obtain⟨W1,A⟩:=vE (W.setCell ⟨rb,1,none⟩ (k0:Int))
 obtain⟨W2,H⟩:=vE (W1.alloc (.cells (Ai.cells ⟨3,q,v,rs⟩).toArray 215))
 have c5:Ee W1 rb s k0:=by rw[A];exact Ae.z2 (i:=1) hr _
 have b3:(W1:Nat)=↑W:=by rw[A];exact fT _ _ _
 have a0:Af W1 W2:=by rw[H];exact (Aa W1).alloc _
 have b4:Ae W2 W (.cells (Ai.cells ⟨3,q,v,rs⟩).toArray 215):=by rw[<-b3,H];exact Ae.new W1 _
 have b5:Ee W2 rb s k0:=c5.ext a0;have b6:Ad (λz=>z=rb) W W2:=(show Ad (λz=>z=rb) W W1 by rw[A];exact Ad.z4 _ ⟨rb,1,none⟩ _).trans (a0.mono kZ);have e4:=J (kT b5 b6 b4);have hA:=hr.ext ((Aa W).alloc (.cells (Ai.cells ⟨3,q,v,rs⟩).toArray 215));unfold Ee at hA;have q1:=hA.cell (i:=1) (v:=.int .i64 ((k0:Int)+1)) vF;have f1:(W.alloc (.cells (Ai.cells ⟨3,q,v,rs⟩).toArray 215)).frozen? ⟨rb,1,none⟩=false:=hA.frozen;have e0:(Ai.cells ⟨3,q,v,rs⟩)[0]?=some (.int .i64 3):=rfl;have e2:(Ai.cells ⟨3,q,v,rs⟩)[2]?=some (.string v):=rfl
 obtain⟨W3,O⟩:=vE (W2.alloc (.cells #[.string v,qg,qg,qg,qg,qg,qg,qg,qg,qg,qg,qg,qg,qg,qg,qg,qg] 387))
 have Z:Af W2 W3:=by rw[O];exact (Aa W2).alloc _
 have c7:(W2:Nat)=↑W+1:=by rw[H,bJ,b3]
 have b7:Ae W3 ((W:Nat)+1) (.cells (Uu v λ_=>.nilIface).toArray 387):=by rw[<-c7,O];exact Ae.new W2 _
 have a2:Gs v (λ_=>.nil) ((W:Nat)+1) (λ_=>.nilIface) (λ_ _=>False) (λx=>x=(W:Nat)+1) W3:=⟨rfl,b7,λi _=>⟨rfl,λe=>e,λ_ e=>e.elim⟩,λ_ _ _ _ _ _ e=>e.elim,λx e=>by rw[e];exact b7.lt⟩
 have b8:=x_ (n:=⟨3,q,v,rs⟩) hrl (b4.Z Z kI);have c8:=J (show tU W rb s ((W:Nat)+1) (Bp S) (Hu (Bp S) f) v rs k0 qa W3 0 (λ_=>.nil) k0 (λ_=>.nilIface) (λ_ _=>False) (λx=>x=(W:Nat)+1)from⟨by omega,rfl,rfl,a2,λz e=>by rw[e];omega,b5.ext Z,b6.trans (Z.mono kZ)⟩);have c4:=J hRef;have HM:=J hm;have e5:=J hrl;have e6:=J hE0;have e7:=J hnew;have e8:=J e3;have HF:=J hk
 obtain⟨o,ho⟩:=vE ((Tq (Hu (Bp S) f) (Bp S) rs 16 k0).map λx=>(PA.br v x.1,x.2))
 have HO:=J ho;rw[<-ho];have HW:=J (kT A H O);have c9:=J (show (W:Nat)+1≠rb by omega);rw[O,H,A]at b8;clear hRef hnew hE0 hm hr hA c5 a0 b5 b6 b4 A H O Z b7 a2 hrl ho c7 hk;unfold Ai.V;unfold vQ;go_in;go_wp2_with (refine Gz 213 (.tmp 59) rfl rfl _ _ rfl b8 ?_)
 obtain⟨A,H,O⟩:=HW.o
 rw[<-A, <-H, <-O]
 obtain⟨bb,d0⟩:=vE ((W:Nat)+1)
 rw[<-d0]at c8 c9 ⊢;clear A H O HW b8 q1 f1 b3 d0 e4;go_loopw [61] (λiv wr=>∃ k ks l vk Dk D,tU W rb s bb (Bp S) (Hu (Bp S) f) v rs k0 iv wr k ks l vk Dk D) (λiv _=>16-(intOf iv).toNat)
 case atStart=>exact⟨0,_,_,_,_,_,c8.o⟩
 case round =>obtain⟨k,ks,l,vk,Dk,D,h⟩:=hrel;obtain⟨f4,rfl,d1,a2,d2,d3,d4⟩:=h;have b9:=J d1;have a1:=J a2;have a3:=J d2;have c0:=J d3;have X:=J d4;clear d1 a2 d2 d3 d4;by_cases hlt:k<16;{obtain⟨r,a4⟩:∃ r,rs[k]?=some r:=⟨_,bB (kL e5.o)⟩;(have f5:(Instr.index 213 (.agg (rs.map Value.string).toArray) (k:Int)).run prog wr=.ok (.string r) wr:=MO Fm Jn Jm _ k hlt _ (by rw[bY,a4];rfl) wr;have c1:rs.getD k ()=r:=by rw[bL,a4];rfl);(have K:=MZ (Hu (Bp S) f) (Bp S) rs k k0;rw[b9.o,c1]at K;have K:Tq (Hu (Bp S) f) (Bp S) rs (k+1) k0=if r.size=0 then some (ks,l)else (Bp S r).bind λm=>(Hu (Bp S) f m l).map λy=>(Cd ks k y.1,y.2):=K);by_cases hr0:r.size=0;{rw[if_pos hr0]at K;have e9:=Ov hr0;subst e9;have a9:=J K;clear K a4 hr0 c1;go_wp2;go_roundw;(case rel=>exact⟨k+1,ks,l,vk,Dk,D,by omega,by go_num,a9.o,a1.o,a3.o,c0.o,X.o⟩);case measure=>exact vJ};rw[if_neg hr0]at K;have f3:=Wz hr0;have d5:Af w0 wr:=e6.o.O X.o (λx hx e=>by have e:x=rb:=e;have:=e7.o;omega);have f0:l<=k0:=VE (λm l y h=>bH (UO (Bp S) f m l y h) (Nat.sub_le _ _)) k k0 _ b9.o;have HC:=J (c4.o r d (HM.o r (bD a4) hr0) wr l d5 c0.o (kL HF.o) vO);obtain⟨o1,c2⟩:=vE ((Bp S r).bind λm=>Hu (Bp S) f m l);(rw[<-c2]at HC;have a7:Tq (Hu (Bp S) f) (Bp S) rs (k+1) k0=o1.map λy=>(Cd ks k y.1,y.2):=by rw[K,c2];cases Bp S r with| none=>rfl| some m=>rfl);(have a9:=J a7;clear K a7 a4 hr0 c1 d5 f0 c2;go_wp2_with fail);refine HC.o.mono ?_;intro e w7 hO;obtain⟨d6,d7⟩:=hO;have b0:=J d6;clear d6;cases o1 with| none =>(obtain⟨v7,l7,rfl,hv,a5⟩:=d7;have HZ:=J a5;clear a5;have d8:=J (show o=none by rw[HO.o];have:=aG (k:=k+1) a9.o (15-k);rw[show k+1+(15-k)=16 by omega]at this;rw[this];rfl);rcases hv with rfl|⟨T,x,rfl⟩;{(go_wp2);go_ret2;rw[d8.o];exact⟨X.o.trans b0.o,_,l7,rfl,.inl rfl,HZ.o⟩};(go_wp2);go_ret2;rw[d8.o];exact⟨X.o.trans b0.o,_,l7,rfl,.inl rfl,HZ.o⟩)| some Pl =>obtain⟨P,l7⟩:=Pl;obtain⟨T,x,rfl,hP,a5⟩:=d7;(have a8:∀ z,D z->¬ z=rb:=λz hz e=>by have:=a3.o z hz;have:=e8.o;omega);have b1:=a1.o.Z b0.o (λz hz=>a8 z hz);have hg:=b1.give hlt hP (λz hz=>⟨λe=>by have:=a1.o.lt z e;have:=hz.1;omega,hz.2⟩);obtain⟨W8,b2⟩:=vE (w7.setCell ⟨bb,1+k,none⟩ (.iface T x));(rw[<-b2]at hg;have c3:Ad (λz=>z=bb) w7 W8:=by rw[b2];exact Ad.z4 w7 ⟨bb,1+k,none⟩ (.iface T x));have d9:Ee W8 rb s l7:=a5.Z c3 (λe=>c9.o e.symm);have e1:Ad (λz=>z=rb) W W8:=(X.o.trans b0.o).O c3 (λz hz e=>by have e:z=bb:=e;have:=a3.o bb a1.o.mem;omega);obtain⟨old,q7⟩:∃ v,w7.cell? ⟨bb,1+k,none⟩=some v:=⟨_,b1.blk.z1 (bB (by rw[GX];omega))⟩;(have f7:w7.frozen? ⟨bb,1+k,none⟩=false:=b1.blk.frozen;have HG:=J (kU hg d9 e1 (show ∀ z,(D z\/DK wr w7 z)->(W:Nat)<=z from λz hz=>hz.elim (a3.o z) λe=>bH X.o.size e.1));have f2:=J b2;clear hP a5 a8 b1 hg c3 d9 e1 b2;go_wp2_with fail);rw[<-f2.o];clear q7 f7;go_roundw;(case rel=>exact⟨k+1,_,l7,_,_,_,by omega,by go_num,a9.o,HG.o.1,HG.o.D,HG.o.b,HG.o.c⟩);case measure=>exact vJ};obtain rfl:k=16:=vO;(go_wp2);go_ret2;rw[HO.o,b9.o];exact⟨X.o,_,_,rfl,a1.o.pa.at'.mono λz hz=>⟨a3.o z hz,a1.o.lt z hz⟩,c0.o⟩
theorem rN(w0:vW)(s bm:Nat)(room:Int)(S:vT)(rb:Nat)(hR:Wn w0 s bm room S rb):∀ f,LY w0 s S rb f
 |0=>λn d O W left H q X A=>by
  obtain rfl:left=0:=vO
  rw[aH];exact lO W rb s n q
 |f+1=>λn d O W left H q X A=>by
  have e:=zH w0 s bm room S rb hR f (rN w0 s bm room S rb hR f);cases left with
  |zero =>
   rw[aH];exact lO W rb s n q
  |succ k =>
   rw[JV,if_neg (iM k)];cases O with
   |none=>exact jtn W rb s k vO _ _ _ q
   |leaf p v h1 h2 h3=>exact z3 W rb s k vO p v _ q
   |ext p r h1 h2 h3 =>
    have K:Gj (Bx d) r:=h3.imp id (λ⟨m,K,_⟩=>⟨m,K⟩);exact N2 w0 s S rb f e hR.new W k H vO vO p () r (Dd 15) d K q
   |branch v rs h1 h2 h3 h4=>exact U9 w0 s S rb f e hR.new W k H vO vO () v rs d h1 h3 q
def yF(W:vW)(o:Option (PA × Nat))(e:Ending)(w':vW):Prop:=Af W w'/\match o with
 |some (P,_)=>∃ T x,e=.returned (.tuple #[.iface T x,true])/\Cc P (.iface T x) (DK W w') w'
 |none=>∃ v,e=.returned (.tuple #[v,false])/\(v=.nilIface\/∃ T x,v=.iface T x)
noncomputable def Wf(S:vT)(root:vB):Option (PA × Nat):=(Kn S root).bind λm=>Hu (Bp S) 160 m 160
theorem jzt(W:vW)(s bm:Nat)(room:Int)(S:vT)(hs:Ev W s bm room S)(hN:AH S)(root:vB):vQ 143 #[s,root] W (yF W (Wf S root)):=by
 obtain⟨A,q⟩:=vE (W.alloc (.cells #[s,.int .i64 160] 314))
 have H:Af W A:=by rw[q];exact (Aa W).alloc _
 have O:Ee A W s 160:=by rw[q];exact Ae.new W _
 have hR:Wn W s bm room S ↑W:=⟨hs,hN,bO _⟩;have X:=rL W s bm room S W hR 160 (rN W s bm room S W hR 160) root A 160 H O (bO _) (bO _)
 obtain⟨o,ho⟩:=vE (Wf S root)
 have X:vQ 171 #[W,root] A (So A W s o):=by rw[ho];exact X
 have HC:=J X;have HE:=J H;have HW:=J q;rw[<-ho];unfold vQ;go_in;go_wp2_with fail
 rw[<-HW.o];refine HC.o.mono ?_;intro e w7 hO
 obtain⟨hk,K⟩:=hO
 have hX:Af W w7:=HE.o.O hk kJ;have Z:=J hX;cases o with
 |none =>(obtain⟨v,l,rfl,hv,a0⟩:=K;rcases hv with rfl|⟨T,x,rfl⟩;{(go_wp2);go_ret2;exact⟨Z.o,_,rfl,.inl rfl⟩};(go_wp2);go_ret2;exact⟨Z.o,_,rfl,.inr ⟨T,x,rfl⟩⟩)
 |some Pl =>obtain⟨P,l⟩:=Pl;obtain⟨T,x,rfl,hP,a0⟩:=K;(have HZ:=J hP;go_wp2);go_ret2;exact⟨Z.o,T,x,rfl,HZ.o.mono λz hz=>⟨bH HE.o.size hz.1,hz.2⟩⟩
theorem VP(w:vW){S:vT}(h:Ep f m)(hn:m≠[])(hS:32<=(An (f+1) m).text.size->Md S (An (f+1) m).text):Bp S (Ax (An (f+1) m).text)=some (Bj (An f) m):=by
 have e:=(good f m h).2.1 hn;unfold Bp
 by_cases hz:(An (f+1) m).text.size<32
 ·have A:=e.may.2 hz;rw[ED (Bm (f+1)) A,US w A]
 ·rw[UP hz,JZ (Rp _)];obtain⟨x,q,K⟩:=hS vO;have q:Be S (Aj (An (f+1) m).text).data.toList=some x:=q;show (Be S (Aj (An (f+1) m).text).data.toList).map (λx=>Bq x.2.2.text)=_;rw[q];show some (Bq x.2.2.text)=_;have H:Hv (An (f+1) m).text (Bj (An f) m):=⟨e.text,f,e.good⟩;rw[K,BL w (Vm H) H]
theorem g7(w:vW)(S:vT):∀ (g:Nat) (l:vL),Ep g l->(∀ x∈En (Dc (An g) l),32<=x.size->Md S x)->∀ (f left:Nat),Er g l<=left->left<=f->Hu (Bp S) f (Bj (An g) l) left=some (Dj (g+1) l,left-Er g l):=by
 intro g;have A:∀ (g:Nat) (l:vL),l.length<=1->Er g l=1->∀ (f left:Nat),Er g l<=left->left<=f->Hu (Bp S) f (Bj (An g) l) left=some (Dj (g+1) l,left-Er g l):=by intro g l hl hc f left h1 h2;rw[hc]at h1 ⊢;cases f with| zero=>omega| succ f =>rw[JV,if_neg vO];by_cases h0:l.length=0;{(have e:Bj (An g) l=Cv:=by unfold Bj;rw[if_pos h0]);rw[e,Tw _ h0];rfl};have a2:l.length=1:=vO;(have e:Bj (An g) l=⟨1,(l.getD 0 pd).1,(l.getD 0 pd).2,Dd 16⟩:=by unfold Bj;rw[if_neg h0,if_pos a2]);rw[e,Uw _ a2];rfl
 induction g with
 |zero =>intro l h hS f left h1 h2;exact A 0 l (Vt h) rfl f left h1 h2
 |succ g ih =>intro l h hS f left h1 h2;by_cases hl:l.length<=1;{exact A (g+1) l hl (by unfold Er;rw[if_pos hl]) f left h1 h2};have a0:2<=l.length:=vO;(have K:∀ m,Ep g m->m≠[]->(∀ x∈En (Ia (An (g+1) m)),x∈En (Dc (An (g+1)) l))->(32<=(An (g+1) m).text.size->Md S (An (g+1) m).text)/\∀ x∈En (Dc (An g) m),32<=x.size->Md S x:=by intro m hm a5 O;refine⟨λhz=>hS _ (O _ ?_) hz,λx hx hz=>?_⟩;{rw[nB vO];exact Yx _};by_cases hs:(An (g+1) m).text.size<32;{have a7:=(good g m hm).2.1 a5;have e:(An (g+1) m).kids=[]:=a7.small hs;have e:Dc (An g) m=[]:=e;rw[e]at hx;cases hx};refine hS x (O x ?_) hz;rw[nB hs];exact bM _ hx);cases f with| zero =>exfalso;(have:1<=Er (g+1) l:=by unfold Er;omega);omega| succ f =>by_cases hk:0<Ak l;{obtain⟨X,k2,_,_⟩:=ET h a0 hk;(have eB:Dc (An (g+1)) l=Ia (An (g+1) (Ba (Ak l) l)):=by unfold Dc;rw[if_neg vO,if_pos hk]);(have eN:Bj (An (g+1)) l=⟨2,(l.getD 0 pd).1.extract 0 (Ak l),⟨#[]⟩,Ax (An (g+1) (Ba (Ak l) l)).text::Dd 15⟩:=by unfold Bj;rw[if_neg vO,if_neg vO,if_pos hk]);(have eC:Er (g+1) l=1+Er g (Ba (Ak l) l):=by show 1+(if l.length<=1 then 0 else if 0<Ak l then Er g (Ba (Ak l) l)else _)=_;rw[if_neg vO,if_pos hk]);obtain⟨s1,s2⟩:=K _ X k2 (λx hx=>by rw[eB];exact hx);rw[eC]at h1 ⊢;rw[JV,if_neg vO,eN,BQ _ a0 hk];show ((Bp S (Ax (An (g+1) (Ba (Ak l) l)).text)).bind λm=>(Hu (Bp S) f m (left-1)).map λx=>(PA.ext ((l.getD 0 pd).1.extract 0 (Ak l)) x.1,x.2))=_;rw[VP w X k2 s1];show (Hu (Bp S) f (Bj (An g) (Ba (Ak l) l)) (left-1)).map _=_;rw[ih _ X s2 f (left-1) vO vO];show some (_,left-1-Er g (Ba (Ak l) l))=some (_,left-(1+Er g (Ba (Ak l) l)));congr 2;omega};(have eB:Dc (An (g+1)) l=(List.range 16).flatMap λi=>if (Ah i l).length=0 then []else Ia (An (g+1) (Ba 1 (Ah i l))):=by unfold Dc;rw[if_neg vO,if_neg hk]);obtain⟨rs,a3⟩:=vE ((List.range 16).map λi=>if (Ah i l).length=0 then (⟨#[]⟩:vB)else Ax (An (g+1) (Ba 1 (Ah i l))).text);(have eN:Bj (An (g+1)) l=⟨3,⟨#[]⟩,if (l.getD 0 pd).1.size=0 then (l.getD 0 pd).2 else ⟨#[]⟩,rs⟩:=by rw[a3];unfold Bj;rw[if_neg vO,if_neg vO,if_neg hk]);(obtain⟨c,hc⟩:∃ c:Nat->Nat,c=λi=>if (Ah i l).length=0 then 0 else Er g (Ba 1 (Ah i l)):=⟨_,rfl⟩);(have eC:Er (g+1) l=1+Ch c 16:=by rw[hc];show 1+(if l.length<=1 then 0 else if 0<Ak l then _ else _)=_;rw[if_neg vO,if_neg hk]);(obtain⟨q,H⟩:∃ q:Nat->PA,q=λi=>if (Ah i l).length=0 then PA.nil else Dj (g+1) (Ba 1 (Ah i l)):=⟨_,rfl⟩);(rw[eC]at h1 ⊢;have a1:∀ k,k<=16->Tq (Hu (Bp S) f) (Bp S) rs k (left-1)=some (λi=>if i<k then q i else .nil,left-1-Ch c k):=by intro k;induction k with| zero=>intro _;simp[Tq,Ch]| succ k ihk =>(intro a8;rw[MZ,ihk vO];have a4:rs.getD k ()=if (Ah k l).length=0 then (⟨#[]⟩:vB)else Ax (An (g+1) (Ba 1 (Ah k l))).text:=by rw[a3,TO _ vO]);show (if (rs.getD k ()).size=0 then some (_,left-1-Ch c k)else (Bp S (rs.getD k ())).bind λm=>(Hu (Bp S) f m (left-1-Ch c k)).map λy=>(Cd (λi=>if i<k then q i else .nil) k y.1,y.2))=_;have Z:Ch c (k+1)=Ch c k+c k:=rfl;by_cases hc0:(Ah k l).length=0;{rw[a4,if_pos hc0,if_pos (show (⟨#[]⟩:vB).size=0 from rfl),Z];(have e1:c k=0:=by rw[hc];exact if_pos hc0);(have e2:q k=.nil:=by rw[H];exact if_pos hc0);rw[e1,gJ];congr 2;funext i;by_cases hi:i<k;{rw[if_pos hi,if_pos vO]};rw[if_neg hi];by_cases he:i=k;{rw[he,if_pos vO,e2]};rw[if_neg vO]};obtain⟨X,k2⟩:=CB h hc0;obtain⟨s1,s2⟩:=K _ X k2 (λx hx=>by rw[eB,TN];exact dE.2 ⟨k,dY.2 vO,by rw[if_neg hc0];exact hx⟩);(have e1:c k=Er g (Ba 1 (Ah k l)):=by rw[hc];exact if_neg hc0);(have e2:q k=Dj (g+1) (Ba 1 (Ah k l)):=by rw[H];exact if_neg hc0);(have a9:Ch c (k+1)<=Ch c 16:=by have:=GD c (k+1) (15-k);rwa [show k+1+(15-k)=16 by omega]at this);rw[a4,if_neg hc0,if_neg (OT X k2),VP w X k2 s1];show (Hu (Bp S) f (Bj (An g) (Ba 1 (Ah k l))) (left-1-Ch c k)).map _=_;rw[ih _ X s2 f _ vO vO, <-e1, <-e2,Z];show some (Cd _ k (q k),_)=some (_,_);congr 2;{funext i;unfold Cd;by_cases he:i=k;{rw[if_pos he,he,if_pos vO]};rw[if_neg he];show (if i<k then q i else PA.nil)=_;by_cases hi:i<k;{rw[if_pos hi,if_pos vO]};rw[if_neg hi,if_neg vO]};omega);(rw[JV,if_neg vO,eN,BZ _ a0 hk];show (Tq (Hu (Bp S) f) (Bp S) rs 16 (left-1)).map (λx=>(PA.br (if (l.getD 0 pd).1.size=0 then (l.getD 0 pd).2 else ⟨#[]⟩) x.1,x.2))=_;rw[a1 16 (bO _), <-H];show some (PA.br _ λi=>if i<16 then q i else .nil,left-1-Ch c 16)=some (PA.br _ q,left-(1+Ch c 16));have e3:(λi=>if i<16 then q i else .nil)=q:=by funext i;by_cases hi:i<16;{rw[if_pos hi]};rw[if_neg hi,H];(show PA.nil=if (Ah i l).length=0 then PA.nil else _);rw[if_pos (by cases hz:(Ah i l).length with| zero=>rfl| succ n=>exact absurd (YV h (i:=i) vO) hi)]);rw[e3];congr 2;omega
theorem VK:∀ (g:Nat) (l:vL),Ep g l->Bu (Dj (g+1) l)=Er g l:=by
 intro g;have e:∀ (g:Nat) (l:vL),l.length<=1->Bu (Dj (g+1) l)=1:=by intro g l A;by_cases h0:l.length=0;{rw[Tw _ h0];rfl};rw[Uw _ vO];rfl
 induction g with
 |zero=>intro l h;exact e 0 l (Vt h)
 |succ g ih =>intro l h;by_cases A:l.length<=1;{rw[e _ l A];show 1=1+(if l.length<=1 then 0 else _);rw[if_pos A]};have q:2<=l.length:=vO;show _=1+(if l.length<=1 then 0 else if 0<Ak l then Er g (Ba (Ak l) l)else Ch (λi=>if (Ah i l).length=0 then 0 else Er g (Ba 1 (Ah i l))) 16);rw[if_neg A];by_cases hk:0<Ak l;{rw[if_pos hk,BQ _ q hk];show 1+Bu (Dj (g+1) (Ba (Ak l) l))=_;rw[ih _ (ET h q hk).1]};rw[if_neg hk,BZ _ q hk];show 1+Ch (λi=>Bu (if (Ah i l).length=0 then PA.nil else Dj (g+1) (Ba 1 (Ah i l)))) 16=_;congr 2;funext i;by_cases hc:(Ah i l).length=0;{rw[if_pos hc,if_pos hc];rfl};rw[if_neg hc,if_neg hc,ih _ (CB h hc).1]
theorem PD(h:QS l):Er 12 (Cq l)<=118:=by
 have e:=Nn h
 by_cases hn:Cq l=[]
 ·rw[hn];decide
 ·have q:=(xA 12 _ e hn).all;(have A:=h.len;have H:(Cq l).length=l.length:=by unfold Cq;rw[bT]);omega
theorem w8(w:vW){S:vT}(h:Iy S l):∃ k,Wf S (Aj (Cr l).text)=some (Dj 13 (Cq l),k):=by
 have q:=Nn (Ge h.ok)
 obtain⟨x,e,H⟩:=h.has _ (Yx _)
 have e:Be S (Aj (Cr l).text).data.toList=some x:=e;have A:Hv (Cr l).text (Bj (An 12) (Cq l)):=⟨rfl,12,(good 12 _ q).1⟩;unfold Wf Kn;rw[e];show ∃ k,Hu (Bp S) 160 (Bq x.2.2.text) 160=_;rw[H,BL w (Vm A) A];have O:=PD (Ge h.ok)
 exact⟨_,g7 w S 12 _ q (λy K _=>h.has y (bM _ K)) 160 160 vO (bO _)⟩
end
section
open Go Go.RowKit
end
section
open Go Go.RowKit
attribute [local go_sem] Oper.semAt_some
def Gh(w:vW):Prop:=w.cell? (0:)=some (.iface 232 (.agg #[.pointer (some ⟨3,93,none⟩)]))
theorem Gh.ext{w:vW}(h:Gh w)(k:Af w w'):Gh w':=Am h k
structure Eb(z g:Nat)(v:Value)(T:vM)(W:World):Prop where
 lo:z<=g
 var:Ae W g (.cells #[v] 258)
 row:W.ownsRow 0 9 1 v T.length (T.map Value.string)
 own:∀ b,v.ownBlock=some b->z<=b/\b≠g/\b<(W:Nat)
 nil:T=[]->v=.slice none 0 0
theorem Eb.ext(h:Eb z g v T W)(e:Af W W'):Eb z g v T W':=
 ⟨h.lo,h.var.Z e kI,Kh h.row e,λb hb=>⟨(h.own b hb).1,(h.own b hb).2.1,bE (h.own b hb).2.2 e.size⟩,h.nil⟩
theorem Eb.off{F:Bd}(h:Eb z g v T W)(e:Ad F W W')(h1:¬ F g)(h2:∀ b,v.ownBlock=some b->¬ F b):Eb z g v T W':=
 ⟨h.lo,h.var.Z e h1,Lb h.row e h2,λb hb=>⟨(h.own b hb).1,(h.own b hb).2.1,bE (h.own b hb).2.2 e.size⟩,h.nil⟩
structure Ek(z g:Nat)(v:Value)(W W':World)(v':Value)(T':vM):Prop where
 at':Eb z g v' T' W'
 kp:Ad (λb=>b=g\/v.ownBlock=some b) W W'
 sub:∀ b,v'.ownBlock=some b->v.ownBlock=some b\/(W:Nat)<=b
theorem Ek.refl(h:Eb z g v T W)(e:Af W W'):Ek z g v W W' v T:=⟨h.ext e,e.mono kZ,λb hb=>.inl hb⟩
theorem Ek.trans(h:Ek z g v W W' v' T)(k:Ek z g v' W' W'' v'' T'):Ek z g v W W'' v'' T':=
 ⟨k.at',h.kp.O k.kp (λx q e=>by
  rcases e with e|e
  ·exact .inl e
  ·rcases h.sub x e with e|e
   ·exact .inr e
   ·omega),λb hb=>by
  rcases k.sub b hb with e|e
  ·exact h.sub b e
  ·exact .inr (bH h.kp.size e)⟩
theorem Ek.ext(h:Ek z g v W W' v' T)(e:Af W' W''):Ek z g v W W'' v' T:=h.trans (Ek.refl h.at' e)
theorem Ek.blk(h:Ek z g v W W' v' T){o:Obj}(hB:Ae W b o)(h1:b≠g)(h2:v.ownBlock≠some b):Ae W' b o:=hB.Z h.kp (λe=>e.elim h1 h2)
theorem Ek.ext0(h:Ek z g v W W' v' T')(k:Eb z g v T W)(e:Af W0 W)(hz:(W0:Nat)<=z):Af W0 W':=
 e.O h.kp (λx q e=>by
  rcases e with e|e
  ·have:=k.lo;omega
  ·have:=(k.own x e).1;omega)
theorem Ek.fill(h:Ek z g v W W' v' T)(e:Ad (λb=>b=L) W' W'')(h1:L≠g)(h2:v'.ownBlock≠some L)(h3:(W:Nat)<=L):Ek z g v W W'' v' T:=
 ⟨h.at'.off e (λx=>h1 x.symm) λb hb x=>h2 (by rw[hb,x]),h.kp.O e λx q y=>by have y:x=L:=y;omega,h.sub⟩
theorem Ek.ahead(e:Af W0 W)(h:Ek z g v W W' v' T):Ek z g v W0 W' v' T:=
 ⟨h.at',(e.mono kZ).O h.kp λx q e=>e,λb hb=>(h.sub b hb).imp id λk=>bH e.size k⟩
def Yj(z g:Nat)(v:vV)(W:vW)(r:vV)(T:vM)(e:Ending)(w':vW):Prop:=e=.returned r/\∃ v',Ek z g v W w' v' T
structure IT(n:Ai):Prop where
 refs:n.refs.length=16
 call:∀ w,Ha w->Gh w->vQ 125 #[n.V] w λe w'=>(∃ k:Int,e=.returned (.tuple #[Pa n,.int .i64 k]))/\Af w w'
theorem lX{n:Ai}(h:Gn (Bx d) n):IT n:=⟨(h.one (Bm d)).refs,λw _ _=>by
 rw[TY h];exact (IG (Bm d) w n h).mono λe w' h=>⟨⟨0,h.1⟩,h.2⟩⟩
def Sn:PA->Prop
 |.nil=>True
 |.no=>IT Cv
 |.leaf q v=>IT ⟨1,q,v,Dd 16⟩
 |.ext q n=>IT (Gg (.ext q n))/\Sn n
 |.br v ks=>IT (Gg (.br v ks))/\∀ i,Sn (ks i)
theorem Sn.node(h:Sn P)(hn:P.isNil=false):IT (Gg P):=by
 cases P with
 |nil=>cases hn
 |no=>exact h
 |leaf q v=>exact h
 |ext q n=>exact h.1
 |br v ks=>exact h.1
theorem GE:∀ (P:PA),P.isNil=false->(Ca P).length+1<=Bu P
 |.nil,h=>by cases h
 |.no,_=>bO _
 |.leaf _ _,_=>bO _
 |.ext q n,_=>by
  show (Gm (Bc n)++Ca n).length+1<=1+Bu n;rw[bK];have e:=OJ (Bc n);cases hn:n.isNil with
  |true=>rw[Qk hn];exact bO _
  |false =>
   have:=GE n hn
   omega
 |.br v ks,_=>by
  show ((List.range 16).flatMap λi=>if (ks i).isNil then []else Gm (Bc (ks i))++Ca (ks i)).length+1<=1+Ch (λi=>Bu (ks i)) 16
  have:=KT (λi=>if (ks i).isNil then []else Gm (Bc (ks i))++Ca (ks i)) (λi=>Bu (ks i)) (λi=>by
   show (if (ks i).isNil=true then ([]:vM)else Gm (Bc (ks i))++Ca (ks i)).length<=Bu (ks i);cases hn:(ks i).isNil with
   |true=>rw[if_pos rfl];exact cD _
   |false =>
    rw[if_neg ff,bK];have e:=OJ (Bc (ks i))
    have:=GE (ks i) hn
    omega) 16
  omega
def tP(P:PA):Prop:=∀ (w0 W:vW) (T:TypeId) (x:vV) (D:Nat->Prop) (g:Nat) (v:vV) (Tx:vM),Ha w0->Gh w0->Hq P (.iface T x) D w0->Af w0 W->Eb w0 g v Tx W->Tx.length+Bu P<=100000 ->
 vQ (LU P) #[x,g] W (Yj w0 g v W (Gg P).V (Tx++Ca P))
def Yl(P:PA):Prop:=∀ (w0 W:vW) (T:TypeId) (x:vV) (D:Nat->Prop) (g:Nat) (v:vV) (Tx:vM),Ha w0->Gh w0->Hq P (.iface T x) D w0->Af w0 W->Eb w0 g v Tx W->Tx.length+Bu P<=100000 ->
 vQ 144 #[g,.iface T x] W (Yj w0 g v W (Bc P) (Tx++Ca P))
def YA(P:PA):Prop:=∀ (w0 W:vW) (T:TypeId) (x:vV) (D:Nat->Prop) (g:Nat) (v:vV) (Tx:vM),Ha w0->Gh w0->Hq P (.iface T x) D w0->Af w0 W->Eb w0 g v Tx W->Tx.length+Bu P<=100000 ->
 vQ 277 #[g,.iface T x] W (Yj w0 g v W (Ax (Bc P)) (Tx++(Gm (Bc P)++Ca P)))
theorem N5(z g:Nat)(v:vV)(Tx:vM)(W:vW)(h:Eb z g v Tx W):vQ 302 #[.agg #[],g] W (Yj z g v W Cv.V Tx):=by
 have H:=J h;unfold vQ;go_in;go_wp2_with (first|(refine Di Ac rfl rfl ?_;intro W5 q A;simp only[bJ]at q)|(refine Bt (vs:=Cv.cells) rfl rfl rfl rfl q rfl Ab Cv.one ?_;intro Z K O))
 have X:=(Aa W).alloc (.cells #[] 389);refine bodyPost_ret (Zq rfl rfl (Qb Z _ Cv rfl K)) rfl ?_
 exact⟨rfl,v,Ek.refl H.o ((X.trans A).O O kJ)⟩
def xQ(q u:vB):List vV:=Uy 1 q u ()
theorem T8(z g:Nat)(v:vV)(Tx:vM)(W:vW)(hE:Af w0 W)(q u:vB)(b:Nat)(hB:Ae w0 b (.cells #[q,u] 380))(h:Eb z g v Tx W):vQ 288 #[b,g] W (Yj z g v W (Ai.V ⟨1,q,u,Dd 16⟩) Tx):=by
 have H:=J h;have Q0:=J (Am (hB.cell (i:=0) (v:=.string q) vF) hE);have Q1:=J (Am (hB.cell (i:=1) (v:=.string u) vF) hE);have a7:=hB.lt;have O:=J (show ¬ b=(W:Nat) by have:=hE.size;omega);unfold vQ;go_in;go_wp2_with (refine Di Ac rfl rfl ?_;intro W4 a0 a1)
 have a2:=J a0;have A:=J a1;refine vS ?_;refine Na [0,1,2,3,4,5,6,7,8,9] [9] Af (Ad λz=>z=(W:Nat)) Aa Ap (λx y z h k=>Ad.trans h k) (λx y h=>h.mono kZ) vY vY vY ?_
 refine vD ?_
 refine Lx _ (b) rfl zh (vS ?_)
 refine vD ?_
 refine Fa b _ rfl (λw1 h1=>De zf (Ed (Am Q0.o A.o) (((Ad.refl (λz=>z=(W:Nat)) W4).drew).trans h1) (by exact O.o))) (vS ?_)
 refine vD ?_
 refine Lx _ (b) rfl zh (vS ?_)
 refine vD ?_
 refine Fa ⟨b,1,none⟩ _ rfl (λw1 h1=>De zf (Ed (Am Q1.o A.o) (((Ad.refl (λz=>z=(W:Nat)) W4).drew).trans h1) (by exact O.o))) (vS ?_)
 refine vD ?_
 refine Hh _ rfl (λw5 Z K hK=>?_);have hX:=(Ao W4).trans Z;refine Yw (vs:=xQ q u) rfl rfl rfl (a2.o.Z hX kI) rfl Ab (CS _ _ _ _) ?_;intro W6 a3 X;have H6:=J (bA a3 ((A.o.trans hX).O X kJ));refine vS ?_;refine hK _ _ X ?_;refine Mt (λw7 Z=>?_);have a4:=H6.o.1.Z Z kI;have a5:=H6.o.2.trans Z;go_wp2_with fail
 refine bodyPost_ret (Zq rfl rfl (Qb w7 _ ⟨1,q,u,Dd 16⟩ rfl a4)) rfl ?_
 exact⟨rfl,v,Ek.refl H.o a5⟩
theorem XT(P:PA)(hn:P.isNil=false)(hp:Sn P)(hF:tP P):Yl P:=by
 intro w0 W T x D g v Tx K O X Z hW hl;have hf:=hF w0 W T x D g v Tx K O X Z hW hl;have hm:=X.at'.meth.form;have hm:∀ w,(Go.method (522+1) T x "guilloche/trie.form").run prog w=.ok (LU P,x) w:=hm;have a2:=i2 P;have q:=hp.node hn;rw[lE hn];have HN:Hid (∀ w,Af w0 w->vQ 125 #[(Gg P).V] w λe w'=>(∃ k:Int,e=.returned (.tuple #[Pa (Gg P),.int .i64 k]))/\Af w w'):=λw e=>q.call w (K.ext e) (O.ext e);have HF:=J hf;have HW:=J (bA hW Z)
 obtain⟨U,hU⟩:=vE (Tx++Ca P)
 rw[<-hU]at HF ⊢
 obtain⟨n,A⟩:=vE (Gg P)
 rw[<-A]at HF HN ⊢;clear hf K O X Z hW hl q hn hp hF hU A;go_enter func144,ntmps144;go_wp2_with fail
 refine HF.o.mono ?_;rintro e w1 ⟨rfl,v1,hT⟩;have HT:=J hT;have a0:=J (hT.ext0 HW.o.1 HW.o.2 (bO _));clear hT;go_wp2_with fail
 refine (HN.o w1 a0.o).mono ?_;rintro e w2 ⟨⟨k,rfl⟩,H⟩;have a1:=J H;clear H;go_wp2
 go_ret
 exact⟨rfl,v1,HT.o.ext a1.o⟩
end
section
open Go Go.RowKit
end
section
open Go Go.RowKit
attribute [local go_sem] Oper.semAt_some
end
section
open Go Go.RowKit
end
section
open Go Go.RowKit
attribute [local go_sem] Oper.semAt_some
end
section
open Go Go.RowKit
end
section
open Go Go.RowKit
attribute [local go_sem] Oper.semAt_some
theorem Y3{y h:vB}(A:Zh y=some h):AG y:=by
 unfold Zh at A;cases q:Dx y with
 |none=>rw[q]at A;cases A
 |some r =>rw[q]at A;have A:Vx y r=some h:=A;unfold Vx at A;rw[Option.filter_eq_some_iff]at A;obtain⟨H,K⟩:=A;(have K:h.size=32:=by simpa using K);unfold Zd at H;by_cases hr:r.1=false/\r.2.1+r.2.2=y.size;(case neg=>rw[if_neg hr]at H;cases H);rw[if_pos hr]at H;have H:=bV H;obtain⟨b,o,n⟩:=r;obtain⟨hb,O⟩:=hr;have hb:b=false:=hb;have O:o+n=y.size:=O;subst hb;refine⟨h,K,?_⟩;(have hn:n=32:=by have e:=congrArg ByteArray.size H;rw[dI]at e;simp only at e;omega);obtain⟨⟨l⟩⟩:=y;cases l with| nil=>exact absurd (VM q).1 vI| cons a t =>have q:Dx ⟨(a::t).toArray⟩=some (false,o,n):=q;rw[NS]at q;obtain⟨m,X⟩:=vE (if a.toNat<192 then a.toNat-128 else a.toNat-192);rw[<-X]at q;by_cases h4:a.toNat<128;{rw[if_pos h4]at q;have:=(Prod.mk.inj (Prod.mk.inj (bV q)).2).2;omega};rw[if_neg h4]at q;by_cases h5:m<=55;{rw[if_pos h5]at q;split at q;{have Z:=(Prod.mk.inj (bV q)).1;(have e2:=(Prod.mk.inj (Prod.mk.inj (bV q)).2).1;have e3:=(Prod.mk.inj (Prod.mk.inj (bV q)).2).2;have Z:¬ 192<=a.toNat:=of_decide_eq_false Z;rw[if_pos vO]at X;have ha:a=160:=dO.1 (by show a.toNat=160;omega);have ht:h=⟨t.toArray⟩:=by rw[<-H, <-e2,hn];apply ByteArray.ext;apply Array.ext';have a0:o+n=t.length+1:=O;rw[fA,fV,fB];show ((a::t).drop 1).take (1+32-1)=t;rw[List.drop_succ_cons,List.drop_zero,cG vO]);unfold Av;rw[if_neg vO,K,ht,ha];apply ByteArray.ext;apply Array.ext';rw[dN,fO];rfl};cases q};rw[if_neg h5]at q;split at q;{rename_i n' hl;split at q;{have e3:=(Prod.mk.inj (Prod.mk.inj (bV q)).2).2;have:=(NT hl).2.2.2.1;omega};cases q};cases q
def JI(s:vB):Prop:=∀ w,Gh w->vQ 114 #[s] w (QM w)
theorem q1{I:vB->Ai->Prop}{n:Ai}(h:Gn I n)(h0:n.kind=0):n=Cv:=by
 cases h with
 |none=>rfl
 |leaf p v _ _ _=>exact absurd (show (1:Nat)=0 from h0) vI
 |ext p r _ _ _=>exact absurd (show (2:Nat)=0 from h0) vI
 |branch v rs _ _ _ _=>exact absurd (show (3:Nat)=0 from h0) vI
theorem Eb.push(h:Eb z g v Tx W)(hn:n=(Tx++New).length)(r1:w6.ownsRow 0 9 1 v' n ((Tx++New).map Value.string))(r2:Ad (λb=>v.ownBlock=some b) W w6)(r3:v'.ownBlock=v.ownBlock\/∀ b,v'.ownBlock=some b->(W:Nat)<=b)(hz:z<=(W:Nat))(h0:New≠[]):Ek z g v W (w6.setCell g v') v' (Tx++New):=by
 subst hn;have H:=h.var.Z r2 (λe=>(h.own g e).2.1 rfl);have K:=Ad.z4 w6 g v';have O:=h.var.lt;have q:∀ b,v'.ownBlock=some b->v.ownBlock=some b\/(W:Nat)<=b:=λb hb=>by rcases r3 with r3|r3;{exact .inl (r3 ▸ hb)};exact .inr (r3 b hb)
 have A:∀ b,v'.ownBlock=some b->b≠g:=λb hb=>by rcases q b hb with e|e;{exact (h.own b e).2.1};omega
 refine⟨⟨h.lo,H.z2 (i:=0) _,Lb r1 K λb hb e=>A b hb e,λb hb=>⟨?_,A b hb,bE (tC r1 hb) K.size⟩,λe=>?_⟩,?_,q⟩
 ·rcases q b hb with e|e;{exact (h.own b e).1};omega
 ·exact absurd (List.append_eq_nil_iff.1 e).2 h0
 ·exact ((r2.mono (λx _ e=>.inr e):Ad (λb=>b=g\/v.ownBlock=some b) W w6)).O K (λx X e=>.inl e)
theorem Eb.sameTo(h:Eb z g v Tx W):Ek z g v W (W.setCell g v) v Tx:=by
 have K:=Ad.z4 W g v;have q:=h.var.z2 (i:=0) v
 exact⟨⟨h.lo,q,Lb h.row K λb hb e=>(h.own b hb).2.1 e,λb hb=>⟨(h.own b hb).1,(h.own b hb).2.1,bE (h.own b hb).2.2 K.size⟩,h.nil⟩,K.mono λx _ e=>.inl e,λb hb=>.inl hb⟩
theorem Eb.same(h:Eb z g v Tx W):Eb z g v Tx (W.setCell g v):=h.sameTo.at'
theorem IE{T:TypeId}(h:W.ownsRow 0 T sz (.slice a n c) n xs)(h0:n≠0):∃ b,a=some ⟨b,0,none⟩:=by
 obtain⟨_,⟨q,e⟩|⟨g,A,H,e,_⟩⟩:=h
 ·injection q with _ q _;exact absurd q h0
 ·injection e with e _ _;exact⟨g,e⟩
theorem BN{T:TypeId}(h:W.ownsRow 0 T 1 (.slice (some b) n c) n xs){u:vV}(hj:xs[j]?=some u):W.cell? ⟨b,j,none⟩=some u:=by
 have e:=(bI.1 hj).1;have q:=h.1;rw[h.cellAt j vO,hj]
theorem G8(h:¬ t.size<32):Zh (Ax t)=some (Aj t):=by
 rw[HJ];unfold Ax;rw[if_neg h];exact JZ (Rp _)
theorem jno(h:t.size<32):Zh (Ax t)=none:=by
 unfold Ax;rw[if_pos h];cases e:Zh t with
 |none=>rfl
 |some x =>have:=(Y3 (y:=t) (h:=x) e).size;omega
theorem NX{n:Ai}(hs:(Pa n).size<32):Yf (Pa n):=by
 by_cases h:∃ d,Gn (Bx d) n
 ·obtain⟨d,H⟩:=h;rw[TY H]at hs ⊢;by_cases h0:n.kind=0;{rw[q1 H h0];intro e;obtain⟨o,A,_⟩:=KF () vI;rw[show Cu Cv=Av ()from rfl,A]at e;cases e};intro e;obtain⟨q,A,_⟩:=(Bm (d+1)).nohash _ n ⟨H,rfl,hs,h0⟩;rw[e]at A;cases A
 ·rw[W2 h];exact λ_=>rfl
theorem oR(P:PA):Yf (Ax (Bc P)):=by
 by_cases hs:(Bc P).size<32
 ·unfold Ax;rw[if_pos hs];cases P with| nil=>exact λ_=>rfl| no=>exact NX hs| leaf q v=>exact NX hs| ext q n=>exact NX hs| br v ks=>exact NX hs
 ·unfold Ax;rw[if_neg hs];intro e;obtain⟨q,A,_⟩:=GI (Aj (Bc P)) (Rp _);rw[A]at e;cases e
theorem rK:(Ax t).size<=33:=by
 unfold Ax;split
 ·omega
 ·exact Nat.le_of_eq (AG.size ⟨_,Rp t,rfl⟩)
theorem rV{T:TypeId}(h:W.ownsRow 0 T sz (.slice a n c) n xs):n<=c:=by
 obtain⟨_,⟨H,e⟩|⟨g,q,A,e,K,O,X,Z⟩⟩:=h
 ·omega
 ·injection e with _ _ e;omega
theorem i1(P:PA)(hT:Yl P)(hz:(Bc P).size<32)(w0 W:vW)(T:TypeId)(x:vV)(D:Nat->Prop)(g:Nat)(v:vV)(Tx:vM)(hc:Ha w0)(X:Gh w0)(hP:Hq P (.iface T x) D w0)(hE:Af w0 W)(hW:Eb w0 g v Tx W)(hl:Tx.length+Bu P<=100000):vQ 277 #[g,.iface T x] W (Yj w0 g v W (Ax (Bc P)) (Tx++Ca P)):=by
 obtain⟨W1,b5⟩:=vE (W.alloc (.cells #[qe] 258))
 have b7:Af W W1:=by rw[b5];exact (Aa W).alloc _
 have b8:Eb w0 W qe [] W1:=⟨hE.size,by rw[b5];exact Ae.new W _,fK _ _ _ _,λb hb=>(by cases hb),λ_=>rfl⟩;have a0:=hT w0 W1 T x D W qe [] hc X hP (hE.trans b7) b8 (by have:([]:vM).length=0:=rfl;omega);rw[cL]at a0;have b1:=J a0;clear a0;have c7:=J b5;have e1:=c7;have HG:=J hW;have Z:=J (kT b8 b7 hE);have e2:=hc;have b3:=J (λw (e:Af w0 w)=>YB w (Bc P) (hc.ext e));have a3:=J (λw=>KI w (Ax (Bc P)) (kL (rK (Bc P))) (oR P));rw[jno _ hz]at a3;have c8:Tx.length+(Ca P).length<=100000:=by cases hn:P.isNil with| true=>rw[Qk hn];show Tx.length+0<=_;omega| false=>have:=GE P hn;omega
 have c9:=J c8
 obtain⟨U,hU⟩:=vE (Ca P)
 obtain⟨t,ht⟩:=vE (Bc P)
 rw[<-ht, <-hU]at b1;rw[<-ht]at b3 a3 ⊢;rw[<-hU]at c9 ⊢;clear hT hz hc X hP hE hW hl b7 b8 c8 hU ht b5 e1 e2;unfold vQ;go_in;go_wp2_with fail
 rw[<-c7.o];refine b1.o.mono ?_;rintro e w2 ⟨rfl,v2,a4⟩;have b9:g≠(W:Nat):=kL HG.o.var.lt
 have b4:=a4.ext0 Z.o.1 (Z.o.2.2.trans Z.o.b) (bO _);have d0:Eb w0 g v Tx w2:=(HG.o.ext Z.o.b).off a4.kp (λe=>e.elim b9 λe=>by cases e) (λb hb e=>e.elim (λe=>kL ((HG.o.own b hb).2.2)) λe=>by cases e);have d1:Af W w2:=Z.o.2.1.O a4.kp (λx hx e=>e.elim (λe=>by omega) λe=>by cases e);have e9:Hid (∀ b,v2.ownBlock=some b->(W:Nat)<=b):=(λb hb=>(a4.sub b hb).elim (λe=>by cases e) λe=>bH Z.o.2.1.size e);have a8:=J (kU a4.at' d0 d1 b4);clear a4 d0 d1 b4
 obtain⟨h,hh⟩:=vE W.heap.size
 have f0:=J (bA b9 hh);rw[<-hh]at a8 ⊢;clear b9 hh;go_wp2_with fail
 refine vH (b3.o w2 a8.o.D) λw3 e3=>?_;go_wp2_with fail
 refine vC (a3.o w3) λw4 a5=>?_;have a5:=e3.o.trans a5;have q:=J (kT (a8.o.1.ext a5) (a8.o.2.1.ext a5) (a8.o.2.2.1.trans a5));clear a5;unfold Cw;go_wp2_with fail
 obtain⟨i0,d2,e4,e5,e6⟩:=info_parts Bn
 obtain⟨a1,c1,d3⟩:=Ir q.o.2.1.row
 obtain⟨n1,b6⟩:∃ n,n=List.length Tx:=⟨_,rfl⟩
 rw[<-b6]at d3;subst d3;have d4:=J b6;have d5:=J (show World.ownsRow w4 0 9 1 (.slice a1 n1 c1) n1 (List.map Value.string Tx) by have h9:=q.o.2.1.row;rw[<-b6]at h9;exact h9);have c5:=J (rV d5.o);have QG:=J (q.o.2.1.var.cell (i:=0) (v:=.slice a1 n1 c1) vF);clear b6
 by_cases hU0:U=[]
 ·have a9:=q.o.1.nil hU0;(subst a9;have QH:=J (q.o.1.var.cell (i:=0) (v:=.slice none 0 0) vF);have c0:=J hU0;clear hU0;refine Lc [0,1,2,3,4,5,6,7,8,9,10,11,12] [9,12] (Af) Aa Ap vY vY vY ?_;iterate 2 refine vP ?_);refine qA _ (g) rfl zf (vS ?_);refine vP ?_;refine qL g _ rfl (λw1 h1=>De zf (Am QG.o ((Ao _).trans h1))) (vS ?_);refine vP ?_;refine qA _ (h) rfl zf (vS ?_);refine vP ?_;refine qL h _ rfl (λw1 h1=>De zf (Am QH.o ((Ao _).trans h1))) (vS ?_);refine qH _ rfl (λw5 X K hK=>?_);refine Ro (v:=.slice a1 n1 c1) (w':=w5) (JQ (JP (i:=i0) Bg d2 a1 n1 c1 c5.o 0 w5) vY) (hK _ _ ?_);have d6:=J ((Ao _).trans X);clear hK K X;refine vS ?_;refine qA _ (g) rfl zf (vS ?_);refine vP ?_;(refine qH _ rfl (λw8 H K hK=>?_);have A:=q.o.2.1.ext (d6.o.trans H);have q8:w8.cell? g=some (.slice a1 n1 c1):=A.var.cell (i:=0) vF;have f8:w8.frozen? g=false:=A.var.frozen;have d7:Eb w0 g (.slice a1 n1 c1) Tx (w8.setCell g (.slice a1 n1 c1)):=A.same;have H8:=J (kT d7 (d6.o.trans H) A);clear A d7 H;go_simp;refine hK _ _ ?_;clear hK K q8 f8;refine qE (λw7 X=>?_);have c3:=J X;clear X;go_wp2);go_ret;rw[c0.o,cC];exact⟨rfl,_,(Ek.refl HG.o (q.o.2.2.trans H8.o.b)).trans ((H8.o.2.2.sameTo).ext c3.o)⟩
 ·obtain⟨a2,c2,a9⟩:=Ir q.o.1.row;have b0:=q.o.1.row;obtain⟨n2,c4⟩:∃ n,n=List.length U:=⟨_,rfl⟩;rw[<-c4]at a9 b0;rw[a9]at b0;obtain⟨b2,rfl⟩:=IE b0 (λe=>hU0 (bF vO));(subst a9;have e7:=J b0;have d8:=J c4.symm;have c0:=J hU0;have d9:=J (show n1+n2<=200000 by have:=c9.o;have:=d4.o;omega);have QH:=J (q.o.1.var.cell (i:=0) (v:=.slice (some b2) n2 c2) vF);clear hU0 b0 c4;refine Lc [0,1,2,3,4,5,6,7,8,9,10,11,12] [9,12] (Af) Aa Ap vY vY vY ?_;iterate 2 refine vP ?_);refine qA _ (g) rfl zf (vS ?_);refine vP ?_;refine qL g _ rfl (λw1 h1=>De zf (Am QG.o ((Ao _).trans h1))) (vS ?_);refine vP ?_;refine qA _ (h) rfl zf (vS ?_);refine vP ?_;refine qL h _ rfl (λw1 h1=>De zf (Am QH.o ((Ao _).trans h1))) (vS ?_);refine qH _ rfl (λw5 X K hK=>?_);have O:=(Ao _).trans X;refine MQ w5 (.tmp 37) (.tmp 41) 51 rfl 9 i0 _ 1 16 Bg d2 e4 e5 e6 rfl vI (.slice a1 n1 c1) n1 _ rfl (Kh d5.o O) b2 n2 c2 (U.map Value.string) rfl (by rw[bT,d8.o,Nat.mul_one]) (λj u hj=>by rw[Addr.add_lit,bX];exact (BN (Kh e7.o O) hj)) (by intro u hu;obtain⟨y,_,rfl⟩:=bC.1 hu;rfl) (by have:=d9.o;unfold maxLen;omega) (kL d9.o) ?_;intro v' w6 r1 r2 r3;have HA:=J (kU O r1 r2 r3);obtain⟨a',c',e8⟩:=Ir r1;subst e8;refine hK _ _ ?_;clear hK K X O r1 r2 r3;refine vS ?_;refine qA _ (g) rfl zf (vS ?_);refine vP ?_;refine qH _ rfl (λw8 H K hK=>?_);obtain⟨O,r1,r2,r3⟩:=HA.o;(have a7:=q.o.2.1.ext O;have e0:(w0:Nat)<=↑w5:=bH a7.lo (Nat.le_of_lt a7.var.lt);have hp:=a7.push (n:=n1+n2) (by rw[bK, <-d4.o,d8.o]) (by rw[bW];exact Kh r1 H) (r2.trans (H.mono kZ)) r3 e0 c0.o;have A:=(a7.var.Z r2 λe=>(a7.own g e).2.1 rfl).Z H kI;have q8:w8.cell? g=some (.slice a1 n1 c1):=A.cell (i:=0) vF;have f8:w8.frozen? g=false:=A.frozen;have H8:=J (bA hp O);clear O r1 r2 r3 a7 e0 hp A H;go_simp;refine hK _ _ ?_;clear hK K q8 f8;refine qE (λw7 X=>?_);have c3:=J X;clear X;go_wp2);go_ret;exact⟨rfl,_,((Ek.refl HG.o (q.o.2.2.trans H8.o.2)).trans H8.o.1).ext c3.o⟩
theorem K4(P:PA)(hT:Yl P)(hz:¬(Bc P).size<32)(w0 W:vW)(T:TypeId)(x:vV)(D:Nat->Prop)(g:Nat)(v:vV)(Tx:vM)(hc:Ha w0)(X:Gh w0)(hP:Hq P (.iface T x) D w0)(hE:Af w0 W)(hW:Eb w0 g v Tx W)(hl:Tx.length+Bu P<=100000):vQ 277 #[g,.iface T x] W (Yj w0 g v W (Ax (Bc P)) (Tx++(Bc P::Ca P))):=by
 obtain⟨W1,c4⟩:=vE (W.alloc (.cells #[qe] 258))
 have d1:Af W W1:=by rw[c4];exact (Aa W).alloc _
 have d2:Eb w0 W qe [] W1:=⟨hE.size,by rw[c4];exact Ae.new W _,fK _ _ _ _,λb hb=>(by cases hb),λ_=>rfl⟩;have a3:=hT w0 W1 T x D W qe [] hc X hP (hE.trans d1) d2 (by have:([]:vM).length=0:=rfl;omega);rw[cL]at a3;have b6:=J a3;clear a3;have e1:=J c4;have g0:=e1;have HG:=J hW;have Z:=J (kT d2 d1 hE);have g2:=hc;have b7:=J (λw (e:Af w0 w)=>YB w (Bc P) (hc.ext e));have a4:=J (λw=>KI w (Ax (Bc P)) (kL (rK (Bc P))) (oR P));rw[G8 _ hz]at a4;have e2:Tx.length+(Ca P).length<=100000:=by cases hn:P.isNil with| true=>rw[Qk hn];show Tx.length+0<=_;omega| false=>have:=GE P hn;omega
 have d3:=J e2
 obtain⟨U,hU⟩:=vE (Ca P)
 obtain⟨t,ht⟩:=vE (Bc P)
 rw[<-ht, <-hU]at b6;rw[<-ht]at b7 a4 ⊢;rw[<-hU]at d3 ⊢;clear hT hz hc X hP hE hW hl d1 d2 e2 hU ht c4 g0 g2;unfold vQ;go_in;go_wp2_with fail
 rw[<-e1.o];refine b6.o.mono ?_;rintro e w2 ⟨rfl,v2,a5⟩;have d4:g≠(W:Nat):=kL HG.o.var.lt
 have b8:=a5.ext0 Z.o.1 (Z.o.2.2.trans Z.o.b) (bO _);have e3:Eb w0 g v Tx w2:=(HG.o.ext Z.o.b).off a5.kp (λe=>e.elim d4 λe=>by cases e) (λb hb e=>e.elim (λe=>kL ((HG.o.own b hb).2.2)) λe=>by cases e);have e4:Af W w2:=Z.o.2.1.O a5.kp (λx hx e=>e.elim (λe=>by omega) λe=>by cases e);have d9:Hid (∀ b,v2.ownBlock=some b->(W:Nat)<=b):=(λb hb=>(a5.sub b hb).elim (λe=>by cases e) λe=>bH Z.o.2.1.size e);have a9:=J (kU a5.at' e3 e4 b8);clear a5 e3 e4 b8
 obtain⟨h,hh⟩:=vE W.heap.size
 have e5:=J (bA d4 hh);rw[<-hh]at a9 ⊢;clear d4 hh;go_wp2_with fail
 refine vH (b7.o w2 a9.o.D) λw3 g3=>?_;go_wp2_with fail
 refine vC (a4.o w3) λw4 a7=>?_;have a7:=g3.o.trans a7;have q:=J (kT (a9.o.1.ext a7) (a9.o.2.1.ext a7) (a9.o.2.2.1.trans a7));clear a7;unfold Cw
 obtain⟨i0,b0,c5,c7,c8⟩:=info_parts Bn
 have b1:=q.o.b
 obtain⟨a0,c0,g4⟩:=Ir b1.row
 have q4:=b1.var.cell (i:=0) (v:=v) vF;have e6:=J (show Tx.length<=100000 by have:=d3.o;omega);have g5:=J b1.row;have b3:=J b1;clear b1;subst g4;go_wp2_with (at_builtin;refine FR _ rfl (.tmp 27) (.tmp 29) 51 rfl 9 i0 _ 1 16 Bg b0 c5 c7 c8 rfl vI (.slice a0 Tx.length c0) Tx.length _ rfl (Kh g5.o ((Aa w4).alloc _)) w4 1 1 [t] rfl rfl (Jx (Ae.new w4 _)) zc (by have:=e6.o;unfold maxLen;omega) (kL e6.o) ?_;intro v' w6 r1 r2 r3;obtain⟨e7,e8,rfl⟩:=Ir r1;have g6:=b3.o.var.lt;have d5:=(b3.o.var.alloc (.cells #[t] 9)).Z r2 (λe=>(b3.o.own g e).2.1 rfl);have g7:w6.cell? g=some (.slice a0 Tx.length c0):=d5.cell (i:=0) vF;have g8:w6.frozen? g=false:=d5.frozen)
 obtain⟨wS,e9⟩:=vE (w6.setCell g (.slice e7 (Tx.length+1) e8))
 have b9:=b3.o.ext ((Aa w4).alloc (.cells #[t] 9));have hp:=b9.push (n:=Tx.length+1) (New:=[t]) (by simp) (by rw[bW];exact r1) r2 r3 (by have:=b3.o.lo;rw[bJ];omega) (by simp);rw[<-e9]at hp ⊢;have hp:=Ek.ahead ((Aa w4).alloc (.cells #[t] 9)) hp;have f0:=q.o.1.off hp.kp (λe=>e.elim (λe=>by have:=HG.o.var.lt;have:=e5.o.2;omega) λe=>by have:=(HG.o.own h e).2.2;have:=e5.o.2;omega) (λb hb e=>by have h1:=d9.o b hb;rcases e with e|e;{have:=HG.o.var.lt;omega};have:=(HG.o.own b e).2.2;omega)
 have c3:Ek w0 g (.slice a0 Tx.length c0) W wS (.slice e7 (Tx.length+1) e8) (Tx++[t]):=(Ek.refl HG.o q.o.C).trans hp;have c9:∃ v1,Eb w0 h v2 U wS/\Eb w0 g v1 (Tx++[t]) wS/\Ek w0 g (.slice a0 Tx.length c0) W wS v1 (Tx++[t]):=⟨_,f0,hp.at',c3⟩
 obtain⟨v1,c9⟩:=c9
 clear q hp b9 e9 f0 c3 g7 g8 d5 r1 r2 r3 g6 q4;have q:=J c9;clear c9 b0 c5 c7 c8
 obtain⟨i0,b0,c5,c7,c8⟩:=info_parts Bn
 obtain⟨a1,c1,f1⟩:=Ir q.o.2.1.row
 obtain⟨n1,d0⟩:∃ n,n=List.length (Tx++[t]):=⟨_,rfl⟩
 rw[<-d0]at f1;subst f1;have f2:=J d0;have f3:=J (show World.ownsRow wS 0 9 1 (.slice a1 n1 c1) n1 (List.map Value.string (Tx++[t])) by have h9:=q.o.2.1.row;rw[<-d0]at h9;exact h9);have e0:=J (rV f3.o);have QG:=J (q.o.2.1.var.cell (i:=0) (v:=.slice a1 n1 c1) vF);clear d0
 by_cases hU0:U=[]
 ·have b4:=q.o.1.nil hU0;(subst b4;have QH:=J (q.o.1.var.cell (i:=0) (v:=.slice none 0 0) vF);have d6:=J hU0;clear hU0;refine Lc [0,1,2,3,4,5,6,7,8,9,10,11,12] [9,12] (Af) Aa Ap vY vY vY ?_;iterate 2 refine vP ?_);refine qA _ (g) rfl zf (vS ?_);refine vP ?_;refine qL g _ rfl (λw1 h1=>De zf (Am QG.o ((Ao _).trans h1))) (vS ?_);refine vP ?_;refine qA _ (h) rfl zf (vS ?_);refine vP ?_;refine qL h _ rfl (λw1 h1=>De zf (Am QH.o ((Ao _).trans h1))) (vS ?_);refine qH _ rfl (λw5 X K hK=>?_);refine Ro (v:=.slice a1 n1 c1) (w':=w5) (JQ (JP (i:=i0) Bg b0 a1 n1 c1 e0.o 0 w5) vY) (hK _ _ ?_);have f4:=J ((Ao _).trans X);clear hK K X;refine vS ?_;refine qA _ (g) rfl zf (vS ?_);refine vP ?_;(refine qH _ rfl (λw8 H K hK=>?_);have A:=q.o.2.1.ext (f4.o.trans H);have q8:w8.cell? g=some (.slice a1 n1 c1):=A.var.cell (i:=0) vF;have f8:w8.frozen? g=false:=A.var.frozen;have f5:Eb w0 g (.slice a1 n1 c1) (Tx++[t]) (w8.setCell g (.slice a1 n1 c1)):=A.same;have H8:=J (kT f5 (f4.o.trans H) A);clear A f5 H;go_simp;refine hK _ _ ?_;clear hK K q8 f8;refine qE (λw7 X=>?_);have d7:=J X;clear X;go_wp2);go_ret;rw[d6.o];exact⟨rfl,_,(q.o.2.2.ext H8.o.b).trans ((H8.o.2.2.sameTo).ext d7.o)⟩
 ·obtain⟨a2,c2,b4⟩:=Ir q.o.1.row;have b5:=q.o.1.row;obtain⟨n2,d8⟩:∃ n,n=List.length U:=⟨_,rfl⟩;rw[<-d8]at b4 b5;rw[b4]at b5;obtain⟨b2,rfl⟩:=IE b5 (λe=>hU0 (bF vO));(subst b4;have g9:=J b5;have f6:=J d8.symm;have d6:=J hU0;have f7:=J (show n1+n2<=200000 by have:=d3.o;have h9:=f2.o;rw[bK,List.length_singleton]at h9;omega);have QH:=J (q.o.1.var.cell (i:=0) (v:=.slice (some b2) n2 c2) vF);clear hU0 b5 d8;refine Lc [0,1,2,3,4,5,6,7,8,9,10,11,12] [9,12] (Af) Aa Ap vY vY vY ?_;iterate 2 refine vP ?_);refine qA _ (g) rfl zf (vS ?_);refine vP ?_;refine qL g _ rfl (λw1 h1=>De zf (Am QG.o ((Ao _).trans h1))) (vS ?_);refine vP ?_;refine qA _ (h) rfl zf (vS ?_);refine vP ?_;refine qL h _ rfl (λw1 h1=>De zf (Am QH.o ((Ao _).trans h1))) (vS ?_);refine qH _ rfl (λw5 X K hK=>?_);have O:=(Ao _).trans X;refine MQ w5 (.tmp 37) (.tmp 41) 51 rfl 9 i0 _ 1 16 Bg b0 c5 c7 c8 rfl vI (.slice a1 n1 c1) n1 _ rfl (Kh f3.o O) b2 n2 c2 (U.map Value.string) rfl (by rw[bT,f6.o,Nat.mul_one]) (λj u hj=>by rw[Addr.add_lit,bX];exact (BN (Kh g9.o O) hj)) (by intro u hu;obtain⟨y,_,rfl⟩:=bC.1 hu;rfl) (by have:=f7.o;unfold maxLen;omega) (kL f7.o) ?_;intro v' w6 r1 r2 r3;have HA:=J (kU O r1 r2 r3);obtain⟨a',c',h0⟩:=Ir r1;subst h0;refine hK _ _ ?_;clear hK K X O r1 r2 r3;refine vS ?_;refine qA _ (g) rfl zf (vS ?_);refine vP ?_;refine qH _ rfl (λw8 H K hK=>?_);obtain⟨O,r1,r2,r3⟩:=HA.o;(have a8:=q.o.2.1.ext O;have f9:(w0:Nat)<=↑w5:=bH a8.lo (Nat.le_of_lt a8.var.lt);have hp:=a8.push (n:=n1+n2) (by rw[bK, <-f2.o,f6.o]) (by rw[bW];exact Kh r1 H) (r2.trans (H.mono kZ)) r3 f9 d6.o;have A:=(a8.var.Z r2 λe=>(a8.own g e).2.1 rfl).Z H kI;have q8:w8.cell? g=some (.slice a1 n1 c1):=A.cell (i:=0) vF;have f8:w8.frozen? g=false:=A.frozen;have H8:=J (bA hp O);clear O r1 r2 r3 a8 f9 hp A H;go_simp;refine hK _ _ ?_;clear hK K q8 f8;refine qE (λw7 X=>?_);have d7:=J X;clear X;go_wp2);go_ret;rw[show Tx++t::U=Tx++[t]++U by rw[bZ];rfl];exact⟨rfl,_,((q.o.2.2.ext H8.o.2).trans H8.o.1).ext d7.o⟩
theorem tM(P:PA)(hT:Yl P):YA P:=by
 intro w0 W T x D g v e q A H K O X;unfold Gm
 by_cases hz:(Bc P).size<32
 ·rw[if_pos hz];exact i1 P hT hz w0 W T x D g v e q A H K O X
 ·rw[if_neg hz];exact K4 P hT hz w0 W T x D g v e q A H K O X
theorem P_(k:Int)(p v r r':vB):(Uy k p v r).toArray.setIfInBounds 3 r'=(Uy k p v r').toArray:=by simp[Uy]
theorem W9(W:vW)(q:vB)(n:PA)(T:TypeId)(x:vV)(Dn:Nat->Prop)(b:Nat)(hB:Ae w0 b (.cells #[q,.iface T x] 383))(hv:Hq n (.iface T x) Dn w0)(hR:YA n)(g:Nat)(v:vV)(Tx:vM)(hc:Ha w0)(he:Gh w0)(hE:Af w0 W)(hW:Eb w0 g v Tx W)(hl:Tx.length+Bu n<=100000):vQ 294 #[b,g] W (Yj w0 g v W (Ai.V ⟨2,q,⟨#[]⟩,Ax (Bc n)::Dd 15⟩) (Tx++(Gm (Bc n)++Ca n))):=by
 have Q0:=J (hB.cell (i:=0) (v:=.string q) vF);have Q1:=J (hB.cell (i:=1) (v:=.iface T x) vF);have HW:=J (bA hW hE);have a0:=J (λw (e:Af w0 w) (k:Eb w0 g v Tx w)=>hR w0 w T x Dn g v Tx hc he hv e k hl)
 obtain⟨t,ht⟩:=vE (Ax (Bc n))
 obtain⟨U,hU⟩:=vE (Tx++(Gm (Bc n)++Ca n))
 rw[<-ht, <-hU]at a0;rw[<-ht, <-hU];clear hB hv hR hc he hE hW hl ht hU;unfold vQ;go_in;go_wp2_with (first|(refine Di (w:=W) Ac rfl rfl ?_;intro A b4 a5;have b5:=J b4;have b6:=J a5;have q0:=Am Q0.o (HW.o.2.trans a5);clear b4 a5)|(refine Di (w:=A) Ac rfl rfl ?_;intro W2 b7 a7)|(refine Bt (vs:=Uy 2 q () ()) rfl rfl rfl rfl b7 rfl Ab (CS _ _ _ _) ?_;intro W3 a8 a9;have q1:=Am (Am Q1.o (HW.o.2.trans b6.o)) (a7.O a9 kJ)))
 have K:Af A W3:=a7.O a9 kJ;have O:=J (kT a8 (b5.o.Z K kI) (b6.o.trans K));have b8:=b5.o.lt;have HN:=J (show (W:Nat) < ↑A/\(A:Nat) < ↑W3 from⟨b8,a8.lt⟩);clear b7 a7 a8 a9 K b8;refine (a0.o W3 (HW.o.2.trans O.o.C) (HW.o.1.ext O.o.C)).mono ?_;rintro e w4 ⟨rfl,v4,H⟩;have c2:=HW.o.1.var.lt;have b0:(A:Nat)≠g:=kL HN.o.1
 have b1:v.ownBlock≠some (A:Nat):=λe=>by have:=(HW.o.1.own _ e).2.2;have:=HN.o.1;omega
 have X:=H.blk O.o.1 b0 b1;have a1:=H.blk O.o.b vO (λe=>kL ((HW.o.1.own _ e).2.2));have qf:w4.cell? ⟨↑A,3,none⟩=some (.string ⟨#[]⟩):=X.z1 (i:=3) vF;have ff:w4.frozen? ⟨↑A,3,none⟩=false:=X.frozen
 obtain⟨W5,Z⟩:=vE (w4.setCell ⟨↑A,3,none⟩ t)
 have c3:Ae W5 A (.cells (Uy 2 q () t).toArray 215):=by have:=X.z2 (i:=3) t;rw[P_]at this;rw[Z];exact this
 have b2:Ad (λz=>z=(A:Nat)) w4 W5:=by rw[Z];exact Ad.z4 w4 ⟨↑A,3,none⟩ t
 have a2:Ae W5 W (.cells Cv.cells.toArray 215):=a1.Z b2 (λe=>by have:=HN.o.1;have e:(W:Nat)=↑A:=e;omega);have b9:v4.ownBlock≠some (A:Nat):=λe=>by rcases H.sub _ e with e|e;{exact b1 e};have:=HN.o.2;omega
 have c0:=(Ek.ahead O.o.C H).fill b2 b0 b9 (kL HN.o.1);have a3:v4.ownBlock≠some (W:Nat):=λe=>by rcases H.sub _ e with e|e;{have:=(HW.o.1.own _ e).2.2;omega};have:=HN.o.1;have:=HN.o.2;omega
 have a4:=J (kU c0 a2 a3 (show (W:Nat)≠g by omega));have b3:=J Z;clear H c2 b0 b1 X a1 b2 b9 c0 a3 Z a2 q0 q1;have c4:Ae (w4.setCell ⟨↑A,3,none⟩ t) A (.cells (Ai.cells ⟨2,q,⟨#[]⟩,t::Dd 15⟩).toArray 215):=by rw[<-b3.o];exact c3
 have c5:Ae (w4.setCell ⟨↑A,3,none⟩ t) W (.cells Cv.cells.toArray 215):=by rw[<-b3.o];exact a4.o.b
 go_wp2_with (refine Gz 215 (.tmp 5) rfl rfl _ _ rfl (Ka _ _ ⟨2,q,⟨#[]⟩,t::Dd 15⟩ rfl c4) ?_;refine Bt (vs:=Ai.cells ⟨2,q,⟨#[]⟩,t::Dd 15⟩) rfl rfl rfl rfl c5 rfl Ab (Ai.one _) ?_;intro W8 c7 c1)
 rw[<-b3.o]at c1;refine bodyPost_ret (Zq rfl rfl (Qb W8 _ ⟨2,q,⟨#[]⟩,t::Dd 15⟩ rfl c7)) rfl ?_
 exact⟨rfl,v4,a4.o.1.fill c1 a4.o.D a4.o.c (bO _)⟩
def Ut(u:vB)(rs:vM)(k:Nat):Ai:=⟨3,⟨#[]⟩,u,rs.take k++Dd (16-k)⟩
theorem S4(h:rs.length=16)(hk:k<16)(r:vB)(hr:rs[k]?=some r):(Ut u rs k).cells.set (3+k) r=(Ut u rs (k+1)).cells:=by
 have e:(rs.take k++Dd (16-k)).set k r=rs.take (k+1)++Dd (16-(k+1)):=by rw[dV _ _ (by simp[h];omega)];(have:k-(rs.take k).length=0:=by simp[h];omega);rw[this,show 16-k=(16-(k+1))+1 by omega];unfold Dd;rw[fC,dM,cB,hr];simp
 unfold Ai.cells Ut;simp only;rw[show 3+k=k+1+1+1 by omega,dG,dG,dG, <-e,gV]
theorem C3(h:rs.length=16)(hk:k<16)(hr:rs[k]?=some ⟨#[]⟩):Ut u rs (k+1)=Ut u rs k:=by
 unfold Ut;rw[cB,hr,show 16-k=(16-(k+1))+1 by omega];unfold Dd;rw[fC];simp
theorem S3(h:rs.length=16)(hk:k<=16):(Ut u rs k).refs.length=16:=by
 unfold Ut Dd;simp[h];omega
theorem yU(rs:vM):(Ut u rs 0).cells=Uy 3 () u ():=rfl
theorem wU(h:rs.length=16):Ut u rs 16=⟨3,⟨#[]⟩,u,rs⟩:=by
 unfold Ut Dd;rw[cG vO];simp
noncomputable def Io(ks:Nat->PA)(k:Nat):vM:=(List.range k).flatMap λi=>if (ks i).isNil then []else Gm (Bc (ks i))++Ca (ks i)
theorem e0(k:Nat):Io ks (k+1)=Io ks k++(if (ks k).isNil then []else Gm (Bc (ks k))++Ca (ks k)):=by
 unfold Io;rw[gM,dS]
 simp
theorem h9(k:Nat):(Io ks k).length<=Ch (λi=>Bu (ks i)) k:=KT _ _ (λi=>by
 show (if (ks i).isNil=true then ([]:vM)else Gm (Bc (ks i))++Ca (ks i)).length<=Bu (ks i);cases hn:(ks i).isNil with
 |true=>rw[if_pos rfl];exact cD _
 |false =>
  rw[if_neg ff,bK];have e:=OJ (Bc (ks i))
  have:=GE (ks i) hn
  omega) k
noncomputable def Ix(ks:Nat->PA):vM:=(List.range 16).map λi=>if (ks i).isNil then ⟨#[]⟩else Ax (Bc (ks i))
theorem CU:(Ix ks).length=16:=by unfold Ix;simp
theorem P1(hk:k<16):(Ix ks)[k]?=some (if (ks k).isNil then ⟨#[]⟩else Ax (Bc (ks k))):=by
 unfold Ix;rw[bY,fD hk];rfl
def zR(z g:Nat)(v:vV)(W:vW)(L:Nat)(u:vB)(rs:vM)(Tx:vM)(ks:Nat->PA)(iv:vV)(wr:vW):Prop:=
 ∃ k:Nat,k<=16/\iv=.int .i64 k/\∃ v',Ek z g v W wr v' (Tx++Io ks k)/\Ae wr L (.cells (Ut u rs k).cells.toArray 215)/\Ae wr W (.cells Cv.cells.toArray 215)/\v'.ownBlock≠some L/\v'.ownBlock≠some (W:Nat)
theorem S5(W:vW)(u:vB)(ks:Nat->PA)(b:Nat)(vk:Nat->vV)(Dk:Nat->Nat->Prop)(hb:Wg u ks b vk Dk w0)(hR:∀ i,i<16->(ks i).isNil=false->YA (ks i))(g:Nat)(v:vV)(Tx:vM)(hc:Ha w0)(he:Gh w0)(hE:Af w0 W)(hW:Eb w0 g v Tx W)(hl:Tx.length+(1+Ch (λi=>Bu (ks i)) 16)<=100000):vQ 298 #[b,g] W (Yj w0 g v W (Ai.V ⟨3,⟨#[]⟩,u,Ix ks⟩) (Tx++Io ks 16)):=by
 have q0:=Am (hb.blk.z1 (i:=0) (v:=.string u) vF) hE;have HB:=J hb;have HW:=J (bA hW hE);have b4:=J (λ(k:Nat) (hk:k<16) (hn:(ks k).isNil=false) (T:TypeId) (x:vV) (hx:vk k=.iface T x) (w:vW) (v':vV) (e:Af w0 w) (h:Eb w0 g v' (Tx++Io ks k) w)=>hR k hk hn w0 w T x (Dk k) g v' (Tx++Io ks k) hc he (hx ▸ hb.kid k hk) e h (by have h1:=h9 ks k;have h2:=GD (λi=>Bu (ks i)) (k+1) (15-k);rw[show k+1+(15-k)=16 by omega]at h2;have h3:Ch (λi=>Bu (ks i)) k+Bu (ks k)<=Ch (λi=>Bu (ks i)) 16:=h2;rw[bK];omega))
 have d7:=OX;clear hR hc he hl;clear hb hW hE;unfold vQ;go_in;go_wp2_with (first|(refine Di (w:=W) Ac rfl rfl ?_;intro W1 b5 a4;have a5:=J b5;have a7:=J a4;have q1:=Am q0 a4;clear b5 a4)|(refine Di (w:=W1) Ac rfl rfl ?_;intro W2 b6 b7)|(refine Bt (vs:=Uy 3 () u ()) rfl rfl rfl rfl b6 rfl Ab (CS _ _ _ _) ?_;intro W3 a8 b8;have O:Af W1 W3:=b7.O b8 kJ;have b9:=Xn (HB.o.blk.Z ((HW.o.2.trans a7.o).trans O) kI))|(refine Gz 385 (.tmp 15) rfl rfl _ _ rfl b9 ?_))
 have a2:=J (kT a8 (a5.o.Z O kI) (a7.o.trans O));have q:=a5.o.lt;have HN:=J (show (W:Nat) < ↑W1/\(W1:Nat) < ↑W3 from⟨q,a8.lt⟩);clear b6 b7 a8 b8 O q b9 q0 q1
 obtain⟨L,hL⟩:=vE W1.heap.size
 rw[<-hL]at a2 HN ⊢;clear hL a5 a7;have HG:=J HW.o.1.var.lt;go_loopw [17] (λiv wr=>zR w0 g v W L u (Ix ks) Tx ks iv wr) (λiv _=>16-(intOf iv).toNat)
 case atStart =>have:=HN.o;exact⟨0,by omega,rfl,v,by rw[show Io ks 0=[]from rfl,cC];exact Ek.refl HW.o.1 a2.o.C,by rw[yU];exact a2.o.1,a2.o.b,λe=>kL ((HW.o.1.own _ e).2.2),λe=>kL ((HW.o.1.own _ e).2.2)⟩
 case round =>obtain⟨k,hk,rfl,v1,hT,c0,c1,c2,c3⟩:=hrel;have A:=J (kX hT c0 c1 c2 c3);clear hT c0 c1 c2 c3;by_cases q:k<16;{have c4:=BT vk q;have X:=e0 ks k;have H:=P1 ks q;rcases (HB.o.kid k q).at'.kid with⟨hn,hv⟩|⟨hn,T,x,hv⟩;{rw[hn,if_pos rfl,cC]at X;rw[hn,if_pos rfl]at H;rw[hv]at c4;have d0:=J X;have d1:=J (C3 u (CU ks) q H);clear X hn hv H;go_wp2;go_roundw;(case rel=>exact⟨k+1,by omega,by go_num,v1,by rw[d0.o];exact A.o.1,by rw[d1.o];exact A.o.b,A.o.c,A.o.D⟩);case measure=>exact vJ};rw[hn,if_neg ff]at X;rw[hn,if_neg ff]at H;rw[hv]at c4;have hq:=BP T x;have K:=J (b4.o k q hn T x hv wr v1 (A.o.1.ext0 HW.o.1 HW.o.2 (bO _)) A.o.1.at');rw[bZ, <-X]at K;obtain⟨r,hr⟩:=vE (Ax (Bc (ks k)));rw[<-hr]at H K;have d2:=J H;clear X hn hv H hr;have b2:(k:Int)<16:=vO;(go_wp2_with fail);(refine K.o.mono ?_;rintro e w4 ⟨rfl,v4,Z⟩;have a9:L≠g:=by have:=HN.o.1;have:=HG.o;omega);have c5:(W:Nat)≠g:=kL HG.o;(have a3:=Z.blk A.o.b a9 A.o.d;have a0:=Z.blk A.o.c c5 A.o.E;have b0:∀ y,y<(wr:Nat)->v1.ownBlock≠some y->v4.ownBlock≠some y:=λy hy h1 e=>by rcases Z.sub y e with e|e;{exact h1 e};omega);have b1:=b0 L A.o.2.1.lt A.o.d;have c7:=b0 W A.o.2.2.1.lt A.o.E;have d3:(Ut u (Ix ks) k).cells.length=19:=Ai.z3 _ (S3 u (CU ks) hk);obtain⟨old,qf⟩:∃ v,w4.cell? ⟨L,3+k,none⟩=some v:=⟨_,a3.z1 (bB vO)⟩;(have d8:w4.frozen? ⟨L,3+k,none⟩=false:=a3.frozen;have b3:=a3.z2 (i:=3+k) r;rw[show (Ut u (Ix ks) k).cells.toArray.setIfInBounds (3+k) r=((Ut u (Ix ks) k).cells.set (3+k) r).toArray by simp,S4 u (CU ks) q r d2.o]at b3;have K5:Ad (λz=>z=L) w4 (w4.setCell ⟨L,3+k,none⟩ r):=Ad.z4 w4 ⟨L,3+k,none⟩ r;have a1:=a0.Z K5 (λe=>by have e:(W:Nat)=L:=e;have:=HN.o.1;omega);have c8:=(A.o.1.trans Z).fill K5 a9 b1 (kL HN.o.1);have H5:=J (kX c8 b3 a1 b1 c7);clear Z a9 c5 a3 a0 b0 b1 c7 d3 b3 K5 a1 c8;go_wp2);go_roundw;(case rel=>exact⟨k+1,by omega,by go_num,v4,H5.o⟩);case measure=>exact vJ};obtain rfl:k=16:=vO;(have c9:=A.o.b;rw[wU u (CU ks)]at c9;have d4:=A.o.c;go_wp2_with (refine Gz 215 (.tmp 5) rfl rfl _ _ rfl (Ka _ _ ⟨3,⟨#[]⟩,u,Ix ks⟩ (CU ks) c9) ?_;refine Bt (vs:=Ai.cells ⟨3,⟨#[]⟩,u,Ix ks⟩) rfl rfl rfl rfl d4 (by rw[Ai.z3 _ (CU ks)];rfl) (by rw[Ai.z3 _ (CU ks)];exact Ab) (Ai.one _) ?_;intro W8 d5 d6));refine bodyPost_ret (Zq rfl rfl (Qb W8 _ ⟨3,⟨#[]⟩,u,Ix ks⟩ (CU ks) d5)) rfl ?_;exact⟨rfl,v1,A.o.1.fill d6 (kL HG.o) A.o.E (bO _)⟩
end
section
open Go Go.RowKit
theorem VA:∀ (P:PA),Sn P->tP P
 |.nil=>λ_ w0 W T x D g v A X Z h K H O=>by cases h.at'
 |.no=>λ_ w0 W T x D g v A X Z h K H O=>by
  have e:Value.iface T x=Mr:=h.at';unfold Mr at e;injection e with e1 e2;subst e1 e2;show Calls _ _ _ W (Yj w0 g v W Cv.V (A++[]));rw[cC];exact N5 _ g v A W H
 |.leaf q u=>λ_ w0 W T x D g v A X Z h K H O=>by
  obtain⟨b,e,h1,h2⟩:=h.at'
  unfold AM at e;injection e with e1 e2;subst e1 e2;show Calls _ _ _ W (Yj w0 g v W (Ai.V ⟨1,q,u,Dd 16⟩) (A++[]));rw[cC];exact T8 w0 _ g v A W K q u b h2 H
 |.ext q m=>λhp w0 W T x D g v A X Z h K H O=>by
  obtain⟨b,T',x',Dn,e,h1,h2,h3,h4,h5⟩:=h.at'
  unfold Nl at e;injection e with e1 e2;subst e1 e2;have O:A.length+(1+Bu m)<=100000:=O;have hn:m.isNil=false:=by
   cases m with
   |nil=>cases h3
   |_=>rfl
  exact W9 w0 W q m T' x' Dn b h2 ⟨h3,λz hz=>h.lt z (h5 z hz)⟩ (tM m (XT m hn hp.2 (VA m hp.2))) g v A X Z K H vO
 |.br u ks=>λhp w0 W T x D g v A X Z h K H O=>by
  obtain⟨b,vk,Dk,e,h1,h2,h3,h4⟩:=h.at'
  unfold Gr at e;injection e with e1 e2;subst e1 e2;have hb:Wg u ks b vk Dk w0:=⟨h2,λi hi=>⟨(h3 i hi).1,λz hz=>h.lt z ((h3 i hi).2.2 z hz)⟩⟩;exact S5 w0 W u ks b vk Dk hb (λi _ hn=>tM (ks i) (XT (ks i) hn (hp.2 i) (VA (ks i) (hp.2 i)))) g v A X Z K H O
theorem lS:∀ (f:Nat) (l:vL),Ep f l->Sn (Dj (f+1) l):=by
 intro f;induction f with
 |zero =>intro l h;have O:=Vt h;have q:=(good 0 l h).1;have A:=(NN 0 l h).1;rw[<-A]at q;have e:=lX q;by_cases h0:l.length=0;{rw[Tw _ h0]at e ⊢;exact e};rw[Uw _ vO]at e ⊢;exact e
 |succ f ih =>intro l h;have q:=(good (f+1) l h).1;have A:=(NN (f+1) l h).1;rw[<-A]at q;have e:=lX q;by_cases h0:l.length=0;{rw[Tw _ h0]at e ⊢;exact e};by_cases h1:l.length=1;{rw[Uw _ h1]at e ⊢;exact e};have H:2<=l.length:=vO;by_cases hk:0<Ak l;{obtain⟨K,X,_,_⟩:=ET h H hk;rw[BQ _ H hk]at e ⊢;exact⟨e,ih _ K⟩};rw[BZ _ H hk]at e ⊢;refine⟨e,λi=>?_⟩;show Sn (if (Ah i l).length=0 then PA.nil else Dj (f+1) (Ba 1 (Ah i l)));by_cases hc:(Ah i l).length=0;{rw[if_pos hc];exact trivial};rw[if_neg hc];exact ih _ (CB h hc).1
theorem v8(f:Nat)(l:vL)(h:Ep f l):Yl (Dj (f+1) l):=XT _ FZ (lS f l h) (VA _ (lS f l h))
end
section
open Go Go.RowKit
attribute [local go_sem] Oper.semAt_some
noncomputable def Bi(l:vL):vB:=Aj (Cr l).text
theorem J7(h:Em l=0):Ij (Dj 13 (Cq l)) ()=l:=by
 have e:∀ q:vB,(⟨#[]⟩:vB)++q=q:=λq=>Rq (by rw[DM];rfl);rw[z6 12 _ (Nn (Ge h)) () (λq A=>by obtain⟨p,H,rfl⟩:=bC.1 A;rw[e];exact VC p.1)]
 unfold Cq;rw[dB]
 conv=>rhs;rw[<-jK l]
 refine dA λp H=>?_;show (Jh (⟨#[]⟩++Bw p.1),p.2)=p;rw[e,TT]
structure uF(w w1:World)(l:vL)(T:TypeId)(x:Value):Prop where
 ext:Af w w1
 pa:Hq (Dj 13 (Cq l)) (.iface T x) (DK w w1) w1
theorem U5(s bm:Nat)(room:Int)(S:vT)(hs:Ev w s bm room S)(hN:AH S)(l:vL)(h:Iy S l):vQ 143 #[s,Bi l] w λe w'=>∃ T x,e=.returned (.tuple #[.iface T x,true])/\uF w w' l T x:=by
 refine (jzt w s bm room S hs hN (Bi l)).mono ?_;rintro e w' ⟨A,q⟩
 obtain⟨k,H⟩:=w8 w h
 unfold Bi at q;rw[H]at q
 obtain⟨T,x,rfl,K⟩:=q
 exact⟨T,x,rfl,A,K,λz O=>O.2⟩
theorem wK(w1 W:vW)(l:vL)(h:Em l=0)(T:TypeId)(x:vV)(D:Nat->Prop)(hp:Hq (Dj 13 (Cq l)) (.iface T x) D w1)(hE:Af w1 W):vQ (Vy (Dj 13 (Cq l))) #[x,(),qe] W λe w'=>∃ v,e=.returned v/\Fg w1 w' v l.length l:=by
 have q:=Nn (Ge h);have H:=PD (Ge h);refine (WG _ w1 W T x D () qe 0 12 [] hp (Ar.nil _ _ hE) (rX 12 _ 12 q q) (by have:(⟨#[]⟩:vB).size=0:=rfl;omega) (by rw[VK 12 _ q];omega)).mono ?_;rintro e w' ⟨v,n,rfl,A⟩;rw[cL,J7 h]at A
 have:=A.len'
 subst this
 exact⟨v,rfl,A⟩
end
section
open Go Go.RowKit
theorem ST:∀ (xs:List Br) (j:Nat) (p:Br),xs[j]?=some p->(Pg xs)[j*3]?=some (.string p.key)/\(Pg xs)[j*3+1]?=some (.string p.value)/\(Pg xs)[j*3+2]?=some (.bool p.gone)
 |[],j,p,h=>by simp at h
 |x::r,0,p,h=>by simp at h;subst h;exact⟨rfl,rfl,rfl⟩
 |x::r,j+1,p,h=>by
  obtain⟨e,q,A⟩:=ST r j p (by simpa using h)
  rw[show (j+1)*3=j*3+3 by omega]
  exact⟨e,q,A⟩
theorem Ji.rdT{w0 w:vW}{xs:List Br}(h:Ji w0 w v n xs):Jj w v xs:=by
 have A:xs.length=n:=by have:=h.len;rw[TJ]at this;omega
 obtain⟨_,⟨rfl,h2⟩|⟨g,e,H,rfl,h3,K,O,h6,h7⟩⟩:=h.own
 ·exact .inl ⟨none,0,rfl,bF vO⟩
 ·subst A;refine .inr ⟨g,0,e,rfl,(dD.1 K).1,O,λj x q=>?_⟩;have hj:=(bI.1 q).1;obtain⟨X,Z,e3⟩:=ST xs j x q;exact⟨by rw[bX,h.own.cellAt (j*3) vO,X],by rw[bX,h.own.cellAt (j*3+1) vO,Z],by rw[bX,h.own.cellAt (j*3+2) vO,e3]⟩
theorem q0(h1:l.length<=40)(h2:m.length<=40):(Ph l m).length<=80:=by
 have e:∀ l m:vL,(Fv l m).length<=l.length+m.length:=λl m=>by fun_induction Fv l m<;>simp only[bQ,cZ]at *<;>omega
 unfold Ph;split
 ·have:=e l m;omega
 ·simp
theorem mX{c:Br}(h:c.bad=false):c.key.size<=6:=by
 unfold Br.bad at h;have q:Vv c.key=true:=by cases e:Vv c.key with| true=>rfl| false=>rw[e]at h;simp at h
 unfold Vv at q;exact (of_decide_eq_true q).2
structure Vk(P:PA):Prop where
 can:P=.no\/Dl P
 dp:Dp P 12
theorem Vk.va(h:Vk P):FO P:=by
 rcases h.can with h|h
 ·subst h;trivial
 ·exact XG P h
theorem Vk.there(h:Vk P):P.isNil=false:=by
 rcases h.can with h|h
 ·subst h;rfl
 ·cases P with| nil=>exact h.elim| _=>rfl
theorem Vk.dp9(h:Vk P):Dp P 900000:=Tl P 12 _ h.dp vO
theorem Vk.step(h:Vk P){c:Br}(hc:c.bad=false):Vk (Ow P c):=by
 refine⟨(rH h.can hc).1,?_⟩
 have e:=mX hc;have q:=GB c.key;unfold Ow;split
 ·exact LD P 12 _ h.dp
 ·exact PS P 12 _ _ h.dp vO
theorem uQ(h:Em l=0):Vk (Dj 13 (Cq l)):=⟨mP (Nn (Ge h)),rX 12 _ 12 (Nn (Ge h)) (Nn (Ge h))⟩
noncomputable def Qr(S:vT)(t:vB):Bool:=(Be S (Aj t).data.toList).isNone
noncomputable def Eg(S:vT)(U:vM):vM:=(Hg U).filter (Qr S)
theorem q4(x:vB):Eg S (U++[x])=Eg S U++(if Jr (Hg U) x=true then []else if Qr S x=true then [x]else []):=by
 unfold Eg;rw[SW];unfold Ii
 by_cases h:Jr (Hg U) x=true
 ·rw[if_pos h,if_pos h,cC]
 ·rw[if_neg h,if_neg h,List.filter_append];congr 1;cases e:Qr S x<;>simp[e]
theorem kO:(Eg S U).length<=U.length:=bH (fF _ _) (TL U)
noncomputable def Hl(m:vL):vM:=Ca (Dj 13 (Cq m))
theorem VH(h:Em m=0):Hl m=En (Dc (An 12) (Cq m)):=(NN 12 _ (Nn (Ge h))).2.2
theorem jzs(h:Em m=0):Bc (Dj 13 (Cq m))=(Cr m).text:=(NN 12 _ (Nn (Ge h))).2.1
theorem jlv(h:Em m=0):(Hl m).length<=118:=by
 have e:=GE (Dj 13 (Cq m)) FZ;have q:Bu (Dj 13 (Cq m))=Er 12 (Cq m):=VK 12 _ (Nn (Ge h));have A:=PD (Ge h);unfold Hl;omega
noncomputable def Ho(S:vT)(m:vL):vM:=(Cr m).text::Eg S (Hl m)
def Gp(l:vL)(cs:List Br):vL:=Jc (Pf l cs)
def Up(w:vW)(S:vT)(l:vL)(cs:List Br)(e:Ending)(w':vW):Prop:=
 if Ez l cs=0 then ∃ r,e=.returned (.tuple #[r,qa])/\Cg w w' r (Ho S (Gp l cs)).length (Ho S (Gp l cs))else e=.returned (.tuple #[qe,.int .i64 (Ez l cs)])/\Af w w'
def Z7(W3:vW)(D0:Nat->Prop)(P0:PA)(ds:List Br)(pv iv:vV)(wr:vW):Prop:=∃ (k:Nat) (T:TypeId) (x:vV) (D:Nat->Prop),k<=ds.length/\iv=.int .i64 k/\pv=.iface T x/\Hq ((ds.take k).foldl Ow P0) (.iface T x) D wr/\(∀ z,D z->D0 z\/(W3:Nat)<=z)/\Ad D0 W3 wr
theorem oJ{P:PA}(h:Vk P):∀ (ds:List Br),(∀ c∈ds,c.bad=false)->Vk (ds.foldl Ow P)
 |[],_=>h
 |c::ds,hc=>oJ (h.step (hc c bN)) ds (λd e=>hc d (bM _ e))
theorem G1(h:Vk P)(ds:List Br)(hc:ds.any Br.bad=false)(k:Nat):Vk ((ds.take k).foldl Ow P):=oJ h _ λc q=>by
 have:=List.any_eq_false.1 hc c (gE q)
 cases e:c.bad with
 |false=>rfl
 |true=>exact absurd e this
structure YK(W7:World)(S:vT)(mb:Nat)(t:vB)(U:vM)(k:Nat)(rv:Value)(wr:World):Prop where
 row:∃ n,Cg W7 wr rv n (t::Eg S (U.take k))
 out:rv.ownBlock≠some mb
 tab:∃ es ck,Ae wr mb (.map (Al.arr es) ck)/\∀ x:vB,Cp es x.data.toList=Kf (Fc (U.take k) x)
def wO(W7:vW)(S:vT)(mb:Nat)(t:vB)(U:vM)(rv iv:vV)(wr:vW):Prop:=∃ k:Nat,k<=U.length/\iv=.int .i64 k/\YK W7 S mb t U k rv wr
theorem p9(L:vM)(x y:vB):Fc (L++[x]) y=Fc L y+(if x.data.toList=y.data.toList then 1 else 0):=by
 unfold Fc;rw[bW,List.count_append,bP,fY,List.count_singleton]
 simp
theorem WM{α:Type}{l:List α}{x:α}(h:l[k]?=some x):l.take (k+1)=l.take k++[x]:=by rw[cB,h];rfl
end
section
open Go Go.RowKit
attribute [local go_sem] Oper.semAt_some
theorem Fg.newP{w:vW}{xs:vL}(h:Fg w w' v n xs):Ga (Fs w w') w' v xs:=⟨h.rd,λb hb=>⟨h.new b hb,h.lt b hb⟩⟩
theorem Ji.newC{w:vW}{xs:List Br}(h:Ji w w' v n xs):Fz (Fs w w') w' v xs:=⟨h.rdT,λb hb=>⟨h.new b hb,h.lt b hb⟩⟩
theorem jV(v:vV)(xs:vL)(hv:Jv w v xs)(hn:xs.length<=1000):vQ 93 #[v] w λe w'=>∃ A,e=.returned A/\Ga (Fs w w') w' A xs/\Af w w':=by
 have K:=λ(W:vW) a n c=>Lib.run_eql_slice_nil (P:=prog) W 50 49 a n c 0 0 Kw;have O:=J hv.g
 obtain⟨a,c,rfl⟩:=hv.sl
 have X:a=none->xs=[]:=λha=>by rcases hv with⟨_,_,_,h⟩|⟨_,_,_,h,_⟩;{exact h};rw[ha]at h;cases h
 have HX:=J X
 obtain⟨n,q⟩:=vE xs.length
 rw[<-q]at O hn ⊢;have HN:=J q;clear X hv q;cases a with
 |none =>unfold vQ;go_in;go_wp2;go_ret;exact⟨_,rfl,⟨.inl ⟨none,0,rfl,HX.o trivial⟩,λb e=>by cases e⟩,Ad.refl _ _⟩
 |some ad =>(unfold vQ;go_in;go_wp2_with (at_builtin;refine eP Fk (Ar.lit (n:=0) #[] (Aa w) vI rfl) (O.o.ext ((Aa w).alloc _)) rfl rfl vO vI ?_;intro A w' H r2 r3));rw[bX]at H;have Z:Hid (Fg w w' A n xs):=H;obtain⟨a',c',rfl⟩:=H.sl;clear H r2 r3;go_wp2;go_ret;exact⟨_,rfl,Z.o.newP,Z.o.ext⟩
theorem jU(v:vV)(xs:List Br)(hv:Jj w v xs)(hn:xs.length<=1000):vQ 57 #[v] w λe w'=>∃ A,e=.returned A/\Fz (Fs w w') w' A xs/\Af w w':=by
 have K:=λ(W:vW) a n c=>Lib.run_eql_slice_nil (P:=prog) W 35 46 a n c 0 0 Ol;have O:=J hv.g
 obtain⟨a,c,rfl⟩:=hv.sl
 have X:a=none->xs=[]:=λha=>by rcases hv with⟨_,_,_,h⟩|⟨_,_,_,h,_⟩;{exact h};rw[ha]at h;cases h
 have HX:=J X
 obtain⟨n,q⟩:=vE xs.length
 rw[<-q]at O hn ⊢;have HN:=J q;clear X hv q;cases a with
 |none =>unfold vQ;go_in;go_wp2;go_ret;exact⟨_,rfl,⟨.inl ⟨none,0,rfl,HX.o trivial⟩,λb e=>by cases e⟩,Ad.refl _ _⟩
 |some ad =>(unfold vQ;go_in;go_wp2_with (at_builtin;refine eP Fj (Ar.lit (n:=0) #[] (Aa w) vI rfl) (O.o.ext ((Aa w).alloc _)) rfl rfl vO vI ?_;intro A w' H r2 r3));rw[bX]at H;have Z:Hid (Ji w w' A n xs):=H;obtain⟨a',c',rfl⟩:=H.sl;clear H r2 r3;go_wp2;go_ret;exact⟨_,rfl,Z.o.newC,Z.o.ext⟩
end
