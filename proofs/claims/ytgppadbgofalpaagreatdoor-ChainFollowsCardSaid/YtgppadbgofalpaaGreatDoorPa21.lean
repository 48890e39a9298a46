/- Lemmas; each is under no condition but those that it states. -/
import Derived.Test.YtgppadbgofalpaaGreatDoorPa0
import Derived.Test.YtgppadbgofalpaaGreatDoorPa20
namespace Go.Proofs.YtgppadbgofalpaaGreatDoor
set_option linter.unusedSimpArgs false
set_option linter.unusedVariables false
set_option maxRecDepth 100000
set_option maxHeartbeats 16000000
variable (r t u:vB)(S:vT)(U:vM)(w w0:vW)(ks:Nat->PA){xs:List vV}{n k z g b L d sz c j f:Nat}{a:Option Addr}{P:PA}{l m:vL}{Tx rs T T' New:vM}{v v' v'':vV}{W w' W' W'' W0 w6:vW}
section
open Go Go.RowKit
attribute [local go_sem] Oper.semAt_some
theorem jx7(W:vW)(x:vB):vQ 211 #[x] W fun e w'=>e=.returned (.tuple #[])/\w'=W:=by
 unfold vQ;go_in;go_wp2_with fail
 refine bodyPost_end (results_none rfl _ _ _) rfl ?_
 exact⟨rfl,rfl⟩
theorem wV(W:vW)(s bm:Nat)(room:Int)(S:vT)(hs:Ev W s bm room S)(k:vB)(y:Gd)(hy:Be S k.data.toList=some y)(f:Nat)(n:Ai)(hg:Gi (Bs f) n)(ht:y.2.2.text=Cr n):vR 141 #[s,k,.func (.func 211) #[] #[]] W (.tuple #[n.V,true]):=by
 have hn:=(hg.one (Br f)).refs;have HN:=Hd hn;have HG:=Hd hg;have HL:=Hd (n.cells_len hn);have q:=fun w (h:Ev w s bm room S)=>BG w s bm room S k h;rw[hy]at q;simp only[fW,Dg]at q;have K:=Hd q;have HS:=Hd hs
 obtain⟨t,O⟩:=vE y.2.2.text
 rw[<-O]at K ht;have HT:=Hd ht;clear q hs hg ht hn hy O;unfold vR vQ;go_in;go_wp2_with (refine Di Ac rfl rfl ?_;intro W1 X H)
 refine vC (K.o W1 (HS.o.ext H)) fun w3 J=>?_;have Z:=Hd (X.keeps J kI);have a1:=Hd (H.trans J);clear J X H;go_wp2_with fail
 refine (jx7 w3 t).mono ?_;rintro e w4 ⟨rfl,rfl⟩;go_wp2_with fail
 rw[HT.o];refine vC (Zt (Br f) w4 n HG.o) fun w5 J=>?_;rw[<-HT.o];have A:=Z.o.keeps J kI;have a2:=Hd J;clear J Z;unfold Ai.V;go_wp2_with (first |(refine Di Ac rfl rfl ?_;intro W5 a5 a3;refine Bv (vs:=n.cells) rfl rfl rfl rfl a5 (by rw[HL.o];rfl) (by rw[HL.o];exact Ab) n.one ?_;intro W6 a7 a4;have a0:=(A.keeps a3 kI).keeps a4 (kL A.lt)) |(refine Gv 215 (.tmp 10) rfl rfl _ _ rfl (Jq _ _ n HN.o a7) ?_) |(refine Bv (vs:=n.cells) rfl rfl rfl rfl a0 (by rw[HL.o];rfl) (by rw[HL.o];exact Ab) n.one ?_;intro W8 a8 a9))
 refine bodyPost_ret (Od rfl rfl rfl (Pm W8 _ n HN.o a8)) rfl ?_;have b0:Af W W6:=(((a1.o.trans a2.o).trans a3)).trans' a4 (fun x hx e=>by have e:x=w5.heap.size:=e;have:=a2.o.size;have:=a1.o.size;omega)
 exact⟨rfl,b0.trans' a9 kJ⟩
section
variable (w0:vW) (s bm:Nat) (room:Int) (S:vT) (rb:Nat)
structure Vt:Prop where
 st:Ev w0 s bm room S
 nodes:BH S
 new:w0.heap.size<=rb
def LD(f:Nat):Prop:=∀ n d,Gi (Bs d) n->∀ (W:vW) (left:Nat),Af w0 W->Eb W rb s left->left<=f->left<=160->vQ 212 #[rb,n.V] W (Ry W rb s (Hp (Bn S) f n left))
def DE(f:Nat):Prop:=∀ r d,Gf (Bs d) r->∀ (W:vW) (left:Nat),Af w0 W->Eb W rb s left->left<=f->left<=160->vQ 236 #[rb,r] W (Ry W rb s ((Bn S r).bind fun m=>Hp (Bn S) f m left))
noncomputable def Kc(h:vB):Option Ai:=(Be S h.data.toList).map fun x=>Bo x.2.2.text
def tC(f:Nat):Prop:=∀ h,∀ (W:vW) (left:Nat),Af w0 W->Eb W rb s left->left<=f->left<=160->vQ 166 #[.pointer (some ⟨rb,0,none⟩),.string h] W (Ry W rb s ((Kc S h).bind fun m=>Hp (Bn S) f m left))
end
theorem Eb.ext{W W':vW}{rb s left:Nat}(h:Eb W rb s left)(e:Af W W'):Eb W' rb s left:=h.keeps e kI
theorem jsy(w0:vW)(s bm:Nat)(room:Int)(S:vT)(rb:Nat)(hR:Vt w0 s bm room S rb)(h:vB)(W:vW)(left:Nat)(q:Af w0 W)(hr:Eb W rb s left)(ha:Be S h.data.toList=none):vQ 166 #[rb,h] W (Ry W rb s none):=by
 have A:=rZ W s bm room S (hR.st.ext q) (.func (.func 211) #[] #[]) h ha;have J:=Hd A;have HR:=Hd hr;unfold Eb at hr;have q0:=hr.cell (i:=0) (v:=.pointer (some s)) vF;clear A hr hR q ha;unfold vQ;go_in;go_wp2_with fail
 refine J.o.mono ?_;rintro e w1 ⟨rfl,q⟩;have Z:=Hd q;clear q;unfold Ai.V;go_wp2_with (first |(refine Di Ac rfl rfl ?_;intro W5 K O;refine Bv (vs:=Db.cells) rfl rfl rfl rfl K rfl Ab Db.one ?_;intro W6 a0 X))
 go_ret2;have H:Af W W6:=(Z.o.trans O).trans' X (fun x hx e=>by have e:x=w1.heap.size:=e;have:=Z.o.size;omega)
 exact⟨H.mono kZ,_,left,rfl,.inl rfl,HR.o.ext H⟩
theorem jsx(w0:vW)(s bm:Nat)(room:Int)(S:vT)(rb:Nat)(hR:Vt w0 s bm room S rb)(f:Nat)(hN:LD w0 s S rb f)(h:vB)(W:vW)(left:Nat)(J:Af w0 W)(hr:Eb W rb s left)(hf:left<=f)(h160:left<=160)(y:Gd)(ha:Be S h.data.toList=some y):vQ 166 #[rb,h] W (Ry W rb s (Hp (Bn S) f (Bo y.2.2.text) left)):=by
 obtain⟨n0,K⟩:=hR.nodes y (Fa ha).1
 have hn:=Wg K
 obtain⟨n,O⟩:=vE (Bo y.2.2.text)
 rw[<-O]at hn ⊢
 obtain⟨ht,d,hg⟩:=hn
 have H:=(hg.one (Br d)).refs;have a7:=Hd H;have HL:=Hd (n.cells_len H);have X:=wV W s bm room S (hR.st.ext J) h y ha d n hg ht;have a8:=Hd X;have HR:=Hd hr;have Z:=Hd (show ∀ w,Af W w->vQ 212 #[rb,n.V] w (Ry w rb s (Hp (Bn S) f n left))from fun w e=>hN n d hg w left (J.trans e) (hr.ext e) hf h160);unfold Eb at hr;have q0:=hr.cell (i:=0) (v:=.pointer (some s)) vF
 obtain⟨o,ho⟩:=vE (Hp (Bn S) f n left)
 rw[<-ho]at Z ⊢;clear X hr hR J ha K O ht hg H hN ho;unfold vQ;go_in;go_wp2_with fail
 refine a8.o.mono ?_;rintro e w1 ⟨rfl,J⟩;have HE:=Hd J;clear J;unfold Ai.V;go_wp2_with (first |(refine Di Ac rfl rfl ?_;intro W5 a0 a1;refine Bv (vs:=n.cells) rfl rfl rfl rfl a0 (by rw[HL.o];rfl) (by rw[HL.o];exact Ab) n.one ?_;intro W6 a2 a3) |(refine Gv 215 (.tmp 6) rfl rfl _ _ rfl (Jq _ _ n a7.o a2) ?_))
 have a4:Af W W6:=(HE.o.trans a1).trans' a3 (fun x hx e=>by have e:x=w1.heap.size:=e;have:=HE.o.size;omega);have HX:=Hd a4;clear a4 a0 a1 a2 a3;refine (Z.o W6 HX.o).mono ?_;intro e w7 hO
 obtain⟨hk,a5⟩:=hO
 cases o with
 | none =>(obtain⟨v,l,rfl,hv,q⟩:=a5;have A:=Hd (bA hk (bA hv q));clear hk q;rcases hv with rfl |⟨T,x,rfl⟩;{(go_wp2_with fail);go_ret2;exact⟨(HX.o.mono kZ).trans A.o.1,_,l,rfl,.inl rfl,A.o.2.2⟩};(go_wp2_with fail);go_ret2;exact⟨(HX.o.mono kZ).trans A.o.1,_,l,rfl,.inr ⟨T,x,rfl⟩,A.o.2.2⟩)
 | some Pl =>obtain⟨P,l⟩:=Pl;obtain⟨T,x,rfl,hP,q⟩:=a5;(have A:=Hd (bA hk (bA hP q));clear hk hP q;go_wp2_with fail);go_ret2;exact⟨(HX.o.mono kZ).trans A.o.1,T,x,rfl,A.o.2.1.mono (fun z hz=>⟨bF HX.o.size hz.1,hz.2⟩),A.o.2.2⟩
theorem qV(w0:vW)(s bm:Nat)(room:Int)(S:vT)(rb:Nat)(hR:Vt w0 s bm room S rb)(f:Nat)(hN:LD w0 s S rb f):tC w0 s S rb f:=by
 intro h W left q A H e;unfold Kc;cases ha:Be S h.data.toList with
 | none=>exact jsy w0 s bm room S rb hR h W left q A ha
 | some y=>exact jsx w0 s bm room S rb hR f hN h W left q A H e y ha
end
section
open Go Go.RowKit
attribute [local go_sem] Oper.semAt_some
theorem GD:Yv r=Kv r:=by
 unfold Yv Kv;cases Dq r <;> rfl
theorem jwi(s:Nat)(S:vT)(rb:Nat)(f:Nat)(hH:tC w0 s S rb f)(r h:vB)(hrh:Kv r=some h)(hs:r.size<=1000)(W:vW)(left:Nat)(J:Af w0 W)(hr:Eb W rb s left)(hf:left<=f)(h160:left<=160):vQ 236 #[rb,r] W (Ry W rb s ((Kc S h).bind fun m=>Hp (Bn S) f m left)):=by
 have q:=JN W r vO (jrW ((GD r).trans hrh));rw[GD,hrh]at q;unfold Dg at q;have HA:=Hd q;have Z:=Hd (show ∀ w,Af W w->vQ 166 #[rb,h] w (Ry w rb s ((Kc S h).bind fun m=>Hp (Bn S) f m left))from fun w e=>hH h w left (J.trans e) (hr.ext e) hf h160)
 obtain⟨o,ho⟩:=vE ((Kc S h).bind fun m=>Hp (Bn S) f m left)
 rw[<-ho]at Z ⊢;clear hH hrh hs J hr hf h160 q ho;unfold vQ;go_in;go_wp2_with fail
 refine HA.o.mono ?_;rintro e w1 ⟨rfl,J⟩;have K:=Hd J;clear J;go_wp2_with fail
 refine (Z.o w1 K.o).mono ?_;intro e w7 hO
 obtain⟨X,O⟩:=hO
 cases o with
 | none =>(obtain⟨v,l,rfl,hv,A⟩:=O;have H:=Hd (bA X (bA hv A));clear X A;rcases hv with rfl |⟨T,x,rfl⟩;{(go_wp2_with fail);go_ret2;exact⟨(K.o.mono kZ).trans H.o.1,_,l,rfl,.inl rfl,H.o.2.2⟩};(go_wp2_with fail);go_ret2;exact⟨(K.o.mono kZ).trans H.o.1,_,l,rfl,.inr ⟨T,x,rfl⟩,H.o.2.2⟩)
 | some Pl =>obtain⟨P,l⟩:=Pl;obtain⟨T,x,rfl,hP,A⟩:=O;(have H:=Hd (bA X (bA hP A));clear X hP A;go_wp2_with fail);go_ret2;exact⟨(K.o.mono kZ).trans H.o.1,T,x,rfl,H.o.2.1.mono (fun z hz=>⟨bF K.o.size hz.1,hz.2⟩),H.o.2.2⟩
theorem jyI(s:Nat)(S:vT)(rb:Nat)(f:Nat)(hN:LD w0 s S rb f)(r:vB)(d:Nat)(n:Ai)(hi:Bs (d+1) r n)(hs:r.size<=1000)(W:vW)(left:Nat)(hE:Af w0 W)(hr:Eb W rb s left)(hf:left<=f)(h160:left<=160):vQ 236 #[rb,r] W (Ry W rb s (Hp (Bn S) f n left)):=by
 have A:=JN W r vO (fun e=>by obtain⟨q,h1,_⟩:=(Br (d+1)).nohash r n hi;rw[e]at h1;cases h1);rw[GD,DL (Br (d+1)) hi]at A;unfold Dg at A;have HA:=Hd A;have K:=(hi.1.one (Br d)).refs;have a5:=Hd K;have HL:=Hd (n.cells_len K);have HI:=Hd (fun w=>(Br (d+1)).inl r n hi w);have O:=Hd (show ∀ w,Af W w->vQ 212 #[rb,n.V] w (Ry w rb s (Hp (Bn S) f n left))from fun w e=>hN n d hi.1 w left (hE.trans e) (hr.ext e) hf h160)
 obtain⟨o,ho⟩:=vE (Hp (Bn S) f n left)
 rw[<-ho]at O ⊢;clear hN hi hs hE hr hf h160 A K ho;unfold vQ;go_in;go_wp2_with fail
 refine HA.o.mono ?_;rintro e a7 ⟨rfl,X⟩;have a8:=Hd X;clear X;go_wp2_with fail
 refine vH (HI.o a7) fun w1 hE=>?_;have HE:=Hd (a8.o.trans hE);unfold Ai.V;go_wp2_with (first |(refine Di Ac rfl rfl ?_;intro W5 Z a0;refine Bv (vs:=n.cells) rfl rfl rfl rfl Z (by rw[HL.o];rfl) (by rw[HL.o];exact Ab) n.one ?_;intro W6 a1 a2) |(refine Gv 215 (.tmp 8) rfl rfl _ _ rfl (Jq _ _ n a5.o a1) ?_))
 have a3:Af W W6:=(HE.o.trans a0).trans' a2 (fun x hx e=>by have e:x=w1.heap.size:=e;have:=HE.o.size;omega);have HX:=Hd a3;clear a3 Z a0 a1 a2;refine (O.o W6 HX.o).mono ?_;intro e w7 hO
 obtain⟨hk,a4⟩:=hO
 cases o with
 | none =>(obtain⟨v,l,rfl,hv,H⟩:=a4;have J:=Hd (bA hk (bA hv H));clear hk H;rcases hv with rfl |⟨T,x,rfl⟩;{(go_wp2_with fail);go_ret2;exact⟨(HX.o.mono kZ).trans J.o.1,_,l,rfl,.inl rfl,J.o.2.2⟩};(go_wp2_with fail);go_ret2;exact⟨(HX.o.mono kZ).trans J.o.1,_,l,rfl,.inr ⟨T,x,rfl⟩,J.o.2.2⟩)
 | some Pl =>obtain⟨P,l⟩:=Pl;obtain⟨T,x,rfl,hP,H⟩:=a4;(have J:=Hd (bA hk (bA hP H));clear hk hP H;go_wp2_with fail);go_ret2;exact⟨(HX.o.mono kZ).trans J.o.1,T,x,rfl,J.o.2.1.mono (fun z hz=>⟨bF HX.o.size hz.1,hz.2⟩),J.o.2.2⟩
theorem tY(s bm:Nat)(room:Int)(S:vT)(rb:Nat)(hR:Vt w0 s bm room S rb)(f:Nat)(hN:LD w0 s S rb f):DE w0 s S rb f:=by
 intro r d A W left H J K e;have O:r.size<=1000:=kL (A.size (Br d))
 unfold Bn;rcases A with hh |⟨m,hi⟩
 ·obtain⟨h,X,Z⟩:=hh;(have q:Kv r=some h:=by rw[Z];exact IX X);rw[q];exact jwi w0 s S rb f (qV w0 s bm room S rb hR f hN) r h q O W left H J K e
 ·cases d with| zero=>exact hi.elim| succ d =>rw[DL (Br (d+1)) hi];show Calls _ _ _ W (Ry W rb s (Hp (Bn S) f (Ss r) left));rw[UD w0 hi];exact jyI w0 s S rb f hN r d m hi O W left H J K e
theorem kR(W:vW)(rb s:Nat)(n:Ai)(hr:Eb W rb s 0):vQ 212 #[rb,n.V] W (Ry W rb s none):=by
 have A:=hr.lt;have q:=hr.ext ((Aa W).alloc (.cells n.cells.toArray 215));have H:=Hd q;unfold Eb at q;have J:=q.cell (i:=1) (v:=.int .i64 0) vF;clear q hr;unfold Ai.V;unfold vQ;go_in;go_wp2_with fail
 go_ret2
 exact⟨((Aa W).alloc _).mono kZ,_,0,rfl,.inl rfl,H.o⟩
theorem jte(W:vW)(rb s k:Nat)(hk:k<=160)(q v:vB)(rs:vM)(hr:Eb W rb s (k+1)):vQ 212 #[rb,(Ai.mk 1 q v rs).V] W (Ry W rb s (some (.leaf q v,k))):=by
 have a8:=hr.lt;have a9:W.heap.size≠rb:=vO
 obtain⟨Z,A⟩:=vE (W.setCell ⟨rb,1,none⟩ (k:Int))
 obtain⟨K,H⟩:=vE (Z.alloc (.cells (Ai.cells ⟨1,q,v,rs⟩).toArray 215))
 have a1:Eb Z rb s k:=by rw[A];exact Ae.set_same (i:=1) hr _
 have a2:Z.heap.size=W.heap.size:=by rw[A];exact fO _ _ _
 have J:Af Z K:=by rw[H];exact (Aa Z).alloc _
 have a0:Ae K W (.cells (Ai.cells ⟨1,q,v,rs⟩).toArray 215):=by rw[<-a2,H];exact Ae.new Z _
 have O:Eb K rb s k:=a1.ext J;have X:Ad (fun z=>z=rb) W K:=(show Ad (fun z=>z=rb) W Z by rw[A];exact Ad.oneSet _ ⟨rb,1,none⟩ _).trans (J.mono kZ);have a5:=Hd (bA O (bA X a0));have hA:=hr.ext ((Aa W).alloc (.cells (Ai.cells ⟨1,q,v,rs⟩).toArray 215));unfold Eb at hA;have q1:=hA.cell (i:=1) (v:=.int .i64 ((k:Int)+1)) vF;have f1:(W.alloc (.cells (Ai.cells ⟨1,q,v,rs⟩).toArray 215)).frozen? ⟨rb,1,none⟩=false:=hA.frozen;have e0:(Ai.cells ⟨1,q,v,rs⟩)[0]?=some (.int .i64 1):=rfl;have e1:(Ai.cells ⟨1,q,v,rs⟩)[1]?=some (.string q):=rfl;have e2:(Ai.cells ⟨1,q,v,rs⟩)[2]?=some (.string v):=rfl;have HW:=Hd (bA A H);clear hr hA a1 J O X a0 A H;unfold Ai.V;unfold vQ;go_in;go_wp2_with fail
 go_ret2
 obtain⟨A,H⟩:=HW.o
 rw[<-A, <-H]
 obtain⟨O,X,a0⟩:=a5.o
 have a3:=(Aa K).alloc (.cells #[q,v] 378);have a7:=Ae.new K (.cells #[q,v] 378);have hz:K.heap.size=W.heap.size+1:=by rw[H,bG,a2]
 have a4:Ae (K.alloc (.cells #[q,v] 378)) (W.heap.size+1) (.cells #[q,v] 378):=by rw[<-hz];exact a7
 exact⟨X.trans (a3.mono kZ),_,_,rfl,⟨_,rfl,⟨Nat.le_succ _,a4.lt⟩,a4⟩,O.ext a3⟩
theorem jtf(W:vW)(rb s k:Nat)(hk:k<=160)(q v:vB)(rs:vM)(hr:Eb W rb s (k+1)):vQ 212 #[rb,(Ai.mk 0 q v rs).V] W (Ry W rb s (some (.no,k))):=by
 have a3:=hr.lt;have a4:W.heap.size≠rb:=vO
 obtain⟨X,A⟩:=vE (W.setCell ⟨rb,1,none⟩ (k:Int))
 obtain⟨W2,H⟩:=vE (X.alloc (.cells (Ai.cells ⟨0,q,v,rs⟩).toArray 215))
 have a0:Eb X rb s k:=by rw[A];exact Ae.set_same (i:=1) hr _
 have a1:X.heap.size=W.heap.size:=by rw[A];exact fO _ _ _
 have J:Af X W2:=by rw[H];exact (Aa X).alloc _
 have Z:Ae W2 W (.cells (Ai.cells ⟨0,q,v,rs⟩).toArray 215):=by rw[<-a1,H];exact Ae.new X _
 have K:Eb W2 rb s k:=a0.ext J;have O:Ad (fun z=>z=rb) W W2:=(show Ad (fun z=>z=rb) W X by rw[A];exact Ad.oneSet _ ⟨rb,1,none⟩ _).trans (J.mono kZ);have a2:=Hd (bA K (bA O Z));have hA:=hr.ext ((Aa W).alloc (.cells (Ai.cells ⟨0,q,v,rs⟩).toArray 215));unfold Eb at hA;have q1:=hA.cell (i:=1) (v:=.int .i64 ((k:Int)+1)) vF;have f1:(W.alloc (.cells (Ai.cells ⟨0,q,v,rs⟩).toArray 215)).frozen? ⟨rb,1,none⟩=false:=hA.frozen;have e0:(Ai.cells ⟨0,q,v,rs⟩)[0]?=some (.int .i64 0):=rfl;have HW:=Hd (bA A H);clear hr hA a0 J K O Z A H;unfold Ai.V;unfold vQ;go_in;go_wp2_with fail
 go_ret2
 obtain⟨A,H⟩:=HW.o
 rw[<-A, <-H]
 obtain⟨K,O,Z⟩:=a2.o
 exact⟨O,_,_,rfl,rfl,K⟩
theorem jv0(s:Nat)(S:vT)(rb f:Nat)(hRef:DE w0 s S rb f)(hnew:w0.heap.size<=rb)(W:vW)(k:Nat)(hE0:Af w0 W)(hk:k<=f)(h160:k<=159)(q v r:vB)(rs:vM)(d:Nat)(hm:Gf (Bs d) r)(hr:Eb W rb s (k+1)):vQ 212 #[rb,(Ai.mk 2 q v (r :: rs)).V] W (Ry W rb s ((Bn S r).bind fun m=>(Hp (Bn S) f m k).map fun x=>(.ext q x.1,x.2))):=by
 have c2:=hr.lt;have b7:W.heap.size≠rb:=vO
 obtain⟨W1,H⟩:=vE (W.setCell ⟨rb,1,none⟩ (k:Int))
 obtain⟨K,J⟩:=vE (W1.alloc (.cells (Ai.cells ⟨2,q,v,r :: rs⟩).toArray 215))
 have a7:Eb W1 rb s k:=by rw[H];exact Ae.set_same (i:=1) hr _
 have a8:W1.heap.size=W.heap.size:=by rw[H];exact fO _ _ _
 have O:Af W1 K:=by rw[J];exact (Aa W1).alloc _
 have a9:Ae K W (.cells (Ai.cells ⟨2,q,v,r :: rs⟩).toArray 215):=by rw[<-a8,J];exact Ae.new W1 _
 have a1:Eb K rb s k:=a7.ext O;have a3:Ad (fun z=>z=rb) W K:=(show Ad (fun z=>z=rb) W W1 by rw[H];exact Ad.oneSet _ ⟨rb,1,none⟩ _).trans (O.mono kZ);have a4:=Hd (bA a1 (bA a3 a9));have hA:=hr.ext ((Aa W).alloc (.cells (Ai.cells ⟨2,q,v,r :: rs⟩).toArray 215));unfold Eb at hA;have q1:=hA.cell (i:=1) (v:=.int .i64 ((k:Int)+1)) vF;have f1:(W.alloc (.cells (Ai.cells ⟨2,q,v,r :: rs⟩).toArray 215)).frozen? ⟨rb,1,none⟩=false:=hA.frozen;have e0:(Ai.cells ⟨2,q,v,r :: rs⟩)[0]?=some (.int .i64 2):=rfl;have e1:(Ai.cells ⟨2,q,v,r :: rs⟩)[1]?=some (.string q):=rfl;have e3:(Ai.cells ⟨2,q,v,r :: rs⟩)[3]?=some (.string r):=rfl;have b0:Af w0 K:=hE0.trans' a3 kJ;have HC:=Hd (hRef r d hm K k b0 a1 hk vO);have b8:(Ai.cells ⟨2,q,v,r :: rs⟩).toArray.size=(Ai.cells ⟨2,q,v,r :: rs⟩).length:=by simp
 have a0:rb < K.heap.size:=a1.lt;have c3:=Hd a0
 obtain⟨o,ho⟩:=vE ((Bn S r).bind fun m=>Hp (Bn S) f m k)
 have b1:((Bn S r).bind fun m=>(Hp (Bn S) f m k).map fun x=>(PA.ext q x.1,x.2))=o.map fun x=>(PA.ext q x.1,x.2):=by rw[ho];cases Bn S r with| none=>rfl| some m=>rfl
 rw[<-ho]at HC;rw[b1];have HW:=Hd (bA H J);have b2:K.heap.size=W.heap.size+1:=by rw[J,bG,a8]
 have b9:=Hd b2;have c0:=hr;clear hRef hnew hE0 hm hr hA a7 O a1 a3 a9 b0 ho b1 b2 b8 a0 c0;unfold Ai.V;unfold vQ;go_in;go_wp2_with fail
 rw[<-H, <-J];clear H J q1 f1;refine HC.o.mono ?_;intro e X hO
 obtain⟨Z,b3⟩:=hO
 have b4:=a4.o.2.2.keeps Z (fun e=>b7 (by exact e));have q7:=b4.cellL (i:=1) e1;have a5:=Hd (a4.o.2.1.trans Z);have b5:=a4.o.2.2.lt;have c1:=Hd (show W.heap.size<=X.heap.size/\W.heap.size+1=K.heap.size/\K.heap.size<=X.heap.size from⟨bF (Nat.le_of_lt b5) Z.size,b9.o.symm,Z.size⟩);clear Z b4 b5;cases o with
 | none =>(obtain⟨v7,l,rfl,hv,A⟩:=b3;have HZ:=Hd A;clear A;rcases hv with rfl |⟨T,x,rfl⟩;{(go_wp2_with fail);go_ret2;exact⟨a5.o.trans (((Aa X).alloc _).mono kZ),_,l,rfl,.inr ⟨_,_,rfl⟩,HZ.o.ext ((Aa X).alloc _)⟩};(go_wp2_with fail);go_ret2;exact⟨a5.o.trans (((Aa X).alloc _).mono kZ),_,l,rfl,.inr ⟨_,_,rfl⟩,HZ.o.ext ((Aa X).alloc _)⟩)
 | some Pl =>obtain⟨P,l⟩:=Pl;obtain⟨T,x,rfl,hP,A⟩:=b3;(have HZ:=Hd (bA hP A);clear hP A;go_wp2_with fail);go_ret2;obtain⟨hP,A⟩:=HZ.o;have a2:=(Aa X).alloc (.cells #[q,.iface T x] 381);have b6:=Ae.new X (.cells #[q,.iface T x] 381);obtain⟨z1,z2,z3⟩:=c1.o;refine⟨a5.o.trans (a2.mono kZ),_,_,rfl,⟨_,T,x,CT K X,rfl,⟨by omega,b6.lt⟩,b6,hP.keeps a2 _ _ _ (fun _ _ e=>e),fun e=>kL e.2,fun z hz=>⟨kL hz.1,bE hz.2 a2.size⟩⟩,A.ext a2⟩
theorem ZF{R:Ai->Nat->Option (PA × Nat)}{G:vB->Option Ai}{rs:vM}{k left:Nat}(h:Ta R G rs k left=none):∀ d,Ta R G rs (k+d) left=none
 | 0=>h
 | d+1=>by
  show Ta R G rs (k+d+1) left=none;rw[MR,ZF h d];rfl
structure sV(W:World)(rb s bb:Nat)(G:vB->Option Ai)(R:Ai->Nat->Option (PA × Nat))(v:vB)(rs:vM)(left:Nat)(iv:Value)(wr:World)(k:Nat)(ks:Nat->PA)(l:Nat)(vk:Nat->Value)(Dk:Nat->Nat->Prop)(D:Nat->Prop):Prop where
 le:k<=16
 iv:iv=.int .i64 (k:Int)
 rd:Ta R G rs k left=some (ks,l)
 br:Gn v ks bb vk Dk D wr
 since:∀ z,D z->W.heap.size<=z
 rdr:Eb wr rb s l
 kp:Ad (fun z=>z=rb) W wr
theorem zZ{n:Ai}(hr:n.refs.length=16)(hB:Ae W b (.cells n.cells.toArray 215)):(Instr.loadAt 213 (.pointer (some ⟨b,3,none⟩))).run Tryz.prog W=.ok (.agg (n.refs.map Value.string).toArray) W:=by
 have e:W.rangeAt b 3 (n.refs.map Value.string):=fun j v A=>hB.cellL (by unfold Ai.cells;rw[show 3+j=j+3 by omega];simpa using A)
 have q:=run_loadVar_mid (P:=Tryz.prog) W b 3 213 _ _ e Fh rfl (by simp only[bU,hr];exact Kh);simp[Instr.loadAt,Instr.sureAddr,bQ,Result.andThen,q]
theorem jys(s:Nat)(S:vT)(rb f:Nat)(hRef:DE w0 s S rb f)(hnew:w0.heap.size<=rb)(W:vW)(k0:Nat)(hE0:Af w0 W)(hk:k0<=f)(h160:k0<=159)(q v:vB)(rs:vM)(d:Nat)(hrl:rs.length=16)(hm:∀ r∈rs,r.size≠0->Gf (Bs d) r)(hr:Eb W rb s (k0+1)):vQ 212 #[rb,(Ai.mk 3 q v rs).V] W (Ry W rb s ((Ta (Hp (Bn S) f) (Bn S) rs 16 k0).map fun x=>(.br v x.1,x.2))):=by
 have e1:=hr.lt
 obtain⟨W1,A⟩:=vE (W.setCell ⟨rb,1,none⟩ (k0:Int))
 obtain⟨W2,H⟩:=vE (W1.alloc (.cells (Ai.cells ⟨3,q,v,rs⟩).toArray 215))
 have c4:Eb W1 rb s k0:=by rw[A];exact Ae.set_same (i:=1) hr _
 have b2:W1.heap.size=W.heap.size:=by rw[A];exact fO _ _ _
 have a0:Af W1 W2:=by rw[H];exact (Aa W1).alloc _
 have b3:Ae W2 W (.cells (Ai.cells ⟨3,q,v,rs⟩).toArray 215):=by rw[<-b2,H];exact Ae.new W1 _
 have b4:Eb W2 rb s k0:=c4.ext a0;have b5:Ad (fun z=>z=rb) W W2:=(show Ad (fun z=>z=rb) W W1 by rw[A];exact Ad.oneSet _ ⟨rb,1,none⟩ _).trans (a0.mono kZ);have e3:=Hd (bA b4 (bA b5 b3));have hA:=hr.ext ((Aa W).alloc (.cells (Ai.cells ⟨3,q,v,rs⟩).toArray 215));unfold Eb at hA;have q1:=hA.cell (i:=1) (v:=.int .i64 ((k0:Int)+1)) vF;have f1:(W.alloc (.cells (Ai.cells ⟨3,q,v,rs⟩).toArray 215)).frozen? ⟨rb,1,none⟩=false:=hA.frozen;have e0:(Ai.cells ⟨3,q,v,rs⟩)[0]?=some (.int .i64 3):=rfl;have e2:(Ai.cells ⟨3,q,v,rs⟩)[2]?=some (.string v):=rfl
 obtain⟨W3,K⟩:=vE (W2.alloc (.cells #[v,.nilIface,.nilIface,.nilIface,.nilIface,.nilIface,.nilIface,.nilIface,.nilIface,.nilIface,.nilIface,.nilIface,.nilIface,.nilIface,.nilIface,.nilIface,.nilIface] 385))
 have X:Af W2 W3:=by rw[K];exact (Aa W2).alloc _
 have c5:W2.heap.size=W.heap.size+1:=by rw[H,bG,b2]
 have b6:Ae W3 (W.heap.size+1) (.cells (Uh v (fun _=>.nilIface)).toArray 385):=by rw[<-c5,K];exact Ae.new W2 _
 have a1:Gn v (fun _=>.nil) (W.heap.size+1) (fun _=>.nilIface) (fun _ _=>False) (fun x=>x=W.heap.size+1) W3:=⟨rfl,b6,fun i _=>⟨rfl,fun e=>e,fun _ e=>e.elim⟩,fun _ _ _ _ _ _ e=>e.elim,fun x e=>by rw[e];exact b6.lt⟩
 have b7:=zZ (n:=⟨3,q,v,rs⟩) hrl (b3.keeps X kI);have c7:=Hd (show sV W rb s (W.heap.size+1) (Bn S) (Hp (Bn S) f) v rs k0 (.int .i64 0) W3 0 (fun _=>.nil) k0 (fun _=>.nilIface) (fun _ _=>False) (fun x=>x=W.heap.size+1)from⟨by omega,rfl,rfl,a1,fun z e=>by rw[e];omega,b4.ext X,b5.trans (X.mono kZ)⟩);have c3:=Hd hRef;have HM:=Hd hm;have e4:=Hd hrl;have e5:=Hd hE0;have e6:=Hd hnew;have e7:=Hd e1;have HF:=Hd hk
 obtain⟨o,ho⟩:=vE ((Ta (Hp (Bn S) f) (Bn S) rs 16 k0).map fun x=>(PA.br v x.1,x.2))
 have HO:=Hd ho;rw[<-ho];have HW:=Hd (bA A (bA H K));have c8:=Hd (show W.heap.size+1≠rb by omega);rw[K,H,A]at b7;clear hRef hnew hE0 hm hr hA c4 a0 b4 b5 b3 A H K X b6 a1 hrl ho c5 hk;unfold Ai.V;unfold vQ;go_in;go_wp2_with (refine Gv 213 (.tmp 59) rfl rfl _ _ rfl b7 ?_)
 obtain⟨A,H,K⟩:=HW.o
 rw[<-A, <-H, <-K]
 obtain⟨bb,c9⟩:=vE (W.heap.size+1)
 rw[<-c9]at c7 c8 ⊢;clear A H K HW b7 q1 f1 b2 c9 e3;go_loopw [61] (fun iv wr=>∃ k ks l vk Dk D,sV W rb s bb (Bn S) (Hp (Bn S) f) v rs k0 iv wr k ks l vk Dk D) (fun iv _=>16 - (intOf iv).toNat)
 case atStart=>exact⟨0,_,_,_,_,_,c7.o⟩
 case round =>obtain⟨k,ks,l,vk,Dk,D,h⟩:=hrel;obtain⟨f3,rfl,d0,a1,d1,d2,d3⟩:=h;have b8:=Hd d0;have Z:=Hd a1;have a2:=Hd d1;have b9:=Hd d2;have O:=Hd d3;clear d0 a1 d1 d2 d3;by_cases hlt:k < 16;{obtain⟨r,a3⟩:∃ r,rs[k]?=some r:=⟨_,bB (kL e4.o)⟩;(have f4:(Instr.index 213 (.agg (rs.map Value.string).toArray) (k:Int)).run Tryz.prog wr=.ok r wr:=LV Fh Jf Je _ k hlt _ (by rw[bY,a3];rfl) wr;have c0:rs.getD k ⟨#[]⟩=r:=by rw[bJ,a3];rfl);(have J:=MR (Hp (Bn S) f) (Bn S) rs k k0;rw[b8.o,c0]at J;have J:Ta (Hp (Bn S) f) (Bn S) rs (k+1) k0=if r.size=0 then some (ks,l)else (Bn S r).bind fun m=>(Hp (Bn S) f m l).map fun y=>(Ca ks k y.1,y.2):=J);by_cases hr0:r.size=0;{rw[if_pos hr0]at J;have e8:=Og hr0;subst e8;have a8:=Hd J;clear J a3 hr0 c0;go_wp2;go_roundw;(case rel=>exact⟨k+1,ks,l,vk,Dk,D,by omega,by go_num,a8.o,Z.o,a2.o,b9.o,O.o⟩);case measure=>exact vJ};rw[if_neg hr0]at J;have f2:=Wl hr0;have d4:Af w0 wr:=e5.o.trans' O.o (fun x hx e=>by have e:x=rb:=e;have:=e6.o;omega);have e9:l<=k0:=TZ (fun m l y h=>bF (UA (Bn S) f m l y h) (Nat.sub_le _ _)) k k0 _ b8.o;have HC:=Hd (c3.o r d (HM.o r (bD a3) hr0) wr l d4 b9.o (kL HF.o) vO);obtain⟨o1,c1⟩:=vE ((Bn S r).bind fun m=>Hp (Bn S) f m l);(rw[<-c1]at HC;have a5:Ta (Hp (Bn S) f) (Bn S) rs (k+1) k0=o1.map fun y=>(Ca ks k y.1,y.2):=by rw[J,c1];cases Bn S r with| none=>rfl| some m=>rfl);(have a8:=Hd a5;clear J a5 a3 hr0 c0 d4 e9 c1;go_wp2_with fail);refine HC.o.mono ?_;intro e w7 hO;obtain⟨d5,d6⟩:=hO;have a9:=Hd d5;clear d5;cases o1 with| none =>(obtain⟨v7,l7,rfl,hv,a4⟩:=d6;have HZ:=Hd a4;clear a4;have d7:=Hd (show o=none by rw[HO.o];have:=ZF (k:=k+1) a8.o (15 - k);rw[show k+1+(15 - k)=16 by omega]at this;rw[this];rfl);rcases hv with rfl |⟨T,x,rfl⟩;{(go_wp2_with fail);go_ret2;rw[d7.o];exact⟨O.o.trans a9.o,_,l7,rfl,.inl rfl,HZ.o⟩};(go_wp2_with fail);go_ret2;rw[d7.o];exact⟨O.o.trans a9.o,_,l7,rfl,.inl rfl,HZ.o⟩)| some Pl =>obtain⟨P,l7⟩:=Pl;obtain⟨T,x,rfl,hP,a4⟩:=d6;(have a7:∀ z,D z->¬ z=rb:=fun z hz e=>by have:=a2.o z hz;have:=e7.o;omega);have b0:=Z.o.keeps a9.o (fun z hz=>a7 z hz);have hg:=b0.give hlt hP (fun z hz=>⟨fun e=>by have:=Z.o.lt z e;have:=hz.1;omega,hz.2⟩);obtain⟨W8,b1⟩:=vE (w7.setCell ⟨bb,1+k,none⟩ (.iface T x));(rw[<-b1]at hg;have c2:Ad (fun z=>z=bb) w7 W8:=by rw[b1];exact Ad.oneSet w7 ⟨bb,1+k,none⟩ (.iface T x));have d8:Eb W8 rb s l7:=a4.keeps c2 (fun e=>c8.o e.symm);have d9:Ad (fun z=>z=rb) W W8:=(O.o.trans a9.o).trans' c2 (fun z hz e=>by have e:z=bb:=e;have:=a2.o bb Z.o.mem;omega);obtain⟨old,q7⟩:∃ v,w7.cell? ⟨bb,1+k,none⟩=some v:=⟨_,b0.blk.cellL (bB (by rw[FZ];omega))⟩;(have f7:w7.frozen? ⟨bb,1+k,none⟩=false:=b0.blk.frozen;have HG:=Hd (bA hg (bA d8 (bA d9 (show ∀ z,(D z\/CT wr w7 z)->W.heap.size<=z from fun z hz=>hz.elim (a2.o z) (fun e=>bF O.o.size e.1)))));have f0:=Hd b1;clear hP a4 a7 b0 hg c2 d8 d9 b1;go_wp2_with fail);rw[<-f0.o];clear q7 f7;go_roundw;(case rel=>exact⟨k+1,_,l7,_,_,_,by omega,by go_num,a8.o,HG.o.1,HG.o.2.2.2,HG.o.2.1,HG.o.2.2.1⟩);case measure=>exact vJ};obtain rfl:k=16:=vO;(go_wp2_with fail);go_ret2;rw[HO.o,b8.o];exact⟨O.o,_,_,rfl,Z.o.pa.at'.mono (fun z hz=>⟨a2.o z hz,Z.o.lt z hz⟩),b9.o⟩
theorem qX(w0:vW)(s bm:Nat)(room:Int)(S:vT)(rb:Nat)(hR:Vt w0 s bm room S rb):∀ f,LD w0 s S rb f
 | 0=>fun n d K W left H q O A=>by
  obtain rfl:left=0:=vO
  rw[aM];exact kR W rb s n q
 | f+1=>fun n d K W left H q O A=>by
  have e:=tY w0 s bm room S rb hR f (qX w0 s bm room S rb hR f);cases left with
  | zero =>
   rw[aM];exact kR W rb s n q
  | succ k =>
   rw[JD,if_neg (iG k)];cases K with
   | none=>exact jtf W rb s k vO _ _ _ q
   | leaf p v h1 h2 h3=>exact jte W rb s k vO p v _ q
   | ext p r h1 h2 h3 =>
    have J:Gf (Bs d) r:=h3.imp id (fun ⟨m,J,_⟩=>⟨m,J⟩);exact jv0 w0 s S rb f e hR.new W k H vO vO p ⟨#[]⟩ r (Cv 15) d J q
   | branch v rs h1 h2 h3 h4=>exact jys w0 s S rb f e hR.new W k H vO vO ⟨#[]⟩ v rs d h1 h3 q
def yG(W:vW)(o:Option (PA × Nat))(e:Ending)(w':vW):Prop:=Af W w'/\match o with
 | some (P,_)=>∃ T x,e=.returned (.tuple #[.iface T x,true])/\Bw P (.iface T x) (CT W w') w'
 | none=>∃ v,e=.returned (.tuple #[v,false])/\(v=.nilIface\/∃ T x,v=.iface T x)
noncomputable def Vl(S:vT)(root:vB):Option (PA × Nat):=(Kc S root).bind fun m=>Hp (Bn S) 160 m 160
theorem jy9(W:vW)(s bm:Nat)(room:Int)(S:vT)(hs:Ev W s bm room S)(hN:BH S)(root:vB):vQ 133 #[s,root] W (yG W (Vl S root)):=by
 obtain⟨J,q⟩:=vE (W.alloc (.cells #[s,.int .i64 160] 308))
 have A:Af W J:=by rw[q];exact (Aa W).alloc _
 have K:Eb J W s 160:=by rw[q];exact Ae.new W _
 have Z:Vt W s bm room S W.heap.size:=⟨hs,hN,bP _⟩;have X:=qV W s bm room S W Z 160 (qX W s bm room S W Z 160) root J 160 A K (bP _) (bP _)
 obtain⟨o,ho⟩:=vE (Vl S root)
 have X:vQ 166 #[W,root] J (Ry J W s o):=by rw[ho];exact X
 have HC:=Hd X;have HE:=Hd A;have HW:=Hd q;rw[<-ho];clear hs hN K Z X ho A q;unfold vQ;go_in;go_wp2_with fail
 rw[<-HW.o];refine HC.o.mono ?_;intro e w7 hO
 obtain⟨hk,O⟩:=hO
 have hX:Af W w7:=HE.o.trans' hk kJ;have HX:=Hd hX;clear hk hX;cases o with
 | none =>(obtain⟨v,l,rfl,hv,H⟩:=O;clear H;rcases hv with rfl |⟨T,x,rfl⟩;{(go_wp2_with fail);go_ret2;exact⟨HX.o,_,rfl,.inl rfl⟩};(go_wp2_with fail);go_ret2;exact⟨HX.o,_,rfl,.inr ⟨T,x,rfl⟩⟩)
 | some Pl =>obtain⟨P,l⟩:=Pl;obtain⟨T,x,rfl,hP,H⟩:=O;(have HZ:=Hd hP;clear hP H;go_wp2_with fail);go_ret2;exact⟨HX.o,T,x,rfl,HZ.o.mono (fun z hz=>⟨bF HE.o.size hz.1,hz.2⟩)⟩
theorem nW(w:vW){S:vT}(h:Eu f m)(hn:m≠[])(hS:32<=(An (f+1) m).text.size->Oz S (An (f+1) m).text):Bn S (Ba (An (f+1) m).text)=some (Bm (An f) m):=by
 have e:=(good f m h).2.1 hn;unfold Bn
 by_cases hz:(An (f+1) m).text.size < 32
 ·have A:=e.may.2 hz;rw[DL (Br (f+1)) A,UD w A]
 ·rw[nZ hz,IX (Uj _)];obtain⟨x,q,J⟩:=hS vO;have q:Be S (Ak (An (f+1) m).text).data.toList=some x:=q;show (Be S (Ak (An (f+1) m).text).data.toList).map (fun x=>Bo x.2.2.text)=_;rw[q];show some (Bo x.2.2.text)=_;have H:Ht (An (f+1) m).text (Bm (An f) m):=⟨e.text,f,e.good⟩;rw[J,BW w (Wg H) H]
theorem jqC(w:vW)(S:vT):∀ (g:Nat) (l:vL),Eu g l->(∀ x∈Ej (Cu (An g) l),32<=x.size->Oz S x)->∀ (f left:Nat),En g l<=left->left<=f->Hp (Bn S) f (Bm (An g) l) left=some (Da (g+1) l,left - En g l):=by
 intro g;have A:∀ (g:Nat) (l:vL),l.length<=1->En g l=1->∀ (f left:Nat),En g l<=left->left<=f->Hp (Bn S) f (Bm (An g) l) left=some (Da (g+1) l,left - En g l):=by intro g l hl hc f left Z h2;rw[hc]at Z ⊢;cases f with| zero=>omega| succ f =>rw[JD,if_neg vO];by_cases h0:l.length=0;{(have e:Bm (An g) l=Db:=by unfold Bm;rw[if_pos h0]);rw[e,Th _ h0];rfl};have a2:l.length=1:=vO;(have e:Bm (An g) l=⟨1,(l.getD 0 pd).1,(l.getD 0 pd).2,Cv 16⟩:=by unfold Bm;rw[if_neg h0,if_pos a2]);rw[e,Um _ a2];rfl
 induction g with
 | zero =>intro l h hS f left Z h2;exact A 0 l (Wi h) rfl f left Z h2
 | succ g ih =>intro l h hS f left Z h2;by_cases hl:l.length<=1;{exact A (g+1) l hl (by unfold En;rw[if_pos hl]) f left Z h2};have a0:2<=l.length:=vO;(have J:∀ m,Eu g m->m≠[]->(∀ x∈Ej (Hx (An (g+1) m)),x∈Ej (Cu (An (g+1)) l))->(32<=(An (g+1) m).text.size->Oz S (An (g+1) m).text)/\∀ x∈Ej (Cu (An g) m),32<=x.size->Oz S x:=by intro m hm a5 K;refine⟨fun hz=>hS _ (K _ ?_) hz,fun x hx hz=>?_⟩;{rw[mG vO];exact NY _};by_cases hs:(An (g+1) m).text.size < 32;{have a7:=(good g m hm).2.1 a5;have e:(An (g+1) m).kids=[]:=a7.small hs;have e:Cu (An g) m=[]:=e;rw[e]at hx;cases hx};refine hS x (K x ?_) hz;rw[mG hs];exact bM _ hx);cases f with| zero =>exfalso;(have:1<=En (g+1) l:=by unfold En;omega);omega| succ f =>by_cases hk:0 < Aj l;{obtain⟨O,k2,_,_⟩:=DZ h a0 hk;(have eB:Cu (An (g+1)) l=Hx (An (g+1) (Az (Aj l) l)):=by unfold Cu;rw[if_neg vO,if_pos hk]);(have eN:Bm (An (g+1)) l=⟨2,(l.getD 0 pd).1.extract 0 (Aj l),⟨#[]⟩,Ba (An (g+1) (Az (Aj l) l)).text :: Cv 15⟩:=by unfold Bm;rw[if_neg vO,if_neg vO,if_pos hk]);(have eC:En (g+1) l=1+En g (Az (Aj l) l):=by show 1+(if l.length<=1 then 0 else if 0 < Aj l then En g (Az (Aj l) l)else _)=_;rw[if_neg vO,if_pos hk]);obtain⟨s1,s2⟩:=J _ O k2 (fun x hx=>by rw[eB];exact hx);rw[eC]at Z ⊢;rw[JD,if_neg vO,eN,AU _ a0 hk];show ((Bn S (Ba (An (g+1) (Az (Aj l) l)).text)).bind fun m=>(Hp (Bn S) f m (left - 1)).map fun x=>(PA.ext ((l.getD 0 pd).1.extract 0 (Aj l)) x.1,x.2))=_;rw[nW w O k2 s1];show (Hp (Bn S) f (Bm (An g) (Az (Aj l) l)) (left - 1)).map _=_;rw[ih _ O s2 f (left - 1) vO vO];show some (_,left - 1 - En g (Az (Aj l) l))=some (_,left - (1+En g (Az (Aj l) l)));congr 2;omega};(have eB:Cu (An (g+1)) l=(List.range 16).flatMap fun i=>if (Ah i l).length=0 then []else Hx (An (g+1) (Az 1 (Ah i l))):=by unfold Cu;rw[if_neg vO,if_neg hk]);obtain⟨rs,a3⟩:=vE ((List.range 16).map fun i=>if (Ah i l).length=0 then (⟨#[]⟩:vB)else Ba (An (g+1) (Az 1 (Ah i l))).text);(have eN:Bm (An (g+1)) l=⟨3,⟨#[]⟩,if (l.getD 0 pd).1.size=0 then (l.getD 0 pd).2 else ⟨#[]⟩,rs⟩:=by rw[a3];unfold Bm;rw[if_neg vO,if_neg vO,if_neg hk]);(obtain⟨c,hc⟩:∃ c:Nat->Nat,c=fun i=>if (Ah i l).length=0 then 0 else En g (Az 1 (Ah i l)):=⟨_,rfl⟩);(have eC:En (g+1) l=1+Cb c 16:=by rw[hc];show 1+(if l.length<=1 then 0 else if 0 < Aj l then _ else _)=_;rw[if_neg vO,if_neg hk]);(obtain⟨q,H⟩:∃ q:Nat->PA,q=fun i=>if (Ah i l).length=0 then PA.nil else Da (g+1) (Az 1 (Ah i l)):=⟨_,rfl⟩);(rw[eC]at Z ⊢;have a1:∀ k,k<=16->Ta (Hp (Bn S) f) (Bn S) rs k (left - 1)=some (fun i=>if i < k then q i else .nil,left - 1 - Cb c k):=by intro k;induction k with| zero=>intro _;simp[Ta,Cb]| succ k ihk =>(intro a8;rw[MR,ihk vO];have a4:rs.getD k ⟨#[]⟩=if (Ah k l).length=0 then (⟨#[]⟩:vB)else Ba (An (g+1) (Az 1 (Ah k l))).text:=by rw[a3,SV _ vO]);show (if (rs.getD k ⟨#[]⟩).size=0 then some (_,left - 1 - Cb c k)else (Bn S (rs.getD k ⟨#[]⟩)).bind fun m=>(Hp (Bn S) f m (left - 1 - Cb c k)).map fun y=>(Ca (fun i=>if i < k then q i else .nil) k y.1,y.2))=_;have X:Cb c (k+1)=Cb c k+c k:=rfl;by_cases hc0:(Ah k l).length=0;{rw[a4,if_pos hc0,if_pos (show (⟨#[]⟩:vB).size=0 from rfl),X];(have e1:c k=0:=by rw[hc];exact if_pos hc0);(have e2:q k=.nil:=by rw[H];exact if_pos hc0);rw[e1,gC];congr 2;funext i;by_cases hi:i < k;{rw[if_pos hi,if_pos vO]};rw[if_neg hi];by_cases he:i=k;{rw[he,if_pos vO,e2]};rw[if_neg vO]};obtain⟨O,k2⟩:=BF h hc0;obtain⟨s1,s2⟩:=J _ O k2 (fun x hx=>by rw[eB,SU];exact dL.2 ⟨k,dZ.2 vO,by rw[if_neg hc0];exact hx⟩);(have e1:c k=En g (Az 1 (Ah k l)):=by rw[hc];exact if_neg hc0);(have e2:q k=Da (g+1) (Az 1 (Ah k l)):=by rw[H];exact if_neg hc0);(have a9:Cb c (k+1)<=Cb c 16:=by have:=FO c (k+1) (15 - k);rwa [show k+1+(15 - k)=16 by omega]at this);rw[a4,if_neg hc0,if_neg (qU O k2),nW w O k2 s1];show (Hp (Bn S) f (Bm (An g) (Az 1 (Ah k l))) (left - 1 - Cb c k)).map _=_;rw[ih _ O s2 f _ vO vO, <-e1, <-e2,X];show some (Ca _ k (q k),_)=some (_,_);congr 2;{funext i;unfold Ca;by_cases he:i=k;{rw[if_pos he,he,if_pos vO]};rw[if_neg he];show (if i < k then q i else PA.nil)=_;by_cases hi:i < k;{rw[if_pos hi,if_pos vO]};rw[if_neg hi,if_neg vO]};omega);(rw[JD,if_neg vO,eN,AZ _ a0 hk];show (Ta (Hp (Bn S) f) (Bn S) rs 16 (left - 1)).map (fun x=>(PA.br (if (l.getD 0 pd).1.size=0 then (l.getD 0 pd).2 else ⟨#[]⟩) x.1,x.2))=_;rw[a1 16 (bP _), <-H];show some (PA.br _ (fun i=>if i < 16 then q i else .nil),left - 1 - Cb c 16)=some (PA.br _ q,left - (1+Cb c 16));have e3:(fun i=>if i < 16 then q i else .nil)=q:=by funext i;by_cases hi:i < 16;{rw[if_pos hi]};rw[if_neg hi,H];(show PA.nil=if (Ah i l).length=0 then PA.nil else _);rw[if_pos (by cases hz:(Ah i l).length with| zero=>rfl| succ n=>exact absurd (sR h (i:=i) vO) hi)]);rw[e3];congr 2;omega
theorem UT:∀ (g:Nat) (l:vL),Eu g l->Bp (Da (g+1) l)=En g l:=by
 intro g;have e:∀ (g:Nat) (l:vL),l.length<=1->Bp (Da (g+1) l)=1:=by intro g l A;by_cases h0:l.length=0;{rw[Th _ h0];rfl};rw[Um _ vO];rfl
 induction g with
 | zero=>intro l h;exact e 0 l (Wi h)
 | succ g ih =>intro l h;by_cases A:l.length<=1;{rw[e _ l A];show 1=1+(if l.length<=1 then 0 else _);rw[if_pos A]};have q:2<=l.length:=vO;show _=1+(if l.length<=1 then 0 else if 0 < Aj l then En g (Az (Aj l) l)else Cb (fun i=>if (Ah i l).length=0 then 0 else En g (Az 1 (Ah i l))) 16);rw[if_neg A];by_cases hk:0 < Aj l;{rw[if_pos hk,AU _ q hk];show 1+Bp (Da (g+1) (Az (Aj l) l))=_;rw[ih _ (DZ h q hk).1]};rw[if_neg hk,AZ _ q hk];show 1+Cb (fun i=>Bp (if (Ah i l).length=0 then PA.nil else Da (g+1) (Az 1 (Ah i l)))) 16=_;congr 2;funext i;by_cases hc:(Ah i l).length=0;{rw[if_pos hc,if_pos hc];rfl};rw[if_neg hc,if_neg hc,ih _ (BF h hc).1]
theorem OK(h:PK l):En 12 (Em l)<=118:=by
 have e:=Ou h
 by_cases hn:Em l=[]
 ·rw[hn];decide
 ·have q:=(jz4 12 _ e hn).all;(have A:=h.len;have H:(Em l).length=l.length:=by unfold Em;rw[bU]);omega
theorem jtC(w:vW){S:vT}(h:Ru S l):∃ k,Vl S (Ak (Ds l).text)=some (Da 13 (Em l),k):=by
 have q:=Ou (Fr h.ok)
 obtain⟨x,e,H⟩:=h.has _ (NY _)
 have e:Be S (Ak (Ds l).text).data.toList=some x:=e;have A:Ht (Ds l).text (Bm (An 12) (Em l)):=⟨rfl,12,(good 12 _ q).1⟩;unfold Vl Kc;rw[e];show ∃ k,Hp (Bn S) 160 (Bo x.2.2.text) 160=_;rw[H,BW w (Wg A) A];have K:=OK (Fr h.ok)
 exact⟨_,jqC w S 12 _ q (fun y J _=>h.has y (bM _ J)) 160 160 vO (bP _)⟩
end
section
open Go Go.RowKit
end
section
open Go Go.RowKit
attribute [local go_sem] Oper.semAt_some
def Gj(w:vW):Prop:=w.cell? (0:)=some (.iface 242 (.agg #[.pointer (some ⟨3,94,none⟩)]))
theorem Gj.ext{w:vW}(h:Gj w)(k:Af w w'):Gj w':=Am h k
structure Dx(z g:Nat)(v:Value)(T:vM)(W:World):Prop where
 lo:z<=g
 var:Ae W g (.cells #[v] 239)
 row:W.ownsRow 0 9 1 v T.length (T.map Value.string)
 own:∀ b,v.ownBlock=some b->z<=b/\b≠g/\b < W.heap.size
 nil:T=[]->v=.slice none 0 0
theorem Dx.ext(h:Dx z g v T W)(e:Af W W'):Dx z g v T W':=
 ⟨h.lo,h.var.keeps e kI,Jy h.row e,fun b hb=>⟨(h.own b hb).1,(h.own b hb).2.1,bE (h.own b hb).2.2 e.size⟩,h.nil⟩
theorem Dx.off{F:Bf}(h:Dx z g v T W)(e:Ad F W W')(h1:¬ F g)(h2:∀ b,v.ownBlock=some b->¬ F b):Dx z g v T W':=
 ⟨h.lo,h.var.keeps e h1,Kq h.row e h2,fun b hb=>⟨(h.own b hb).1,(h.own b hb).2.1,bE (h.own b hb).2.2 e.size⟩,h.nil⟩
structure Eh(z g:Nat)(v:Value)(W W':World)(v':Value)(T':vM):Prop where
 at':Dx z g v' T' W'
 kp:Ad (fun b=>b=g\/v.ownBlock=some b) W W'
 sub:∀ b,v'.ownBlock=some b->v.ownBlock=some b\/W.heap.size<=b
theorem Eh.refl(h:Dx z g v T W)(e:Af W W'):Eh z g v W W' v T:=⟨h.ext e,e.mono kZ,fun b hb=>.inl hb⟩
theorem Eh.trans(h:Eh z g v W W' v' T)(k:Eh z g v' W' W'' v'' T'):Eh z g v W W'' v'' T':=
 ⟨k.at',h.kp.trans' k.kp (fun x q e=>by
  rcases e with e | e
  ·exact .inl e
  ·rcases h.sub x e with e | e
   ·exact .inr e
   ·omega),fun b hb=>by
  rcases k.sub b hb with e | e
  ·exact h.sub b e
  ·exact .inr (bF h.kp.size e)⟩
theorem Eh.ext(h:Eh z g v W W' v' T)(e:Af W' W''):Eh z g v W W'' v' T:=h.trans (Eh.refl h.at' e)
theorem Eh.blk(h:Eh z g v W W' v' T){o:Obj}(hB:Ae W b o)(h1:b≠g)(h2:v.ownBlock≠some b):Ae W' b o:=hB.keeps h.kp (fun e=>e.elim h1 h2)
theorem Eh.ext0(h:Eh z g v W W' v' T')(k:Dx z g v T W)(e:Af W0 W)(hz:W0.heap.size<=z):Af W0 W':=
 e.trans' h.kp (fun x q e=>by
  rcases e with e | e
  ·have:=k.lo;omega
  ·have:=(k.own x e).1;omega)
theorem Eh.fill(h:Eh z g v W W' v' T)(e:Ad (fun b=>b=L) W' W'')(h1:L≠g)(h2:v'.ownBlock≠some L)(h3:W.heap.size<=L):Eh z g v W W'' v' T:=
 ⟨h.at'.off e (fun x=>h1 x.symm) (fun b hb x=>h2 (by rw[hb,x])),h.kp.trans' e (fun x q y=>by have y:x=L:=y;omega),h.sub⟩
theorem Eh.ahead(e:Af W0 W)(h:Eh z g v W W' v' T):Eh z g v W0 W' v' T:=
 ⟨h.at',(e.mono kZ).trans' h.kp (fun x q e=>e),fun b hb=>(h.sub b hb).imp id (fun k=>bF e.size k)⟩
def Xy(z g:Nat)(v:vV)(W:vW)(r:vV)(T:vM)(e:Ending)(w':vW):Prop:=e=.returned r/\∃ v',Eh z g v W w' v' T
structure GV(n:Ai):Prop where
 refs:n.refs.length=16
 call:∀ w,Ha w->Gj w->vQ 125 #[n.V] w fun e w'=>(∃ k:Int,e=.returned (.tuple #[Om n,.int .i64 k]))/\Af w w'
theorem lD{n:Ai}(h:Gi (Bs d) n):GV n:=⟨(h.one (Br d)).refs,fun w _ _=>by
 rw[TF h];exact (GL (Br d) w n h).mono fun e w' h=>⟨⟨0,h.1⟩,h.2⟩⟩
def Rx:PA->Prop
 | .nil=>True
 | .no=>GV Db
 | .leaf q v=>GV ⟨1,q,v,Cv 16⟩
 | .ext q n=>GV (Ge (.ext q n))/\Rx n
 | .br v ks=>GV (Ge (.br v ks))/\∀ i,Rx (ks i)
theorem Rx.node(h:Rx P)(hn:P.isNil=false):GV (Ge P):=by
 cases P with
 | nil=>cases hn
 | no=>exact h
 | leaf q v=>exact h
 | ext q n=>exact h.1
 | br v ks=>exact h.1
theorem FF:∀ (P:PA),P.isNil=false->(Bu P).length+1<=Bp P
 | .nil,h=>by cases h
 | .no,_=>bP _
 | .leaf _ _,_=>bP _
 | .ext q n,_=>by
  show (Iq (Bc n)++Bu n).length+1<=1+Bp n;rw[bK];have e:=UR (Bc n);cases hn:n.isNil with
  | true=>rw[Py hn];exact bP _
  | false =>
   have:=FF n hn
   omega
 | .br v ks,_=>by
  show ((List.range 16).flatMap fun i=>if (ks i).isNil then []else Iq (Bc (ks i))++Bu (ks i)).length+1<=1+Cb (fun i=>Bp (ks i)) 16
  have:=JV (fun i=>if (ks i).isNil then []else Iq (Bc (ks i))++Bu (ks i)) (fun i=>Bp (ks i)) (fun i=>by
   show (if (ks i).isNil=true then ([]:vM)else Iq (Bc (ks i))++Bu (ks i)).length<=Bp (ks i);cases hn:(ks i).isNil with
   | true=>rw[if_pos rfl];exact cE _
   | false =>
    rw[if_neg ff,bK];have e:=UR (Bc (ks i))
    have:=FF (ks i) hn
    omega) 16
  omega
def tB(P:PA):Prop:=∀ (w0 W:vW) (T:TypeId) (x:vV) (D:Nat->Prop) (g:Nat) (v:vV) (Tx:vM),Ha w0->Gj w0->Hm P (.iface T x) D w0->Af w0 W->Dx w0 g v Tx W->Tx.length+Bp P<=100000 ->
 vQ (KY P) #[x,g] W (Xy w0 g v W (Ge P).V (Tx++Bu P))
def Ya(P:PA):Prop:=∀ (w0 W:vW) (T:TypeId) (x:vV) (D:Nat->Prop) (g:Nat) (v:vV) (Tx:vM),Ha w0->Gj w0->Hm P (.iface T x) D w0->Af w0 W->Dx w0 g v Tx W->Tx.length+Bp P<=100000 ->
 vQ 134 #[g,.iface T x] W (Xy w0 g v W (Bc P) (Tx++Bu P))
def XB(P:PA):Prop:=∀ (w0 W:vW) (T:TypeId) (x:vV) (D:Nat->Prop) (g:Nat) (v:vV) (Tx:vM),Ha w0->Gj w0->Hm P (.iface T x) D w0->Af w0 W->Dx w0 g v Tx W->Tx.length+Bp P<=100000 ->
 vQ 266 #[g,.iface T x] W (Xy w0 g v W (Ba (Bc P)) (Tx++(Iq (Bc P)++Bu P)))
theorem jv3(z g:Nat)(v:vV)(Tx:vM)(W:vW)(h:Dx z g v Tx W):vQ 302 #[.agg #[],g] W (Xy z g v W Db.V Tx):=by
 have H:=Hd h;clear h;unfold vQ;go_in;go_wp2_with (first |(refine Di Ac rfl rfl ?_;intro Z q A;simp only[bG]at q) |(refine Bv (vs:=Db.cells) rfl rfl rfl rfl q rfl Ab Db.one ?_;intro X J K))
 have O:=(Aa W).alloc (.cells #[] 387);refine bodyPost_ret (Zd rfl rfl (Pm X _ Db rfl J)) rfl ?_
 exact⟨rfl,v,Eh.refl H.o ((O.trans A).trans' K kJ)⟩
def xF(q u:vB):List vV:=Uk 1 q u ⟨#[]⟩
theorem jyg(z g:Nat)(v:vV)(Tx:vM)(W:vW)(hE:Af w0 W)(q u:vB)(b:Nat)(hB:Ae w0 b (.cells #[q,u] 378))(h:Dx z g v Tx W):vQ 288 #[b,g] W (Xy z g v W (Ai.V ⟨1,q,u,Cv 16⟩) Tx):=by
 have H:=Hd h;have Q0:=Hd (Am (hB.cell (i:=0) (v:=.string q) vF) hE);have Q1:=Hd (Am (hB.cell (i:=1) (v:=.string u) vF) hE);have a1:=hB.lt;have O:=Hd (show ¬ b=W.heap.size by have:=hE.size;omega);clear h hB hE a1;unfold vQ;go_in;go_wp2_with (refine Di Ac rfl rfl ?_;intro W4 X Z)
 have a2:=Hd X;have A:=Hd Z;clear X Z;refine vS ?_;refine Nc [0,1,2,3,4,5,6,7,8,9] [9] Af (Ad (fun z=>z=W.heap.size)) Aa Aq (fun x y z h k=>Ad.trans h k) (fun x y h=>h.mono (fun _ _ h=>h.elim)) vY vY vY ?_
 refine vD ?_
 refine Lr _ (b) rfl (fun w1 _=>by kernel_rfl) ?_;refine vS ?_
 refine vD ?_
 refine Fc b _ rfl (fun w1 h1=>Dt (fun w=>by kernel_rfl) (Dw (Am Q0.o A.o) (((Ad.refl (fun z=>z=W.heap.size) W4).drew).trans h1) (by exact O.o))) ?_;refine vS ?_
 refine vD ?_
 refine Lr _ (b) rfl (fun w1 _=>by kernel_rfl) ?_;refine vS ?_
 refine vD ?_
 refine Fc ⟨b,1,none⟩ _ rfl (fun w1 h1=>Dt (fun w=>by kernel_rfl) (Dw (Am Q1.o A.o) (((Ad.refl (fun z=>z=W.heap.size) W4).drew).trans h1) (by exact O.o))) ?_;refine vS ?_
 refine vD ?_
 refine Hl _ rfl (fun w5 he K hK=>?_);have hX:=(Ap W4).trans he;refine Yk (vs:=xF q u) rfl rfl rfl (a2.o.keeps hX (fun h=>h)) rfl Ab (BY _ _ _ _) ?_;intro W6 a0 J;have H6:=Hd (bA a0 ((A.o.trans hX).trans' J (fun x hx e=>by have e:x=W.heap.size:=e;omega)));refine vS ?_;refine hK _ _ J ?_;clear hK K he hX a0 J;refine Mr (fun w7 he=>?_);have a3:=H6.o.1.keeps he (fun h=>h);have a4:=H6.o.2.trans he;go_wp2_with fail
 refine bodyPost_ret (Zd rfl rfl (Pm w7 _ ⟨1,q,u,Cv 16⟩ rfl a3)) rfl ?_
 exact⟨rfl,v,Eh.refl H.o a4⟩
theorem WU(P:PA)(hn:P.isNil=false)(hp:Rx P)(hF:tB P):Ya P:=by
 intro w0 W T x D g v Tx J K O X Z hl;have hf:=hF w0 W T x D g v Tx J K O X Z hl;have hm:=O.at'.meth.form;have hm:∀ w,(Go.method (522+1) T x "guilloche/trie.form").run Tryz.prog w=.ok (KY P,x) w:=hm;have a2:=X_ P;have q:=hp.node hn;rw[kD hn];have HN:Hid (∀ w,Af w0 w->vQ 125 #[(Ge P).V] w fun e w'=>(∃ k:Int,e=.returned (.tuple #[Om (Ge P),.int .i64 k]))/\Af w w'):=fun w e=>q.call w (J.ext e) (K.ext e);have HF:=Hd hf;have HW:=Hd (bA Z X)
 obtain⟨U,hU⟩:=vE (Tx++Bu P)
 rw[<-hU]at HF ⊢
 obtain⟨n,A⟩:=vE (Ge P)
 rw[<-A]at HF HN ⊢;clear hf J K O X Z hl q hn hp hF hU A;go_enter Tryz.func134,Tryz.ntmps134;go_wp2_with fail
 refine HF.o.mono ?_;rintro e w1 ⟨rfl,v1,hT⟩;have HT:=Hd hT;have a0:=Hd (hT.ext0 HW.o.1 HW.o.2 (bP _));clear hT;go_wp2_with fail
 refine (HN.o w1 a0.o).mono ?_;rintro e w2 ⟨⟨k,rfl⟩,H⟩;have a1:=Hd H;clear H;go_wp2_with fail
 go_ret
 exact⟨rfl,v1,HT.o.ext a1.o⟩
end
section
open Go Go.RowKit
end
section
open Go Go.RowKit
attribute [local go_sem] Oper.semAt_some
end
section
open Go Go.RowKit
end
section
open Go Go.RowKit
attribute [local go_sem] Oper.semAt_some
end
section
open Go Go.RowKit
end
section
open Go Go.RowKit
attribute [local go_sem] Oper.semAt_some
theorem jx8{y h:vB}(A:Yv y=some h):Zr y:=by
 unfold Yv at A;cases q:Dq y with
 | none=>rw[q]at A;cases A
 | some r =>rw[q]at A;have A:Vg y r=some h:=A;unfold Vg at A;rw[Option.filter_eq_some_iff]at A;obtain⟨H,J⟩:=A;(have J:h.size=32:=by simpa using J);unfold Yr at H;by_cases hr:r.1=false/\r.2.1+r.2.2=y.size;(case neg=>rw[if_neg hr]at H;cases H);rw[if_pos hr]at H;have H:=bV H;obtain⟨b,o,n⟩:=r;obtain⟨hb,K⟩:=hr;have hb:b=false:=hb;have K:o+n=y.size:=K;subst hb;refine⟨h,J,?_⟩;(have Z:n=32:=by have e:=congrArg ByteArray.size H;rw[dI]at e;simp only at e;omega);obtain⟨⟨l⟩⟩:=y;cases l with| nil=>exact absurd (UV q).1 vI| cons a t =>have q:Dq ⟨(a :: t).toArray⟩=some (false,o,n):=q;rw[MV]at q;obtain⟨m,O⟩:=vE (if a.toNat < 192 then a.toNat - 128 else a.toNat - 192);rw[<-O]at q;by_cases h4:a.toNat < 128;{rw[if_pos h4]at q;have:=(Prod.mk.inj (Prod.mk.inj (bV q)).2).2;omega};rw[if_neg h4]at q;by_cases h5:m<=55;{rw[if_pos h5]at q;split at q;{have X:=(Prod.mk.inj (bV q)).1;(have e2:=(Prod.mk.inj (Prod.mk.inj (bV q)).2).1;have e3:=(Prod.mk.inj (Prod.mk.inj (bV q)).2).2;have X:¬ 192<=a.toNat:=of_decide_eq_false X;rw[if_pos vO]at O;have ha:a=160:=dP.1 (by show a.toNat=160;omega);have ht:h=⟨t.toArray⟩:=by rw[<-H, <-e2,Z];apply ByteArray.ext;apply Array.ext';have a0:o+n=t.length+1:=K;rw[fG,fY,fM];show ((a :: t).drop 1).take (1+32 - 1)=t;rw[List.drop_succ_cons,List.drop_zero,cF vO]);unfold Ay;rw[if_neg vO,J,ht,ha];apply ByteArray.ext;apply Array.ext';rw[dK,fK];rfl};cases q};rw[if_neg h5]at q;split at q;{rename_i n' hl;split at q;{have e3:=(Prod.mk.inj (Prod.mk.inj (bV q)).2).2;have:=(MW hl).2.2.2.1;omega};cases q};cases q
def IJ(s:vB):Prop:=∀ w,Gj w->vQ 116 #[s] w (PH w)
theorem jss{I:vB->Ai->Prop}{n:Ai}(h:Gi I n)(h0:n.kind=0):n=Db:=by
 cases h with
 | none=>rfl
 | leaf p v _ _ _=>exact absurd (show (1:Nat)=0 from h0) vI
 | ext p r _ _ _=>exact absurd (show (2:Nat)=0 from h0) vI
 | branch v rs _ _ _ _=>exact absurd (show (3:Nat)=0 from h0) vI
theorem Dx.push(h:Dx z g v Tx W)(hn:n=(Tx++New).length)(r1:w6.ownsRow 0 9 1 v' n ((Tx++New).map Value.string))(r2:Ad (fun b=>v.ownBlock=some b) W w6)(r3:v'.ownBlock=v.ownBlock\/∀ b,v'.ownBlock=some b->W.heap.size<=b)(hz:z<=W.heap.size)(h0:New≠[]):Eh z g v W (w6.setCell g v') v' (Tx++New):=by
 subst hn;have H:=h.var.keeps r2 (fun e=>(h.own g e).2.1 rfl);have J:=Ad.oneSet w6 g v';have K:=h.var.lt;have q:∀ b,v'.ownBlock=some b->v.ownBlock=some b\/W.heap.size<=b:=fun b hb=>by rcases r3 with r3 | r3;{exact .inl (r3 ▸ hb)};exact .inr (r3 b hb)
 have A:∀ b,v'.ownBlock=some b->b≠g:=fun b hb=>by rcases q b hb with e | e;{exact (h.own b e).2.1};omega
 refine⟨⟨h.lo,H.set_same (i:=0) _,Kq r1 J (fun b hb e=>A b hb e),fun b hb=>⟨?_,A b hb,bE (rR r1 hb) J.size⟩,fun e=>?_⟩,?_,q⟩
 ·rcases q b hb with e | e;{exact (h.own b e).1};omega
 ·exact absurd (List.append_eq_nil_iff.1 e).2 h0
 ·exact ((r2.mono (fun x _ e=>.inr e):Ad (fun b=>b=g\/v.ownBlock=some b) W w6)).trans' J (fun x O e=>.inl e)
theorem Dx.sameTo(h:Dx z g v Tx W):Eh z g v W (W.setCell g v) v Tx:=by
 have K:=Ad.oneSet W g v;have q:=h.var.set_same (i:=0) v
 exact⟨⟨h.lo,q,Kq h.row K (fun b hb e=>(h.own b hb).2.1 e),fun b hb=>⟨(h.own b hb).1,(h.own b hb).2.1,bE (h.own b hb).2.2 K.size⟩,h.nil⟩,K.mono (fun x _ e=>.inl e),fun b hb=>.inl hb⟩
theorem Dx.same(h:Dx z g v Tx W):Dx z g v Tx (W.setCell g v):=h.sameTo.at'
theorem GJ{T:TypeId}(h:W.ownsRow 0 T sz (.slice a n c) n xs)(h0:n≠0):∃ b,a=some ⟨b,0,none⟩:=by
 obtain⟨_,⟨q,e⟩ |⟨g,A,H,e,_⟩⟩:=h
 ·injection q with _ q _;exact absurd q h0
 ·injection e with e _ _;exact⟨g,e⟩
theorem AP{T:TypeId}(h:W.ownsRow 0 T 1 (.slice (some b) n c) n xs){u:vV}(hj:xs[j]?=some u):W.cell? ⟨b,j,none⟩=some u:=by
 have e:=(bI.1 hj).1;have q:=h.1;rw[h.cellAt j vO,hj]
theorem jvC(h:¬ t.size < 32):Yv (Ba t)=some (Ak t):=by
 rw[GD];unfold Ba;rw[if_neg h];exact IX (Uj _)
theorem L_(h:t.size < 32):Yv (Ba t)=none:=by
 unfold Ba;rw[if_pos h];cases e:Yv t with
 | none=>rfl
 | some x =>have:=(jx8 (y:=t) (h:=x) e).size;omega
theorem MZ{n:Ai}(hs:(Om n).size < 32):Xu (Om n):=by
 by_cases h:∃ d,Gi (Bs d) n
 ·obtain⟨d,H⟩:=h;rw[TF H]at hs ⊢;by_cases h0:n.kind=0;{rw[jss H h0];intro e;obtain⟨o,A,_⟩:=JK ⟨#[]⟩ vI;rw[show Cr Db=Ay ⟨#[]⟩from rfl,A]at e;cases e};intro e;obtain⟨q,A,_⟩:=(Br (d+1)).nohash _ n ⟨H,rfl,hs,h0⟩;rw[e]at A;cases A
 ·rw[jyE h];exact fun _=>rfl
theorem oA(P:PA):Xu (Ba (Bc P)):=by
 by_cases hs:(Bc P).size < 32
 ·unfold Ba;rw[if_pos hs];cases P with| nil=>exact fun _=>rfl| no=>exact MZ hs| leaf q v=>exact MZ hs| ext q n=>exact MZ hs| br v ks=>exact MZ hs
 ·unfold Ba;rw[if_neg hs];intro e;obtain⟨q,A,_⟩:=JO (Ak (Bc P)) (Uj _);rw[A]at e;cases e
theorem qT:(Ba t).size<=33:=by
 unfold Ba;split
 ·omega
 ·exact Nat.le_of_eq (Zr.size ⟨_,Uj t,rfl⟩)
theorem rF{T:TypeId}(h:W.ownsRow 0 T sz (.slice a n c) n xs):n<=c:=by
 obtain⟨_,⟨H,e⟩ |⟨g,q,A,e,J,K,O,X⟩⟩:=h
 ·omega
 ·injection e with _ _ e;omega
theorem jqQ(P:PA)(hT:Ya P)(hz:(Bc P).size < 32)(w0 W:vW)(T:TypeId)(x:vV)(D:Nat->Prop)(g:Nat)(v:vV)(Tx:vM)(hc:Ha w0)(O:Gj w0)(hP:Hm P (.iface T x) D w0)(hE:Af w0 W)(hW:Dx w0 g v Tx W)(hl:Tx.length+Bp P<=100000):vQ 266 #[g,.iface T x] W (Xy w0 g v W (Ba (Bc P)) (Tx++Bu P)):=by
 obtain⟨W1,b4⟩:=vE (W.alloc (.cells #[.slice none 0 0] 239))
 have b6:Af W W1:=by rw[b4];exact (Aa W).alloc _
 have b7:Dx w0 W (.slice none 0 0) [] W1:=⟨hE.size,by rw[b4];exact Ae.new W _,fE _ _ _ _,fun b hb=>(by cases hb),fun _=>rfl⟩;have a0:=hT w0 W1 T x D W (.slice none 0 0) [] hc O hP (hE.trans b6) b7 (by have:([]:vM).length=0:=rfl;omega);rw[cL]at a0;have b0:=Hd a0;clear a0;have c5:=Hd b4;have e0:=c5;have HG:=Hd hW;have X:=Hd (bA b7 (bA b6 hE));have e1:=hc;have b1:=Hd (fun w (e:Af w0 w)=>XD w (Bc P) (hc.ext e));have a3:=Hd (fun w=>JN w (Ba (Bc P)) (kL (qT (Bc P))) (oA P));rw[L_ _ hz]at a3;have c7:Tx.length+(Bu P).length<=100000:=by cases hn:P.isNil with| true=>rw[Py hn];show Tx.length+0<=_;omega| false=>have:=FF P hn;omega
 have c8:=Hd c7
 obtain⟨U,hU⟩:=vE (Bu P)
 obtain⟨t,ht⟩:=vE (Bc P)
 rw[<-ht, <-hU]at b0;rw[<-ht]at b1 a3 ⊢;rw[<-hU]at c8 ⊢;clear hT hz hc O hP hE hW hl b6 b7 c7 hU ht b4 e0 e1;unfold vQ;go_in;go_wp2_with fail
 rw[<-c5.o];refine b0.o.mono ?_;rintro e w2 ⟨rfl,v2,Z⟩;have b8:g≠W.heap.size:=kL HG.o.var.lt
 have b3:=Z.ext0 X.o.1 (X.o.2.2.trans X.o.2.1) (bP _);have c9:Dx w0 g v Tx w2:=(HG.o.ext X.o.2.1).off Z.kp (fun e=>e.elim b8 (fun e=>by cases e)) (fun b hb e=>e.elim (fun e=>kL ((HG.o.own b hb).2.2)) (fun e=>by cases e));have d0:Af W w2:=X.o.2.1.trans' Z.kp (fun x hx e=>e.elim (fun e=>by omega) (fun e=>by cases e));have e8:Hid (∀ b,v2.ownBlock=some b->W.heap.size<=b):=(fun b hb=>(Z.sub b hb).elim (fun e=>by cases e) (fun e=>bF X.o.2.1.size e));have a7:=Hd (bA Z.at' (bA c9 (bA d0 b3)));clear Z c9 d0 b3
 obtain⟨h,hh⟩:=vE W.heap.size
 have e9:=Hd (bA b8 hh);rw[<-hh]at a7 ⊢;clear b8 hh;go_wp2_with fail
 refine vH (b1.o w2 a7.o.2.2.2) fun w3 e2=>?_;go_wp2_with fail
 refine vC (a3.o w3) fun w4 a4=>?_;have a4:=e2.o.trans a4;have q:=Hd (bA (a7.o.1.ext a4) (bA (a7.o.2.1.ext a4) (a7.o.2.2.1.trans a4)));clear a4;unfold Dg;go_wp2_with fail
 obtain⟨i0,d1,e3,e4,e5⟩:=info_parts Bl
 obtain⟨a1,c1,d2⟩:=Ir q.o.2.1.row
 obtain⟨n1,b5⟩:∃ n,n=List.length Tx:=⟨_,rfl⟩
 rw[<-b5]at d2;subst d2;have d3:=Hd b5;have d4:=Hd (show World.ownsRow w4 0 9 1 (.slice a1 n1 c1) n1 (List.map Value.string Tx) by have h9:=q.o.2.1.row;rw[<-b5]at h9;exact h9);have c4:=Hd (rF d4.o);have QG:=Hd (q.o.2.1.var.cell (i:=0) (v:=.slice a1 n1 c1) vF);clear b5
 by_cases hU0:U=[]
 ·have a8:=q.o.1.nil hU0;(subst a8;have QH:=Hd (q.o.1.var.cell (i:=0) (v:=.slice none 0 0) vF);have b9:=Hd hU0;clear hU0;refine Kr [0,1,2,3,4,5,6,7,8,9,10,11,12] [9,12] (Af) Aa Aq vY vY vY ?_;iterate 2 refine vP ?_);refine qA _ (g) rfl (fun w1=>by kernel_rfl) (vS ?_);refine vP ?_;refine qL g _ rfl (fun w1 h1=>Dt (fun w=>by kernel_rfl) (Am QG.o ((Ap _).trans h1))) (vS ?_);refine vP ?_;refine qA _ (h) rfl (fun w1=>by kernel_rfl) (vS ?_);refine vP ?_;refine qL h _ rfl (fun w1 h1=>Dt (fun w=>by kernel_rfl) (Am QH.o ((Ap _).trans h1))) (vS ?_);refine qH _ rfl (fun w5 O K hK=>?_);refine Ra (v:=.slice a1 n1 c1) (w':=w5) (IT (IR (i:=i0) Bd d1 a1 n1 c1 c4.o 0 w5) vY) (hK _ _ ?_);have d5:=Hd ((Ap _).trans O);clear hK K O;refine vS ?_;refine qA _ (g) rfl (fun w1=>by kernel_rfl) (vS ?_);refine vP ?_;(refine qH _ rfl (fun w8 H K hK=>?_);have A:=q.o.2.1.ext (d5.o.trans H);have q8:w8.cell? g=some (.slice a1 n1 c1):=A.var.cell (i:=0) vF;have f8:w8.frozen? g=false:=A.var.frozen;have d6:Dx w0 g (.slice a1 n1 c1) Tx (w8.setCell g (.slice a1 n1 c1)):=A.same;have H8:=Hd (bA d6 (bA (d5.o.trans H) A));clear A d6 H;go_simp;refine hK _ _ ?_;clear hK K q8 f8;refine qE (fun w7 O=>?_);have c0:=Hd O;clear O;go_wp2_with fail);go_ret;rw[b9.o,cB];exact⟨rfl,_,(Eh.refl HG.o (q.o.2.2.trans H8.o.2.1)).trans ((H8.o.2.2.sameTo).ext c0.o)⟩
 ·obtain⟨a2,c2,a8⟩:=Ir q.o.1.row;have a9:=q.o.1.row;obtain⟨n2,c3⟩:∃ n,n=List.length U:=⟨_,rfl⟩;rw[<-c3]at a8 a9;rw[a8]at a9;obtain⟨b2,rfl⟩:=GJ a9 (fun e=>hU0 (bH vO));(subst a8;have e6:=Hd a9;have d7:=Hd c3.symm;have b9:=Hd hU0;have d8:=Hd (show n1+n2<=200000 by have:=c8.o;have:=d3.o;omega);have QH:=Hd (q.o.1.var.cell (i:=0) (v:=.slice (some b2) n2 c2) vF);clear hU0 a9 c3;refine Kr [0,1,2,3,4,5,6,7,8,9,10,11,12] [9,12] (Af) Aa Aq vY vY vY ?_;iterate 2 refine vP ?_);refine qA _ (g) rfl (fun w1=>by kernel_rfl) (vS ?_);refine vP ?_;refine qL g _ rfl (fun w1 h1=>Dt (fun w=>by kernel_rfl) (Am QG.o ((Ap _).trans h1))) (vS ?_);refine vP ?_;refine qA _ (h) rfl (fun w1=>by kernel_rfl) (vS ?_);refine vP ?_;refine qL h _ rfl (fun w1 h1=>Dt (fun w=>by kernel_rfl) (Am QH.o ((Ap _).trans h1))) (vS ?_);refine qH _ rfl (fun w5 O K hK=>?_);have J:=(Ap _).trans O;refine LX w5 (.tmp 37) (.tmp 41) 52 rfl 9 i0 _ 1 16 Bd d1 e3 e4 e5 rfl vI (.slice a1 n1 c1) n1 _ rfl (Jy d4.o J) b2 n2 c2 (U.map Value.string) rfl (by rw[bU,d7.o,Nat.mul_one]) (fun j u hj=>by rw[Addr.add_lit,bX];exact (AP (Jy e6.o J) hj)) (by intro u hu;obtain⟨y,_,rfl⟩:=bC.1 hu;rfl) (by have:=d8.o;unfold maxLen;omega) (kL d8.o) ?_;intro v' w6 r1 r2 r3;have HA:=Hd (bA J (bA r1 (bA r2 r3)));obtain⟨a',c',e7⟩:=Ir r1;subst e7;refine hK _ _ ?_;clear hK K O J r1 r2 r3;refine vS ?_;refine qA _ (g) rfl (fun w1=>by kernel_rfl) (vS ?_);refine vP ?_;refine qH _ rfl (fun w8 H K hK=>?_);obtain⟨J,r1,r2,r3⟩:=HA.o;(have a5:=q.o.2.1.ext J;have d9:w0.heap.size<=w5.heap.size:=bF a5.lo (Nat.le_of_lt a5.var.lt);have hp:=a5.push (n:=n1+n2) (by rw[bK, <-d3.o,d7.o]) (by rw[bW];exact Jy r1 H) (r2.trans (H.mono kZ)) r3 d9 b9.o;have A:=(a5.var.keeps r2 (fun e=>(a5.own g e).2.1 rfl)).keeps H kI;have q8:w8.cell? g=some (.slice a1 n1 c1):=A.cell (i:=0) vF;have f8:w8.frozen? g=false:=A.frozen;have H8:=Hd (bA hp J);clear J r1 r2 r3 a5 d9 hp A H;go_simp;refine hK _ _ ?_;clear hK K q8 f8;refine qE (fun w7 O=>?_);have c0:=Hd O;clear O;go_wp2_with fail);go_ret;exact⟨rfl,_,((Eh.refl HG.o (q.o.2.2.trans H8.o.2)).trans H8.o.1).ext c0.o⟩
theorem jwK(P:PA)(hT:Ya P)(hz:¬(Bc P).size < 32)(w0 W:vW)(T:TypeId)(x:vV)(D:Nat->Prop)(g:Nat)(v:vV)(Tx:vM)(hc:Ha w0)(O:Gj w0)(hP:Hm P (.iface T x) D w0)(hE:Af w0 W)(hW:Dx w0 g v Tx W)(hl:Tx.length+Bp P<=100000) :
  vQ 266 #[g,.iface T x] W (Xy w0 g v W (Ba (Bc P)) (Tx++(Bc P :: Bu P))):=by
 obtain⟨W1,c3⟩:=vE (W.alloc (.cells #[.slice none 0 0] 239))
 have d0:Af W W1:=by rw[c3];exact (Aa W).alloc _
 have d1:Dx w0 W (.slice none 0 0) [] W1:=⟨hE.size,by rw[c3];exact Ae.new W _,fE _ _ _ _,fun b hb=>(by cases hb),fun _=>rfl⟩;have a3:=hT w0 W1 T x D W (.slice none 0 0) [] hc O hP (hE.trans d0) d1 (by have:([]:vM).length=0:=rfl;omega);rw[cL]at a3;have b5:=Hd a3;clear a3;have e0:=Hd c3;have f9:=e0;have HG:=Hd hW;have X:=Hd (bA d1 (bA d0 hE));have g0:=hc;have b6:=Hd (fun w (e:Af w0 w)=>XD w (Bc P) (hc.ext e));have a4:=Hd (fun w=>JN w (Ba (Bc P)) (by have:=qT (Bc P);omega) (oA P));rw[jvC _ hz]at a4;have e1:Tx.length+(Bu P).length<=100000:=by cases hn:P.isNil with| true=>rw[Py hn];show Tx.length+0<=_;omega| false=>have:=FF P hn;omega
 have d2:=Hd e1
 obtain⟨U,hU⟩:=vE (Bu P)
 obtain⟨t,ht⟩:=vE (Bc P)
 rw[<-ht, <-hU]at b5;rw[<-ht]at b6 a4 ⊢;rw[<-hU]at d2 ⊢;clear hT hz hc O hP hE hW hl d0 d1 e1 hU ht c3 f9 g0;unfold vQ;go_in;go_wp2_with fail
 rw[<-e0.o];refine b5.o.mono ?_;rintro e w2 ⟨rfl,v2,Z⟩;have d3:g≠W.heap.size:=by have:=HG.o.var.lt;omega
 have b7:=Z.ext0 X.o.1 (X.o.2.2.trans X.o.2.1) (bP _);have e2:Dx w0 g v Tx w2:=(HG.o.ext X.o.2.1).off Z.kp (fun e=>e.elim d3 (fun e=>by cases e)) (fun b hb e=>e.elim (fun e=>by have:=(HG.o.own b hb).2.2;omega) (fun e=>by cases e));have e3:Af W w2:=X.o.2.1.trans' Z.kp (fun x hx e=>e.elim (fun e=>by omega) (fun e=>by cases e));have d8:Hid (∀ b,v2.ownBlock=some b->W.heap.size<=b):=(fun b hb=>(Z.sub b hb).elim (fun e=>by cases e) (fun e=>bF X.o.2.1.size e));have a8:=Hd (bA Z.at' (bA e2 (bA e3 b7)));clear Z e2 e3 b7
 obtain⟨h,hh⟩:=vE W.heap.size
 have e4:=Hd (bA d3 hh);rw[<-hh]at a8 ⊢;clear d3 hh;go_wp2_with fail
 refine vH (b6.o w2 a8.o.2.2.2) fun w3 g2=>?_;go_wp2_with fail
 refine vC (a4.o w3) fun w4 a5=>?_;have a5:=g2.o.trans a5;have q:=Hd (bA (a8.o.1.ext a5) (bA (a8.o.2.1.ext a5) (a8.o.2.2.1.trans a5)));clear a5;unfold Dg
 obtain⟨i0,a9,c4,c5,c7⟩:=info_parts Bl
 have b0:=q.o.2.1
 obtain⟨a0,c0,g3⟩:=Ir b0.row
 have q4:=b0.var.cell (i:=0) (v:=v) vF;have e5:=Hd (show Tx.length<=100000 by have:=d2.o;omega);have g4:=Hd b0.row;have b1:=Hd b0;clear b0;subst g3;go_wp2_with (at_builtin;refine EX _ rfl (.tmp 27) (.tmp 29) 52 rfl 9 i0 _ 1 16 Bd a9 c4 c5 c7 rfl vI (.slice a0 Tx.length c0) Tx.length _ rfl (Jy g4.o ((Aa w4).alloc _)) w4 1 1 [t] rfl rfl (Jx (Ae.new w4 _)) (by simp[Value.oneCell']) (by have:=e5.o;unfold maxLen;omega) (by have:=e5.o;omega) ?_;intro v' w6 r1 r2 r3;obtain⟨e6,e7,rfl⟩:=Ir r1;have g5:=b1.o.var.lt;have d4:=(b1.o.var.alloc (.cells #[t] 9)).keeps r2 (fun e=>(b1.o.own g e).2.1 rfl);have g6:w6.cell? g=some (.slice a0 Tx.length c0):=d4.cell (i:=0) vF;have g7:w6.frozen? g=false:=d4.frozen)
 obtain⟨wS,e8⟩:=vE (w6.setCell g (.slice e6 (Tx.length+1) e7))
 have b8:=b1.o.ext ((Aa w4).alloc (.cells #[t] 9));have hp:=b8.push (n:=Tx.length+1) (New:=[t]) (by simp) (by rw[bW];exact r1) r2 r3 (by have:=b1.o.lo;rw[bG];omega) (by simp);rw[<-e8]at hp ⊢;have hp:=Eh.ahead ((Aa w4).alloc (.cells #[t] 9)) hp;have e9:=q.o.1.off hp.kp (fun e=>e.elim (fun e=>by have:=HG.o.var.lt;have:=e4.o.2;omega) (fun e=>by have:=(HG.o.own h e).2.2;have:=e4.o.2;omega)) (fun b hb e=>by have h1:=d8.o b hb;rcases e with e | e;{have:=HG.o.var.lt;omega};have:=(HG.o.own b e).2.2;omega)
 have b9:Eh w0 g (.slice a0 Tx.length c0) W wS (.slice e6 (Tx.length+1) e7) (Tx++[t]):=(Eh.refl HG.o q.o.2.2).trans hp;have c8:∃ v1,Dx w0 h v2 U wS/\Dx w0 g v1 (Tx++[t]) wS/\Eh w0 g (.slice a0 Tx.length c0) W wS v1 (Tx++[t]):=⟨_,e9,hp.at',b9⟩
 obtain⟨v1,c8⟩:=c8
 clear q hp b8 e8 e9 b9 g6 g7 d4 r1 r2 r3 g5 q4;have q:=Hd c8;clear c8 a9 c4 c5 c7
 obtain⟨i0,a9,c4,c5,c7⟩:=info_parts Bl
 obtain⟨a1,c1,f0⟩:=Ir q.o.2.1.row
 obtain⟨n1,c9⟩:∃ n,n=List.length (Tx++[t]):=⟨_,rfl⟩
 rw[<-c9]at f0;subst f0;have f1:=Hd c9;have f2:=Hd (show World.ownsRow wS 0 9 1 (.slice a1 n1 c1) n1 (List.map Value.string (Tx++[t])) by have h9:=q.o.2.1.row;rw[<-c9]at h9;exact h9);have d9:=Hd (rF f2.o);have QG:=Hd (q.o.2.1.var.cell (i:=0) (v:=.slice a1 n1 c1) vF);clear c9
 by_cases hU0:U=[]
 ·have b3:=q.o.1.nil hU0;(subst b3;have QH:=Hd (q.o.1.var.cell (i:=0) (v:=.slice none 0 0) vF);have d5:=Hd hU0;clear hU0;refine Kr [0,1,2,3,4,5,6,7,8,9,10,11,12] [9,12] (Af) Aa Aq vY vY vY ?_;iterate 2 refine vP ?_);refine qA _ (g) rfl (fun w1=>by kernel_rfl) ?_;refine vS ?_;refine vP ?_;refine qL g _ rfl (fun w1 h1=>Dt (fun w=>by kernel_rfl) (Am QG.o ((Ap _).trans h1))) ?_;refine vS ?_;refine vP ?_;refine qA _ (h) rfl (fun w1=>by kernel_rfl) ?_;refine vS ?_;refine vP ?_;refine qL h _ rfl (fun w1 h1=>Dt (fun w=>by kernel_rfl) (Am QH.o ((Ap _).trans h1))) ?_;refine vS ?_;refine qH _ rfl (fun w5 O K hK=>?_);refine Ra (v:=.slice a1 n1 c1) (w':=w5) (IT (IR (i:=i0) Bd a9 a1 n1 c1 d9.o 0 w5) vY) (hK _ _ ?_);have f3:=Hd ((Ap _).trans O);clear hK K O;refine vS ?_;refine qA _ (g) rfl (fun w1=>by kernel_rfl) ?_;refine vS ?_;refine vP ?_;(refine qH _ rfl (fun w8 H K hK=>?_);have A:=q.o.2.1.ext (f3.o.trans H);have q8:w8.cell? g=some (.slice a1 n1 c1):=A.var.cell (i:=0) vF;have f8:w8.frozen? g=false:=A.var.frozen;have f4:Dx w0 g (.slice a1 n1 c1) (Tx++[t]) (w8.setCell g (.slice a1 n1 c1)):=A.same;have H8:=Hd (bA f4 (bA (f3.o.trans H) A));clear A f4 H;go_simp;refine hK _ _ ?_;clear hK K q8 f8;refine qE (fun w7 O=>?_);have d6:=Hd O;clear O;go_wp2_with fail);go_ret;rw[d5.o];exact⟨rfl,_,(q.o.2.2.ext H8.o.2.1).trans ((H8.o.2.2.sameTo).ext d6.o)⟩
 ·obtain⟨a2,c2,b3⟩:=Ir q.o.1.row;have b4:=q.o.1.row;obtain⟨n2,d7⟩:∃ n,n=List.length U:=⟨_,rfl⟩;rw[<-d7]at b3 b4;rw[b3]at b4;obtain⟨b2,rfl⟩:=GJ b4 (fun e=>hU0 (bH vO));(subst b3;have g8:=Hd b4;have f5:=Hd d7.symm;have d5:=Hd hU0;have f6:=Hd (show n1+n2<=200000 by have:=d2.o;have h9:=f1.o;rw[bK,List.length_singleton]at h9;omega);have QH:=Hd (q.o.1.var.cell (i:=0) (v:=.slice (some b2) n2 c2) vF);clear hU0 b4 d7;refine Kr [0,1,2,3,4,5,6,7,8,9,10,11,12] [9,12] (Af) Aa Aq vY vY vY ?_;iterate 2 refine vP ?_);refine qA _ (g) rfl (fun w1=>by kernel_rfl) ?_;refine vS ?_;refine vP ?_;refine qL g _ rfl (fun w1 h1=>Dt (fun w=>by kernel_rfl) (Am QG.o ((Ap _).trans h1))) ?_;refine vS ?_;refine vP ?_;refine qA _ (h) rfl (fun w1=>by kernel_rfl) ?_;refine vS ?_;refine vP ?_;refine qL h _ rfl (fun w1 h1=>Dt (fun w=>by kernel_rfl) (Am QH.o ((Ap _).trans h1))) ?_;refine vS ?_;refine qH _ rfl (fun w5 O K hK=>?_);have J:=(Ap _).trans O;refine LX w5 (.tmp 37) (.tmp 41) 52 rfl 9 i0 _ 1 16 Bd a9 c4 c5 c7 rfl vI (.slice a1 n1 c1) n1 _ rfl (Jy f2.o J) b2 n2 c2 (U.map Value.string) rfl (by rw[bU,f5.o,Nat.mul_one]) (fun j u hj=>by rw[Addr.add_lit,bX];exact (AP (Jy g8.o J) hj)) (by intro u hu;obtain⟨y,_,rfl⟩:=bC.1 hu;rfl) (by have:=f6.o;unfold maxLen;omega) (by have:=f6.o;omega) ?_;intro v' w6 r1 r2 r3;have HA:=Hd (bA J (bA r1 (bA r2 r3)));obtain⟨a',c',g9⟩:=Ir r1;subst g9;refine hK _ _ ?_;clear hK K O J r1 r2 r3;refine vS ?_;refine qA _ (g) rfl (fun w1=>by kernel_rfl) ?_;refine vS ?_;refine vP ?_;refine qH _ rfl (fun w8 H K hK=>?_);obtain⟨J,r1,r2,r3⟩:=HA.o;(have a7:=q.o.2.1.ext J;have f7:w0.heap.size<=w5.heap.size:=bF a7.lo (Nat.le_of_lt a7.var.lt);have hp:=a7.push (n:=n1+n2) (by rw[bK, <-f1.o,f5.o]) (by rw[bW];exact Jy r1 H) (r2.trans (H.mono (fun _ _ e=>e.elim))) r3 f7 d5.o;have A:=(a7.var.keeps r2 (fun e=>(a7.own g e).2.1 rfl)).keeps H (fun e=>e);have q8:w8.cell? g=some (.slice a1 n1 c1):=A.cell (i:=0) vF;have f8:w8.frozen? g=false:=A.frozen;have H8:=Hd (bA hp J);clear J r1 r2 r3 a7 f7 hp A H;go_simp;refine hK _ _ ?_;clear hK K q8 f8;refine qE (fun w7 O=>?_);have d6:=Hd O;clear O;go_wp2_with fail);go_ret;rw[show Tx++t :: U=Tx++[t]++U by rw[bZ];rfl];exact⟨rfl,_,((q.o.2.2.ext H8.o.2).trans H8.o.1).ext d6.o⟩
theorem sQ(P:PA)(hT:Ya P):XB P:=by
 intro w0 W T x D g v e q A H J K O;unfold Iq
 by_cases hz:(Bc P).size < 32
 ·rw[if_pos hz];exact jqQ P hT hz w0 W T x D g v e q A H J K O
 ·rw[if_neg hz];exact jwK P hT hz w0 W T x D g v e q A H J K O
theorem j_(k:Int)(p v r r':vB):(Uk k p v r).toArray.setIfInBounds 3 r'=(Uk k p v r').toArray:=by simp[Uk]
theorem jxV(W:vW)(q:vB)(n:PA)(T:TypeId)(x:vV)(Dn:Nat->Prop)(b:Nat)(hB:Ae w0 b (.cells #[q,.iface T x] 381))(hv:Hm n (.iface T x) Dn w0)(hR:XB n)(g:Nat)(v:vV)(Tx:vM)(hc:Ha w0)(he:Gj w0)(hE:Af w0 W)(hW:Dx w0 g v Tx W)(hl:Tx.length+Bp n<=100000):vQ 294 #[b,g] W (Xy w0 g v W (Ai.V ⟨2,q,⟨#[]⟩,Ba (Bc n) :: Cv 15⟩) (Tx++(Iq (Bc n)++Bu n))):=by
 have Q0:=Hd (hB.cell (i:=0) (v:=.string q) vF);have Q1:=Hd (hB.cell (i:=1) (v:=.iface T x) vF);have HW:=Hd (bA hW hE);have a0:=Hd (fun w (e:Af w0 w) (k:Dx w0 g v Tx w)=>hR w0 w T x Dn g v Tx hc he hv e k hl)
 obtain⟨t,ht⟩:=vE (Ba (Bc n))
 obtain⟨U,hU⟩:=vE (Tx++(Iq (Bc n)++Bu n))
 rw[<-ht, <-hU]at a0;rw[<-ht, <-hU];clear hB hv hR hc he hE hW hl ht hU;unfold vQ;go_in;go_wp2_with (first |(refine Di (w:=W) Ac rfl rfl ?_;intro A b3 a4;have b4:=Hd b3;have b5:=Hd a4;have q0:=Am Q0.o (HW.o.2.trans a4);clear b3 a4) |(refine Di (w:=A) Ac rfl rfl ?_;intro W2 b6 a5) |(refine Bv (vs:=Uk 2 q ⟨#[]⟩ ⟨#[]⟩) rfl rfl rfl rfl b6 rfl Ab (BY _ _ _ _) ?_;intro W3 a7 a8;have q1:=Am (Am Q1.o (HW.o.2.trans b5.o)) (a5.trans' a8 kJ)))
 have J:Af A W3:=a5.trans' a8 kJ;have K:=Hd (bA a7 (bA (b4.o.keeps J kI) (b5.o.trans J)));have b7:=b4.o.lt;have HN:=Hd (show W.heap.size < A.heap.size/\A.heap.size < W3.heap.size from⟨b7,a7.lt⟩);clear b6 a5 a7 a8 J b7;refine (a0.o W3 (HW.o.2.trans K.o.2.2) (HW.o.1.ext K.o.2.2)).mono ?_;rintro e w4 ⟨rfl,v4,H⟩;have c1:=HW.o.1.var.lt;have a9:A.heap.size≠g:=kL HN.o.1
 have b0:v.ownBlock≠some A.heap.size:=fun e=>by have:=(HW.o.1.own _ e).2.2;have:=HN.o.1;omega
 have O:=H.blk K.o.1 a9 b0;have a1:=H.blk K.o.2.1 vO (fun e=>kL ((HW.o.1.own _ e).2.2));have qf:w4.cell? ⟨A.heap.size,3,none⟩=some (.string ⟨#[]⟩):=O.cellL (i:=3) vF;have ff:w4.frozen? ⟨A.heap.size,3,none⟩=false:=O.frozen
 obtain⟨W5,X⟩:=vE (w4.setCell ⟨A.heap.size,3,none⟩ t)
 have c2:Ae W5 A (.cells (Uk 2 q ⟨#[]⟩ t).toArray 215):=by have:=O.set_same (i:=3) t;rw[j_]at this;rw[X];exact this
 have b1:Ad (fun z=>z=A.heap.size) w4 W5:=by rw[X];exact Ad.oneSet w4 ⟨A.heap.size,3,none⟩ t
 have a2:Ae W5 W (.cells Db.cells.toArray 215):=a1.keeps b1 (fun e=>by have:=HN.o.1;have e:W.heap.size=A.heap.size:=e;omega);have b8:v4.ownBlock≠some A.heap.size:=fun e=>by rcases H.sub _ e with e | e;{exact b0 e};have:=HN.o.2;omega
 have b9:=(Eh.ahead K.o.2.2 H).fill b1 a9 b8 (kL HN.o.1);have a3:v4.ownBlock≠some W.heap.size:=fun e=>by rcases H.sub _ e with e | e;{have:=(HW.o.1.own _ e).2.2;omega};have:=HN.o.1;have:=HN.o.2;omega
 have Z:=Hd (bA b9 (bA a2 (bA a3 (show W.heap.size≠g by omega))));have b2:=Hd X;clear H c1 a9 b0 O a1 b1 b8 b9 a3 X a2 q0 q1;have c3:Ae (w4.setCell ⟨A.heap.size,3,none⟩ t) A (.cells (Ai.cells ⟨2,q,⟨#[]⟩,t :: Cv 15⟩).toArray 215):=by rw[<-b2.o];exact c2
 have c4:Ae (w4.setCell ⟨A.heap.size,3,none⟩ t) W (.cells Db.cells.toArray 215):=by rw[<-b2.o];exact Z.o.2.1
 go_wp2_with (refine Gv 215 (.tmp 5) rfl rfl _ _ rfl (Jq _ _ ⟨2,q,⟨#[]⟩,t :: Cv 15⟩ rfl c3) ?_;refine Bv (vs:=Ai.cells ⟨2,q,⟨#[]⟩,t :: Cv 15⟩) rfl rfl rfl rfl c4 rfl Ab (Ai.one _) ?_;intro W8 c5 c0)
 rw[<-b2.o]at c0;refine bodyPost_ret (Zd rfl rfl (Pm W8 _ ⟨2,q,⟨#[]⟩,t :: Cv 15⟩ rfl c5)) rfl ?_
 exact⟨rfl,v4,Z.o.1.fill c0 Z.o.2.2.2 Z.o.2.2.1 (bP _)⟩
def Ug(u:vB)(rs:vM)(k:Nat):Ai:=⟨3,⟨#[]⟩,u,rs.take k++Cv (16 - k)⟩
theorem jxC(h:rs.length=16)(hk:k < 16)(r:vB)(hr:rs[k]?=some r):(Ug u rs k).cells.set (3+k) r=(Ug u rs (k+1)).cells:=by
 have e:(rs.take k++Cv (16 - k)).set k r=rs.take (k+1)++Cv (16 - (k+1)):=by rw[dR _ _ (by simp[h];omega)];(have:k - (rs.take k).length=0:=by simp[h];omega);rw[this,show 16 - k=(16 - (k+1))+1 by omega];unfold Cv;rw[dV,dJ,cA,hr];simp
 unfold Ai.cells Ug;simp only;rw[show 3+k=k+1+1+1 by omega,dE,dE,dE, <-e,gO]
theorem juE(h:rs.length=16)(hk:k < 16)(hr:rs[k]?=some ⟨#[]⟩):Ug u rs (k+1)=Ug u rs k:=by
 unfold Ug;rw[cA,hr,show 16 - k=(16 - (k+1))+1 by omega];unfold Cv;rw[dV];simp
theorem jxB(h:rs.length=16)(hk:k<=16):(Ug u rs k).refs.length=16:=by
 unfold Ug Cv;simp[h];omega
theorem wX(rs:vM):(Ug u rs 0).cells=Uk 3 ⟨#[]⟩ u ⟨#[]⟩:=rfl
theorem jzY(h:rs.length=16):Ug u rs 16=⟨3,⟨#[]⟩,u,rs⟩:=by
 unfold Ug Cv;rw[cF vO];simp
noncomputable def Im(ks:Nat->PA)(k:Nat):vM:=(List.range k).flatMap fun i=>if (ks i).isNil then []else Iq (Bc (ks i))++Bu (ks i)
theorem F_(k:Nat):Im ks (k+1)=Im ks k++(if (ks k).isNil then []else Iq (Bc (ks k))++Bu (ks k)):=by
 unfold Im;rw[gG,dW]
 simp
theorem jqO(k:Nat):(Im ks k).length<=Cb (fun i=>Bp (ks i)) k:=JV _ _ (fun i=>by
 show (if (ks i).isNil=true then ([]:vM)else Iq (Bc (ks i))++Bu (ks i)).length<=Bp (ks i);cases hn:(ks i).isNil with
 | true=>rw[if_pos rfl];exact cE _
 | false =>
  rw[if_neg ff,bK];have e:=UR (Bc (ks i))
  have:=FF (ks i) hn
  omega) k
noncomputable def Ip(ks:Nat->PA):vM:=(List.range 16).map fun i=>if (ks i).isNil then ⟨#[]⟩else Ba (Bc (ks i))
theorem CG:(Ip ks).length=16:=by unfold Ip;simp
theorem jwj(hk:k < 16):(Ip ks)[k]?=some (if (ks k).isNil then ⟨#[]⟩else Ba (Bc (ks k))):=by
 unfold Ip;rw[bY,fI hk];rfl
def xW(z g:Nat)(v:vV)(W:vW)(L:Nat)(u:vB)(rs:vM)(Tx:vM)(ks:Nat->PA)(iv:vV)(wr:vW):Prop:=
 ∃ k:Nat,k<=16/\iv=.int .i64 k/\∃ v',Eh z g v W wr v' (Tx++Im ks k)/\Ae wr L (.cells (Ug u rs k).cells.toArray 215)/\Ae wr W (.cells Db.cells.toArray 215)/\v'.ownBlock≠some L/\v'.ownBlock≠some W.heap.size
theorem jxD(W:vW)(u:vB)(ks:Nat->PA)(b:Nat)(vk:Nat->vV)(Dk:Nat->Nat->Prop)(hb:Vm u ks b vk Dk w0)(hR:∀ i,i < 16->(ks i).isNil=false->XB (ks i))(g:Nat)(v:vV)(Tx:vM)(hc:Ha w0)(he:Gj w0)(hE:Af w0 W)(hW:Dx w0 g v Tx W)(hl:Tx.length+(1+Cb (fun i=>Bp (ks i)) 16)<=100000):vQ 298 #[b,g] W (Xy w0 g v W (Ai.V ⟨3,⟨#[]⟩,u,Ip ks⟩) (Tx++Im ks 16)):=by
 have q0:=Am (hb.blk.cellL (i:=0) (v:=.string u) vF) hE;have HB:=Hd hb;have HW:=Hd (bA hW hE);have b3:=Hd (fun(k:Nat) (hk:k < 16) (hn:(ks k).isNil=false) (T:TypeId) (x:vV) (hx:vk k=.iface T x) (w:vW) (v':vV) (e:Af w0 w) (h:Dx w0 g v' (Tx++Im ks k) w)=>hR k hk hn w0 w T x (Dk k) g v' (Tx++Im ks k) hc he (hx ▸ hb.kid k hk) e h (by have h1:=jqO ks k;have h2:=FO (fun i=>Bp (ks i)) (k+1) (15 - k);rw[show k+1+(15 - k)=16 by omega]at h2;have h3:Cb (fun i=>Bp (ks i)) k+Bp (ks k)<=Cb (fun i=>Bp (ks i)) 16:=h2;rw[bK];omega))
 have d6:=OG;clear hR hc he hl;clear hb hW hE;unfold vQ;go_in;go_wp2_with (first |(refine Di (w:=W) Ac rfl rfl ?_;intro W1 b4 a3;have a4:=Hd b4;have a5:=Hd a3;have q1:=Am q0 a3;clear b4 a3) |(refine Di (w:=W1) Ac rfl rfl ?_;intro W2 b5 b6) |(refine Bv (vs:=Uk 3 ⟨#[]⟩ u ⟨#[]⟩) rfl rfl rfl rfl b5 rfl Ab (BY _ _ _ _) ?_;intro W3 a7 b7;have K:Af W1 W3:=b6.trans' b7 kJ;have b8:=Xe (HB.o.blk.keeps ((HW.o.2.trans a5.o).trans K) kI)) |(refine Gv 383 (.tmp 15) rfl rfl _ _ rfl b8 ?_))
 have Z:=Hd (bA a7 (bA (a4.o.keeps K kI) (a5.o.trans K)));have q:=a4.o.lt;have HN:=Hd (show W.heap.size < W1.heap.size/\W1.heap.size < W3.heap.size from⟨q,a7.lt⟩);clear b5 b6 a7 b7 K q b8 q0 q1
 obtain⟨L,hL⟩:=vE W1.heap.size
 rw[<-hL]at Z HN ⊢;clear hL a4 a5;have HG:=Hd HW.o.1.var.lt;go_loopw [17] (fun iv wr=>xW w0 g v W L u (Ip ks) Tx ks iv wr) (fun iv _=>16 - (intOf iv).toNat)
 case atStart =>have:=HN.o;exact⟨0,by omega,rfl,v,by rw[show Im ks 0=[]from rfl,cB];exact Eh.refl HW.o.1 Z.o.2.2,by rw[wX];exact Z.o.1,Z.o.2.1,fun e=>kL ((HW.o.1.own _ e).2.2),fun e=>kL ((HW.o.1.own _ e).2.2)⟩
 case round =>obtain⟨k,hk,rfl,v1,hT,b9,c0,c1,c2⟩:=hrel;have A:=Hd (bA hT (bA b9 (bA c0 (bA c1 c2))));clear hT b9 c0 c1 c2;by_cases q:k < 16;{have c3:=BB vk q;have O:=F_ ks k;have H:=jwj ks q;rcases (HB.o.kid k q).at'.kid with⟨hn,hv⟩ |⟨hn,T,x,hv⟩;{rw[hn,if_pos rfl,cB]at O;rw[hn,if_pos rfl]at H;rw[hv]at c3;have c9:=Hd O;have d0:=Hd (juE u (CG ks) q H);clear O hn hv H;go_wp2;go_roundw;(case rel=>exact⟨k+1,by omega,by go_num,v1,by rw[c9.o];exact A.o.1,by rw[d0.o];exact A.o.2.1,A.o.2.2.1,A.o.2.2.2⟩);case measure=>exact vJ};rw[hn,if_neg ff]at O;rw[hn,if_neg ff]at H;rw[hv]at c3;have hq:=AS T x;have J:=Hd (b3.o k q hn T x hv wr v1 (A.o.1.ext0 HW.o.1 HW.o.2 (bP _)) A.o.1.at');rw[bZ, <-O]at J;obtain⟨r,hr⟩:=vE (Ba (Bc (ks k)));rw[<-hr]at H J;have d1:=Hd H;clear O hn hv H hr;have b2:(k:Int) < 16:=vO;(go_wp2_with fail);(refine J.o.mono ?_;rintro e w4 ⟨rfl,v4,X⟩;have a8:L≠g:=by have:=HN.o.1;have:=HG.o;omega);have c4:W.heap.size≠g:=kL HG.o;(have a2:=X.blk A.o.2.1 a8 A.o.2.2.2.1;have a0:=X.blk A.o.2.2.1 c4 A.o.2.2.2.2;have a9:∀ y,y < wr.heap.size->v1.ownBlock≠some y->v4.ownBlock≠some y:=fun y hy h1 e=>by rcases X.sub y e with e | e;{exact h1 e};omega);have b0:=a9 L A.o.2.1.lt A.o.2.2.2.1;have c5:=a9 W A.o.2.2.1.lt A.o.2.2.2.2;have d2:(Ug u (Ip ks) k).cells.length=19:=Ai.cells_len _ (jxB u (CG ks) hk);obtain⟨old,qf⟩:∃ v,w4.cell? ⟨L,3+k,none⟩=some v:=⟨_,a2.cellL (bB vO)⟩;(have d7:w4.frozen? ⟨L,3+k,none⟩=false:=a2.frozen;have b1:=a2.set_same (i:=3+k) r;rw[show (Ug u (Ip ks) k).cells.toArray.setIfInBounds (3+k) r=((Ug u (Ip ks) k).cells.set (3+k) r).toArray by simp,jxC u (CG ks) q r d1.o]at b1;have K5:Ad (fun z=>z=L) w4 (w4.setCell ⟨L,3+k,none⟩ r):=Ad.oneSet w4 ⟨L,3+k,none⟩ r;have a1:=a0.keeps K5 (fun e=>by have e:W.heap.size=L:=e;have:=HN.o.1;omega);have c7:=(A.o.1.trans X).fill K5 a8 b0 (kL HN.o.1);have H5:=Hd (bA c7 (bA b1 (bA a1 (bA b0 c5))));clear X a8 c4 a2 a0 a9 b0 c5 d2 b1 K5 a1 c7;go_wp2_with fail);go_roundw;(case rel=>exact⟨k+1,by omega,by go_num,v4,H5.o⟩);case measure=>exact vJ};obtain rfl:k=16:=vO;(have c8:=A.o.2.1;rw[jzY u (CG ks)]at c8;have d3:=A.o.2.2.1;go_wp2_with (refine Gv 215 (.tmp 5) rfl rfl _ _ rfl (Jq _ _ ⟨3,⟨#[]⟩,u,Ip ks⟩ (CG ks) c8) ?_;refine Bv (vs:=Ai.cells ⟨3,⟨#[]⟩,u,Ip ks⟩) rfl rfl rfl rfl d3 (by rw[Ai.cells_len _ (CG ks)];rfl) (by rw[Ai.cells_len _ (CG ks)];exact Ab) (Ai.one _) ?_;intro W8 d4 d5));refine bodyPost_ret (Zd rfl rfl (Pm W8 _ ⟨3,⟨#[]⟩,u,Ip ks⟩ (CG ks) d4)) rfl ?_;exact⟨rfl,v1,A.o.1.fill d5 (kL HG.o) A.o.2.2.2.2 (bP _)⟩
end
section
open Go Go.RowKit
theorem UM:∀ (P:PA),Rx P->tB P
 | .nil=>fun _ w0 W T x D g v A O X h J H K=>by cases h.at'
 | .no=>fun _ w0 W T x D g v A O X h J H K=>by
  have e:Value.iface T x=Mi:=h.at';unfold Mi at e;injection e with e1 e2;subst e1 e2;show Calls _ _ _ W (Xy w0 g v W Db.V (A++[]));rw[cB];exact jv3 _ g v A W H
 | .leaf q u=>fun _ w0 W T x D g v A O X h J H K=>by
  obtain⟨b,e,h1,Z⟩:=h.at'
  unfold Zx at e;injection e with e1 e2;subst e1 e2;show Calls _ _ _ W (Xy w0 g v W (Ai.V ⟨1,q,u,Cv 16⟩) (A++[]));rw[cB];exact jyg w0 _ g v A W J q u b Z H
 | .ext q m=>fun hp w0 W T x D g v A O X h J H K=>by
  obtain⟨b,T',x',Dn,e,h1,Z,h3,h4,h5⟩:=h.at'
  unfold Nb at e;injection e with e1 e2;subst e1 e2;have K:A.length+(1+Bp m)<=100000:=K;have hn:m.isNil=false:=by
   cases m with
   | nil=>cases h3
   | _=>rfl
  exact jxV w0 W q m T' x' Dn b Z ⟨h3,fun z hz=>h.lt z (h5 z hz)⟩ (sQ m (WU m hn hp.2 (UM m hp.2))) g v A O X J H vO
 | .br u ks=>fun hp w0 W T x D g v A O X h J H K=>by
  obtain⟨b,vk,Dk,e,h1,Z,h3,h4⟩:=h.at'
  unfold Gm at e;injection e with e1 e2;subst e1 e2;have hb:Vm u ks b vk Dk w0:=⟨Z,fun i hi=>⟨(h3 i hi).1,fun z hz=>h.lt z ((h3 i hi).2.2 z hz)⟩⟩;exact jxD w0 W u ks b vk Dk hb (fun i _ hn=>sQ (ks i) (WU (ks i) hn (hp.2 i) (UM (ks i) (hp.2 i)))) g v A O X J H K
theorem kX:∀ (f:Nat) (l:vL),Eu f l->Rx (Da (f+1) l):=by
 intro f;induction f with
 | zero =>intro l h;have K:=Wi h;have q:=(good 0 l h).1;have A:=(MQ 0 l h).1;rw[<-A]at q;have e:=lD q;by_cases h0:l.length=0;{rw[Th _ h0]at e ⊢;exact e};rw[Um _ vO]at e ⊢;exact e
 | succ f ih =>intro l h;have q:=(good (f+1) l h).1;have A:=(MQ (f+1) l h).1;rw[<-A]at q;have e:=lD q;by_cases h0:l.length=0;{rw[Th _ h0]at e ⊢;exact e};by_cases h1:l.length=1;{rw[Um _ h1]at e ⊢;exact e};have H:2<=l.length:=vO;by_cases hk:0 < Aj l;{obtain⟨J,O,_,_⟩:=DZ h H hk;rw[AU _ H hk]at e ⊢;exact⟨e,ih _ J⟩};rw[AZ _ H hk]at e ⊢;refine⟨e,fun i=>?_⟩;show Rx (if (Ah i l).length=0 then PA.nil else Da (f+1) (Az 1 (Ah i l)));by_cases hc:(Ah i l).length=0;{rw[if_pos hc];exact trivial};rw[if_neg hc];exact ih _ (BF h hc).1
theorem jtu(f:Nat)(l:vL)(h:Eu f l):Ya (Da (f+1) l):=WU _ FD (kX f l h) (UM _ (kX f l h))
end
section
open Go Go.RowKit
attribute [local go_sem] Oper.semAt_some
noncomputable def Cc(l:vL):vB:=Ak (Ds l).text
theorem jvf(h:Dv l=0):Ii (Da 13 (Em l)) ⟨#[]⟩=l:=by
 have e:∀ q:vB,(⟨#[]⟩:vB)++q=q:=fun q=>Rg (by rw[CV];rfl);rw[jtr 12 _ (Ou (Fr h)) ⟨#[]⟩ (fun q A=>by obtain⟨p,H,rfl⟩:=bC.1 A;rw[e];exact TX p.1)]
 unfold Em;rw[dA]
 conv=>rhs;rw[<-jE l]
 refine cZ fun p H=>?_;show (Iz (⟨#[]⟩++Ci p.1),p.2)=p;rw[e,TC]
structure tO(w w1:World)(l:vL)(T:TypeId)(x:Value):Prop where
 ext:Af w w1
 pa:Hm (Da 13 (Em l)) (.iface T x) (CT w w1) w1
theorem jyo(s bm:Nat)(room:Int)(S:vT)(hs:Ev w s bm room S)(hN:BH S)(l:vL)(h:Ru S l):vQ 133 #[s,Cc l] w fun e w'=>∃ T x,e=.returned (.tuple #[.iface T x,true])/\tO w w' l T x:=by
 refine (jy9 w s bm room S hs hN (Cc l)).mono ?_;rintro e w' ⟨A,q⟩
 obtain⟨k,H⟩:=jtC w h
 unfold Cc at q;rw[H]at q
 obtain⟨T,x,rfl,J⟩:=q
 exact⟨T,x,rfl,A,J,fun z K=>K.2⟩
theorem uH(w1 W:vW)(l:vL)(h:Dv l=0)(T:TypeId)(x:vV)(D:Nat->Prop)(hp:Hm (Da 13 (Em l)) (.iface T x) D w1)(hE:Af w1 W):vQ (Vh (Da 13 (Em l))) #[x,.string ⟨#[]⟩,.slice none 0 0] W fun e w'=>∃ v,e=.returned v/\Ey w1 w' v l.length l:=by
 have q:=Ou (Fr h);have H:=OK (Fr h);refine (VH _ w1 W T x D ⟨#[]⟩ (.slice none 0 0) 0 12 [] hp (Av.nil _ _ hE) (rI 12 _ 12 q q) (by have:(⟨#[]⟩:vB).size=0:=rfl;omega) (by rw[UT 12 _ q];omega)).mono ?_;rintro e w' ⟨v,n,rfl,A⟩;rw[cL,jvf h]at A
 have:=A.len'
 subst this
 exact⟨v,rfl,A⟩
end
section
open Go Go.RowKit
theorem RX:∀ (xs:List Bk) (j:Nat) (p:Bk),xs[j]?=some p->(Ov xs)[j * 3]?=some (.string p.key)/\(Ov xs)[j * 3+1]?=some (.string p.value)/\(Ov xs)[j * 3+2]?=some (.bool p.gone)
 | [],j,p,h=>by simp at h
 | x :: r,0,p,h=>by simp at h;subst h;exact⟨rfl,rfl,rfl⟩
 | x :: r,j+1,p,h=>by
  obtain⟨e,q,A⟩:=RX r j p (by simpa using h)
  rw[show (j+1) * 3=j * 3+3 by omega]
  exact⟨e,q,A⟩
theorem Ja.rdT{w0 w:vW}{xs:List Bk}(h:Ja w0 w v n xs):Jb w v xs:=by
 have A:xs.length=n:=by have:=h.len;rw[SQ]at this;omega
 obtain⟨_,⟨rfl,h2⟩ |⟨g,e,H,rfl,h3,J,K,h6,h7⟩⟩:=h.own
 ·exact .inl ⟨none,0,rfl,bH vO⟩
 ·subst A;refine .inr ⟨g,0,e,rfl,(dD.1 J).1,K,fun j x q=>?_⟩;have hj:=(bI.1 q).1;obtain⟨O,X,Z⟩:=RX xs j x q;exact⟨by rw[bX,h.own.cellAt (j * 3) vO,O],by rw[bX,h.own.cellAt (j * 3+1) vO,X],by rw[bX,h.own.cellAt (j * 3+2) vO,Z]⟩
theorem ZT(h1:l.length<=40)(h2:m.length<=40):(Ku l m).length<=80:=by
 have e:∀ l m:vL,(Fs l m).length<=l.length+m.length:=fun l m=>by fun_induction Fs l m <;> simp only[bS,cY]at * <;> omega
 unfold Ku;split
 ·have:=e l m;omega
 ·simp
theorem mC{c:Bk}(h:c.bad=false):c.key.size<=6:=by
 unfold Bk.bad at h;have q:Up c.key=true:=by cases e:Up c.key with| true=>rfl| false=>rw[e]at h;simp at h
 unfold Up at q;exact (of_decide_eq_true q).2
structure Uw(P:PA):Prop where
 can:P=.no\/Dd P
 dp:Dp P 12
theorem Uw.va(h:Uw P):EU P:=by
 rcases h.can with h | h
 ·subst h;trivial
 ·exact WI P h
theorem Uw.there(h:Uw P):P.isNil=false:=by
 rcases h.can with h | h
 ·subst h;rfl
 ·cases P with| nil=>exact h.elim| _=>rfl
theorem Uw.dp9(h:Uw P):Dp P 900000:=Sv P 12 _ h.dp vO
theorem Uw.step(h:Uw P){c:Bk}(hc:c.bad=false):Uw (Oh P c):=by
 refine⟨(qZ h.can hc).1,?_⟩
 have e:=mC hc;have q:=JT c.key;unfold Oh;split
 ·exact KN P 12 _ h.dp
 ·exact OV P 12 _ _ h.dp vO
theorem uO(h:Dv l=0):Uw (Da 13 (Em l)):=⟨lU (Ou (Fr h)),rI 12 _ 12 (Ou (Fr h)) (Ou (Fr h))⟩
noncomputable def Qc(S:vT)(t:vB):Bool:=(Be S (Ak t).data.toList).isNone
noncomputable def Ed(S:vT)(U:vM):vM:=(Hb U).filter (Qc S)
theorem jqc(x:vB):Ed S (U++[x])=Ed S U++(if Ji (Hb U) x=true then []else if Qc S x=true then [x]else []):=by
 unfold Ed;rw[SA];unfold Ih
 by_cases h:Ji (Hb U) x=true
 ·rw[if_pos h,if_pos h,cB]
 ·rw[if_neg h,if_neg h,List.filter_append];congr 1;cases e:Qc S x <;> simp[e]
theorem jK:(Ed S U).length<=U.length:=bF (dY _ _) (SS U)
noncomputable def Hg(m:vL):vM:=Bu (Da 13 (Em m))
theorem UQ(h:Dv m=0):Hg m=Ej (Cu (An 12) (Em m)):=(MQ 12 _ (Ou (Fr h))).2.2
theorem jy7(h:Dv m=0):Bc (Da 13 (Em m))=(Ds m).text:=(MQ 12 _ (Ou (Fr h))).2.1
theorem jS(h:Dv m=0):(Hg m).length<=118:=by
 have e:=FF (Da 13 (Em m)) FD;have q:Bp (Da 13 (Em m))=En 12 (Em m):=UT 12 _ (Ou (Fr h));have A:=OK (Fr h);unfold Hg;omega
noncomputable def Hj(S:vT)(m:vL):vM:=(Ds m).text :: Ed S (Hg m)
def Gw(l:vL)(cs:List Bk):vL:=Hi (Lq l cs)
def Uc(w:vW)(S:vT)(l:vL)(cs:List Bk)(e:Ending)(w':vW):Prop:=
 if Fi l cs=0 then ∃ r,e=.returned (.tuple #[r,.int .i64 0])/\Cd w w' r (Hj S (Gw l cs)).length (Hj S (Gw l cs))else e=.returned (.tuple #[.slice none 0 0,.int .i64 (Fi l cs)])/\Af w w'
def jzQ(W3:vW)(D0:Nat->Prop)(P0:PA)(ds:List Bk)(pv iv:vV)(wr:vW):Prop:=∃ (k:Nat) (T:TypeId) (x:vV) (D:Nat->Prop),k<=ds.length/\iv=.int .i64 k/\pv=.iface T x/\Hm ((ds.take k).foldl Oh P0) (.iface T x) D wr/\(∀ z,D z->D0 z\/W3.heap.size<=z)/\Ad D0 W3 wr
theorem nR{P:PA}(h:Uw P):∀ (ds:List Bk),(∀ c∈ds,c.bad=false)->Uw (ds.foldl Oh P)
 | [],_=>h
 | c :: ds,hc=>nR (h.step (hc c bO)) ds (fun d e=>hc d (bM _ e))
theorem jvu(h:Uw P)(ds:List Bk)(hc:ds.any Bk.bad=false)(k:Nat):Uw ((ds.take k).foldl Oh P):=nR h _ fun c q=>by
 have:=List.any_eq_false.1 hc c (iK q)
 cases e:c.bad with
 | false=>rfl
 | true=>exact absurd e this
structure XL(W7:World)(S:vT)(mb:Nat)(t:vB)(U:vM)(k:Nat)(rv:Value)(wr:World):Prop where
 row:∃ n,Cd W7 wr rv n (t :: Ed S (U.take k))
 out:rv.ownBlock≠some mb
 tab:∃ es ck,Ae wr mb (.map (Al.arr es) ck)/\∀ x:vB,Dr es x.data.toList=Jv (Ez (U.take k) x)
def jzR(W7:vW)(S:vT)(mb:Nat)(t:vB)(U:vM)(rv iv:vV)(wr:vW):Prop:=∃ k:Nat,k<=U.length/\iv=.int .i64 k/\XL W7 S mb t U k rv wr
theorem jpZ(L:vM)(x y:vB):Ez (L++[x]) y=Ez L y+(if x.data.toList=y.data.toList then 1 else 0):=by
 unfold Ez;rw[bW,List.count_append,bN,fX,List.count_singleton]
 simp
theorem VN{α:Type}{l:List α}{x:α}(h:l[k]?=some x):l.take (k+1)=l.take k++[x]:=by rw[cA,h];rfl
end
section
open Go Go.RowKit
attribute [local go_sem] Oper.semAt_some
theorem Ey.newP{w:vW}{xs:vL}(h:Ey w w' v n xs):Ga (Fo w w') w' v xs:=⟨h.rd,fun b hb=>⟨h.new b hb,h.lt b hb⟩⟩
theorem Ja.newC{w:vW}{xs:List Bk}(h:Ja w w' v n xs):Fz (Fo w w') w' v xs:=⟨h.rdT,fun b hb=>⟨h.new b hb,h.lt b hb⟩⟩
theorem eM(v:vV)(xs:vL)(hv:Io w v xs)(hn:xs.length<=1000):vQ 78 #[v] w fun e w'=>∃ A,e=.returned A/\Ga (Fo w w') w' A xs/\Af w w':=by
 have J:=fun(W:vW) a n c=>Lib.run_eql_slice_nil (P:=Tryz.prog) W 30 49 a n c 0 0 Kk;have K:=Hd hv.g
 obtain⟨a,c,rfl⟩:=hv.sl
 have O:a=none->xs=[]:=fun Z=>by rcases hv with⟨_,_,_,h⟩ |⟨_,_,_,h,_⟩;{exact h};rw[Z]at h;cases h
 have HX:=Hd O
 obtain⟨n,q⟩:=vE xs.length
 rw[<-q]at K hn ⊢;have HN:=Hd q;clear O hv q;cases a with
 | none =>unfold vQ;go_in;go_wp2;go_ret;exact⟨_,rfl,⟨.inl ⟨none,0,rfl,HX.o trivial⟩,fun b e=>by cases e⟩,Ad.refl _ _⟩
 | some ad =>(unfold vQ;go_in;go_wp2_with (at_builtin;refine aH Ff (Av.lit (n:=0) #[] (Aa w) vI rfl) (K.o.ext ((Aa w).alloc _)) rfl rfl vO vI ?_;intro A w' H r2 r3));rw[bX]at H;have X:Hid (Ey w w' A n xs):=H;obtain⟨a',c',rfl⟩:=H.sl;clear H r2 r3;go_wp2;go_ret;exact⟨_,rfl,X.o.newP,X.o.ext⟩
theorem eL(v:vV)(xs:List Bk)(hv:Jb w v xs)(hn:xs.length<=1000):vQ 40 #[v] w fun e w'=>∃ A,e=.returned A/\Fz (Fo w w') w' A xs/\Af w w':=by
 have J:=fun(W:vW) a n c=>Lib.run_eql_slice_nil (P:=Tryz.prog) W 31 47 a n c 0 0 Nz;have K:=Hd hv.g
 obtain⟨a,c,rfl⟩:=hv.sl
 have O:a=none->xs=[]:=fun Z=>by rcases hv with⟨_,_,_,h⟩ |⟨_,_,_,h,_⟩;{exact h};rw[Z]at h;cases h
 have HX:=Hd O
 obtain⟨n,q⟩:=vE xs.length
 rw[<-q]at K hn ⊢;have HN:=Hd q;clear O hv q;cases a with
 | none =>unfold vQ;go_in;go_wp2;go_ret;exact⟨_,rfl,⟨.inl ⟨none,0,rfl,HX.o trivial⟩,fun b e=>by cases e⟩,Ad.refl _ _⟩
 | some ad =>(unfold vQ;go_in;go_wp2_with (at_builtin;refine aH Fe (Av.lit (n:=0) #[] (Aa w) vI rfl) (K.o.ext ((Aa w).alloc _)) rfl rfl vO vI ?_;intro A w' H r2 r3));rw[bX]at H;have X:Hid (Ja w w' A n xs):=H;obtain⟨a',c',rfl⟩:=H.sl;clear H r2 r3;go_wp2;go_ret;exact⟨_,rfl,X.o.newC,X.o.ext⟩
end
