/- Lemmas; each is under no condition but those that it states. -/
import Derived.Test.YtdofbjccfkaijaaGreatDoorPn31
namespace Go.Proofs.YtdofbjccfkaijaaGreatDoor
set_option linter.unusedSimpArgs false
set_option linter.unusedVariables false
set_option maxRecDepth 100000
set_option maxHeartbeats 16000000
open Go Go.RowKit
section
attribute [local go_sem] Oper.semAt_some
theorem jvi(a b c d:Bool)(h:jed a b=jed c d):a=c/\b=d:=by revert h;revert a b c d;decide
theorem jtv{p q:vB}{a b:Bool}(hp:jaB p=true)(hq:jaB q=true)(h:a≠b\/oddB q≠oddB p):putB q a≠putB p b:=fun e=>by
 have e:=congrArg jbu e;rw[jgP q a hq,jgP p b hp]at e;have e:(jch q a++q.data.toList)=(jch p b++p.data.toList):=congrArg (fun x:vB=>x.data.toList) e;unfold jch at e;rw[cZ,cZ]at e
 obtain⟨o,z⟩:=jvi _ _ _ _ (List.cons.inj e).1
 rcases h with h | h
 ·exact h o
 ·exact h z
def lfN(leaf:Bool):Nat:=if leaf then 1 else 0
def RGi(w:vW)(n:Nat)(jv:vV)(wr:vW):Prop:=∃ j:Nat,j<=n/\jv=.int .i64 j/\Ext w wr
def RGo(w:vW)(jv:vV)(wr:vW):Prop:=(jv=.int .i64 1\/jv=.int .i64 2)/\Ext w wr
theorem jxC{a:vN}{p:vB}{n:Nat}(h:a.length=n):(⟨(a++p.data.toList).toArray⟩:vB).extract n (⟨(a++p.data.toList).toArray⟩:vB).size=p:=by
 subst h;apply ByteArray.ext;rw[dA];show (a++p.data.toList).toArray.extract a.length (a++p.data.toList).length=_;have e:p.data.toList.length=p.size:=rfl
 simp
 rw[bN vO]
theorem jgm{a b:vB}(h:a≠b):(a.toList == b.toList)=false:=by
 rw[bO,bO];exact beq_eq_false_iff_ne.2 fun e=>h (ByteArray.ext (Array.ext' e))
theorem jwb(w:vW)(p:vB)(leaf:Bool)(hs:p.size<=10000)(hv:jaB p=true)(ho:oddB p=true):vR 189 #[.string (putB p leaf)] w (.tuple #[.string p,.bool leaf,.bool true]):=by
 have z:=jn8 w (putB p leaf) (by have:=jbn p leaf;omega);have a2:jch p leaf=[jed leaf true]:=by unfold jch;rw[ho,if_pos rfl]
 rw[jgP p leaf hv,a2]at z
 obtain⟨J,E⟩:∃ J:vB,J=⟨([jed leaf true]++p.data.toList).toArray⟩:=⟨_,rfl⟩
 rw[<-E]at z;have hx:J.extract 1 J.size=p:=by rw[E];exact jxC rfl
 have a5:J.size=p.size+1:=by rw[E];show (jed leaf true :: p.data.toList).length=_;rw[bF];rfl
 have b1:(1:Int)<=(J.size:Int):=vO
 have Q:=Hd z;have X:=Hd (fun w1 l=>jmT w1 p l vO hv);have a3:=Hd (fun l (h:l≠leaf)=>jgm (jtv (p:=p) (q:=p) (a:=l) (b:=leaf) hv hv (.inl h)));have Z:=Hd (show ((putB p leaf).toList ==(putB p leaf).toList)=true by simp)
 obtain⟨s,O⟩:=vE (putB p leaf)
 rw[<-O]at Q a3 ⊢;rw[show putB p leaf=s from O.symm]at Z;have a4:=Hd O;clear z E hv ho a2 O a5;unfold vR vQ;go_in;go_wp2_with fail
 refine Q.o.mono ?_;rintro e w1 ⟨rfl,H⟩;have a6:=Hd H;clear H Q;go_wp2_with fail
 go_loopw [6] (fun kv wr=>kv=.int .i64 1/\Ext w wr) (fun _ _=>0)
 case atStart=>exact⟨rfl,a6.o⟩
 case round =>
  obtain⟨rfl,H⟩:=hrel
  have HE:=Hd H;clear H;go_wp2_with fail
  go_loopw [7] (fun jv wr=>RGi w (lfN leaf) jv wr) (fun jv _=>2 - (intOf jv).toNat)
  case atStart=>exact⟨0,cE _,rfl,HE.o⟩
  case round =>
   obtain⟨j,hj,rfl,H⟩:=hrel
   have HE:=Hd H;have a0:j<=1:=by unfold lfN at hj;cases leaf <;> simp at hj <;> omega
   clear H
   by_cases hjl:j=lfN leaf
   ·cases leaf with
    | true =>
     have a1:j=1:=hjl;subst a1;clear hjl hj a0;have A:=X.o;have a7:=Z.o;go_wp2_with fail
     refine vH (A _ true) fun w2 H=>?_;have K:=Hd (HE.o.trans H);rw[<-a4.o];clear A;go_wp2_with fail
     exact bodyPost_ret (v:=.tuple #[.string p,.bool true,.bool true]) vY rfl ⟨rfl,K.o⟩
    | false =>
     have a1:j=0:=hjl;subst a1;clear hjl hj a0;have A:=X.o;have a7:=Z.o;go_wp2_with fail
     refine vH (A _ false) fun w2 H=>?_;have K:=Hd (HE.o.trans H);rw[<-a4.o];clear A;go_wp2_with fail
     exact bodyPost_ret (v:=.tuple #[.string p,.bool false,.bool true]) vY rfl ⟨rfl,K.o⟩
   ·have hl:leaf=true:=by cases leaf with | true=>rfl | false=>unfold lfN at hj hjl;simp at hj hjl;omega
    subst hl;have a8:j=0:=by have h1:¬ j=1:=hjl;omega
    subst a8;have a9:=a3.o false vI;have A:=X.o;clear hjl hj a0;go_wp2_with fail
    refine vH (A _ false) fun w2 H=>?_;have K:=Hd (HE.o.trans H);clear A;go_wp2_with fail
    go_roundw
    case rel=>exact⟨1,bL _,rfl,K.o⟩
    case measure=>simp[intOf]
theorem jtL(w:vW)(p:vB)(leaf:Bool)(hs:p.size<=10000)(hv:jaB p=true)(ho:oddB p=false):vR 189 #[.string (putB p leaf)] w (.tuple #[.string p,.bool leaf,.bool true]):=by
 have J:=jn8 w (putB p leaf) (by have:=jbn p leaf;omega);have a8:jch p leaf=[jed leaf false,0]:=by unfold jch;rw[ho,if_neg vI]
 rw[jgP p leaf hv,a8]at J
 obtain⟨E,O⟩:∃ E:vB,E=⟨([jed leaf false,0]++p.data.toList).toArray⟩:=⟨_,rfl⟩
 rw[<-O]at J;have hx:E.extract 2 E.size=p:=by rw[O];exact jxC rfl
 obtain⟨z,hz⟩:∃ z:vB,z=(⟨#[0]⟩:vB)++p:=⟨_,rfl⟩
 have a1:z.data.toList=0 :: p.data.toList:=by rw[hz,cY];simp
 have c2:E.extract 1 E.size=z:=by
  have:E=⟨([jed leaf false]++z.data.toList).toArray⟩:=by rw[O,a1];rfl
  rw[this];exact jxC rfl
 have a2:jaB z=true:=by rw[hz];exact jfS vI hv
 have a9:z.size=p.size+1:=by show z.data.toList.length=_;rw[a1,bF];rfl
 have b0:oddB z=true:=by
  unfold oddB at ho ⊢;rw[a9]
  have:¬ p.size % 2=1:=by simpa using ho
  simp;omega
 have b3:=Hd (fun w1 l=>jmT w1 z l vO a2);have a3:=Hd (fun l=>jgm (jtv (p:=p) (q:=z) (a:=l) (b:=leaf) hv a2 (.inr (by rw[b0,ho];decide))));have b7:E.size=p.size+2:=by rw[O];show (jed leaf false :: 0 :: p.data.toList).length=_;rw[bF,bF];rfl
 have b1:(1:Int)<=(E.size:Int):=vO
 have b2:(2:Int)<=(E.size:Int):=vO
 have a4:=Hd J;have a5:=Hd (fun w1 l=>jmT w1 p l vO hv);have b4:=Hd (fun l (h:l≠leaf)=>jgm (jtv (p:=p) (q:=p) (a:=l) (b:=leaf) hv hv (.inl h)));have a6:=Hd (show ((putB p leaf).toList ==(putB p leaf).toList)=true by simp)
 obtain⟨s,a0⟩:=vE (putB p leaf)
 rw[<-a0]at a4 b4 a3 ⊢;rw[show putB p leaf=s from a0.symm]at a6;have b5:=Hd a0;clear J O hv ho a8 a0 b7 hz a1 a2 a9 b0;unfold vR vQ;go_in;go_wp2_with fail
 refine a4.o.mono ?_;rintro e w1 ⟨rfl,H⟩;have b8:=Hd H;clear H a4;go_wp2_with fail
 go_loopw [6] (fun kv wr=>RGo w kv wr) (fun kv _=>3 - (intOf kv).toNat)
 case atStart=>exact⟨.inl rfl,b8.o⟩
 case round =>
  obtain⟨b9,H⟩:=hrel
  have Z:=Hd H;clear H;rcases b9 with rfl | rfl
  ·go_wp2_with fail
   go_loopw [7] (fun jv wr=>RGi w 2 jv wr) (fun jv _=>2 - (intOf jv).toNat)
   case atStart=>exact⟨0,cE _,rfl,Z.o⟩
   case round =>
    obtain⟨j,Q,rfl,H⟩:=hrel
    have Z:=Hd H;clear H
    by_cases h0:j=0
    ·subst h0
     have b6:=a3.o false;have A:=b3.o;clear Q;go_wp2_with fail
     refine vH (A _ false) fun w2 H=>?_;have K:=Hd (Z.o.trans H);clear A;go_wp2_with fail
     go_roundw
     case rel=>exact⟨1,by omega,rfl,K.o⟩
     case measure=>simp[intOf]
    by_cases h1:j=1
    ·subst h1
     have b6:=a3.o true;have A:=b3.o;clear Q h0;go_wp2_with fail
     refine vH (A _ true) fun w2 H=>?_;have K:=Hd (Z.o.trans H);clear A;go_wp2_with fail
     go_roundw
     case rel=>exact⟨2,by omega,rfl,K.o⟩
     case measure=>simp[intOf]
    ·have X:j=2:=vO
     subst X;clear h0 h1 Q;go_wp2_with fail
     go_roundw
     case rel=>exact⟨.inr rfl,Z.o⟩
     case measure=>simp[intOf]
  go_wp2_with fail
  go_loopw [7] (fun jv wr=>RGi w (lfN leaf) jv wr) (fun jv _=>2 - (intOf jv).toNat)
  case atStart=>exact⟨0,cE _,rfl,Z.o⟩
  case round =>
   obtain⟨j,Q,rfl,H⟩:=hrel
   have Z:=Hd H;have X:j<=1:=by unfold lfN at Q;cases leaf <;> simp at Q <;> omega
   clear H
   by_cases hjl:j=lfN leaf
   ·cases leaf with
    | true =>
     have a7:j=1:=hjl;subst a7;clear hjl Q X;have A:=a5.o;have c0:=a6.o;go_wp2_with fail
     refine vH (A _ true) fun w2 H=>?_;have K:=Hd (Z.o.trans H);rw[<-b5.o];clear A;go_wp2_with fail
     exact bodyPost_ret (v:=.tuple #[.string p,.bool true,.bool true]) vY rfl ⟨rfl,K.o⟩
    | false =>
     have a7:j=0:=hjl;subst a7;clear hjl Q X;have A:=a5.o;have c0:=a6.o;go_wp2_with fail
     refine vH (A _ false) fun w2 H=>?_;have K:=Hd (Z.o.trans H);rw[<-b5.o];clear A;go_wp2_with fail
     exact bodyPost_ret (v:=.tuple #[.string p,.bool false,.bool true]) vY rfl ⟨rfl,K.o⟩
   ·have hl:leaf=true:=by cases leaf with | true=>rfl | false=>unfold lfN at Q hjl;simp at Q hjl;omega
    subst hl;have c1:j=0:=by have h1:¬ j=1:=hjl;omega
    subst c1;have b6:=b4.o false vI;have A:=a5.o;clear hjl Q X;go_wp2_with fail
    refine vH (A _ false) fun w2 H=>?_;have K:=Hd (Z.o.trans H);clear A;go_wp2_with fail
    go_roundw
    case rel=>exact⟨1,bL _,rfl,K.o⟩
    case measure=>simp[intOf]
theorem jwY(w:vW)(p:vB)(leaf:Bool)(hs:p.size<=10000)(hv:jaB p=true):vR 189 #[.string (putB p leaf)] w (.tuple #[.string p,.bool leaf,.bool true]):=by
 cases ho:oddB p with
 | true=>exact jwb w p leaf hs hv ho
 | false=>exact jtL w p leaf hs hv ho
end
